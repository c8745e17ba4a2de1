/-
 What is proved here: laws that any program may use: a map keyed by pairs of ints (an array of two, or a struct of two), told as a function to optional values: look-up, store.
-/
import Derived.Test.YtebklpnkcicpjaaDoorFbT
import Derived.DeepKeys3
namespace Go.Proofs.YtebklpnkcicpjaaDoor
open Go.RowKit Go.MapKept Go.ChangeMaps
set_option linter.unusedVariables false
set_option linter.unusedSimpArgs false

def pwf (k : Int × Int) : Prop := (Lit.int .i64 k.1).wf = true ∧ (Lit.int .i64 k.2).wf = true
abbrev pv (k : Int × Int) : Value := .agg #[.int .i64 k.1, .int .i64 k.2]
theorem pv_inj {a b : Int × Int} (h : pv a = pv b) : a = b := by
 obtain ⟨a1, a2⟩ := a
 obtain ⟨b1, b2⟩ := b
 simp [pv] at h
 simp [h.1, h.2]
structure PairKey (P : Program) (kt : TypeId) : Prop where
 law : Go.Maps.Keyed P kt
 key : ∀ k, pwf k → ∃ l, keyOf P kt (pv k) = some l
structure Pq (f : Int × Int → Option Value) (es : Array MapEntry) (clock : Nat) : Prop where
 stamped : Stamped es clock
 vals : ∀ x ∈ es.toList, ∃ k, pwf k ∧ x.key = pv k ∧ f k = some x.val
 rest : ∀ k v, f k = some v → ∃ x ∈ es.toList, x.key = pv k
def Pm (w : World) (b : Nat) (f : Int × Int → Option Value) : Prop := ∃ es clock, w.heap[b]? = some (.map es clock) ∧ Pq f es clock
theorem Pm.keep {w w' : World} {b : Nat} {f : Int × Int → Option Value} (h : Pm w b f) (hb : w'.heap[b]? = w.heap[b]?) : Pm w' b f := by
 obtain ⟨es, clock, h1, h2⟩ := h
 exact ⟨es, clock, hb.trans h1, h2⟩
theorem Pm.lt {w : World} {b : Nat} {f : Int × Int → Option Value} (h : Pm w b f) : b < w.heap.size := by
 obtain ⟨es, clock, h1, h2⟩ := h
 exact (Array.getElem?_eq_some_iff.1 h1).1
theorem Pm.below {w w' : World} {b B : Nat} {f : Int × Int → Option Value} (h : Pm w b f) (hb : Below B w w') (hB : b < B) : Pm w' b f := h.keep (hb.block _ hB)
theorem Pm.made (w : World) : Pm (w.alloc (.map #[] 0)) w.heap.size (fun _ => none) := ⟨#[], 0, heap_alloc_new _ _, ⟨stamped_empty 0, by simp, by simp⟩⟩
theorem Pm.wf {w : World} {b : Nat} {f : Int × Int → Option Value} (h : Pm w b f) {k : Int × Int} {v : Value} (hk : f k = some v) : pwf k := by
 obtain ⟨es, clock, h1, h2⟩ := h
 obtain ⟨x, hx, e⟩ := h2.rest k v hk
 obtain ⟨k', w', e', _⟩ := h2.vals x hx
 rw [e] at e'
 rw [pv_inj e']
 exact w'

section
variable {P : Program} {kt t e : TypeId}
theorem Pq.keys (KL : PairKey P kt) {f : Int × Int → Option Value} {es : Array MapEntry} {clock : Nat} (h : Pq f es clock) : ∀ x ∈ es.toList, ∃ l, keyOf P kt x.key = some l := by
 intro x hx
 obtain ⟨k, hw, e1, _⟩ := h.vals x hx
 rw [e1]
 exact KL.key k hw
theorem Pm.look_none {w : World} {b : Nat} {f : Int × Int → Option Value} (h : Pm w b f) (KL : PairKey P kt) (ht : P.underlying t = some (.map kt e)) {z : Value} (hz : (zeroValue e).run P w = .ok z w) {k : Int × Int} (hw : pwf k) (hf : f k = none) (c : Bool) :
  (Instr.lookup t (.map (some b)) (pv k) c).run P w = .ok (if c then .tuple #[z, .bool false] else z) w := by
 obtain ⟨es, clock, hb, q⟩ := h
 obtain ⟨l, hl⟩ := KL.key k hw
 rcases KL.law.find w hl es.toList (q.keys KL) with ⟨h1, h2⟩ | ⟨j, e0, h1, h2, h3⟩
 ·simp [Instr.lookup, run_underlying ht, MapKept.run_getObj_map hb, KL.law.check w _ hl, h1, hz, Result.andThen]
 ·obtain ⟨k', _, e1, e2⟩ := q.vals e0 (List.mem_of_getElem? h2)
  have : k' = k := pv_inj (e1.symm.trans h3)
  rw [this, hf] at e2
  cases e2
theorem Pm.look_some {w : World} {b : Nat} {f : Int × Int → Option Value} (h : Pm w b f) (KL : PairKey P kt) (ht : P.underlying t = some (.map kt e)) {k : Int × Int} {v : Value} (hf : f k = some v) (c : Bool) :
  (Instr.lookup t (.map (some b)) (pv k) c).run P w = .ok (if c then .tuple #[v, .bool true] else v) w := by
 have hw := h.wf hf
 obtain ⟨es, clock, hb, q⟩ := h
 obtain ⟨l, hl⟩ := KL.key k hw
 rcases KL.law.find w hl es.toList (q.keys KL) with ⟨h1, h2⟩ | ⟨j, e0, h1, h2, h3⟩
 ·obtain ⟨x, hx, ex⟩ := q.rest k v hf
  exact absurd ex (h2 x hx)
 ·obtain ⟨k', _, e1, e2⟩ := q.vals e0 (List.mem_of_getElem? h2)
  have : k' = k := pv_inj (e1.symm.trans h3)
  rw [this, hf] at e2
  cases e2
  simp [Instr.lookup, run_underlying ht, MapKept.run_getObj_map hb, KL.law.check w _ hl, h1, Result.andThen]
def pdo (f : Int × Int → Option Value) (k : Int × Int) (v : Value) : Int × Int → Option Value := fun x => if x = k then some v else f x
theorem Pm.put {w : World} {b : Nat} {f : Int × Int → Option Value} (h : Pm w b f) (KL : PairKey P kt) (ht : P.underlying t = some (.map kt e)) {k : Int × Int} (hw : pwf k) (v : Value) :
  ∃ w', (Instr.mapUpdate t (.map (some b)) (pv k) v).run P w = .ok () w' ∧ Pm w' b (pdo f k v) ∧ w'.os = w.os ∧ w'.tape = w.tape ∧ w'.output = w.output ∧ w'.heap.size = w.heap.size ∧ ∀ i, i ≠ b → w'.heap[i]? = w.heap[i]? := by
 obtain ⟨es, clock, hb, q⟩ := h
 obtain ⟨s1, s2, s3⟩ := (stamped_iff es clock).1 q.stamped
 have K := KL.law
 obtain ⟨l, hkey⟩ := KL.key k hw
 rcases K.find w hkey es.toList (q.keys KL) with ⟨h1, h2⟩ | ⟨j, e0, h1, h2, h3⟩
 ·refine ⟨setBlock w b (.map (es.push ⟨pv k, v, clock⟩) (clock + 1)), ?_, ⟨_, _, heap_setBlock_same hb _, ⟨stamped_push q.stamped h2, fun x hx => ?_, fun k' v' hf' => ?_⟩⟩, rfl, rfl, rfl, by simp [setBlock], fun i hi => heap_setBlock_other hb _ hi⟩
  ·simp [Instr.mapUpdate, run_underlying ht, MapKept.run_getObj_map hb, K.check w false hkey, h1, MapKept.run_setObj_map _ hb, Result.andThen, setBlock]
  ·simp only [Array.toList_push, List.mem_append, List.mem_singleton] at hx
   rcases hx with hx | rfl
   ·obtain ⟨k', hk', e1, e2⟩ := q.vals x hx
    refine ⟨k', hk', e1, ?_⟩
    unfold pdo
    rw [if_neg (fun e => h2 x hx (by rw [e1, e]))]
    exact e2
   ·exact ⟨k, hw, rfl, by simp [pdo]⟩
  ·unfold pdo at hf'
   by_cases he : k' = k
   ·exact ⟨⟨pv k, v, clock⟩, by simp, by simp [he]⟩
   ·rw [if_neg he] at hf'
    obtain ⟨x, hx, ex⟩ := q.rest k' v' hf'
    exact ⟨x, by simp only [Array.toList_push, List.mem_append]; exact .inl hx, ex⟩
 ·have hj : es[j]? = some e0 := by simpa using h2
  have hjl : j < es.toList.length := (List.getElem?_eq_some_iff.1 h2).1
  have hlist : (es.modify j (fun e' => { e' with key := pv k, val := v })).toList = es.toList.set j { e0 with key := pv k, val := v } := by rw [Array.toList_modify, modify_eq_set _ _ _ _ h2]
  refine ⟨setBlock w b (.map (es.modify j (fun e' => { e' with key := pv k, val := v })) clock), ?_, ⟨_, _, heap_setBlock_same hb _, ⟨?_, fun x hx => ?_, fun k' v' hf' => ?_⟩⟩, rfl, rfl, rfl, by simp [setBlock], fun i hi => heap_setBlock_other hb _ hi⟩
  ·simp [Instr.mapUpdate, run_underlying ht, MapKept.run_getObj_map hb, K.check w false hkey, h1, hj, h3, K.stays w hkey, MapKept.run_setObj_map _ hb, Result.andThen, setBlock]
  ·exact stamped_modify q.stamped j _ (fun e _ => rfl) (fun e' _ he' => by rw [hj] at he'; cases he'; exact h3.symm)
  ·rw [hlist] at hx
   obtain ⟨i, hi⟩ := List.mem_iff_getElem?.1 hx
   rw [List.getElem?_set] at hi
   by_cases e : j = i
   ·rw [if_pos e, if_pos (by omega)] at hi
    cases hi
    exact ⟨k, hw, rfl, by simp [pdo]⟩
   ·rw [if_neg e] at hi
    obtain ⟨k', hk', e1, e2⟩ := q.vals x (List.mem_of_getElem? hi)
    refine ⟨k', hk', e1, ?_⟩
    have hne : k' ≠ k := fun ee => by
     have := ikeys_apart s3 h2 hi (fun e' => e e'.symm)
     rw [e1, ee, h3] at this
     exact this rfl
    simp [pdo, hne, e2]
  ·unfold pdo at hf'
   rw [hlist]
   by_cases he : k' = k
   ·exact ⟨{ e0 with key := pv k, val := v }, List.mem_iff_getElem?.2 ⟨j, by rw [List.getElem?_set, if_pos rfl, if_pos hjl]⟩, by simp [he]⟩
   ·rw [if_neg he] at hf'
    obtain ⟨x, hx, ex⟩ := q.rest k' v' hf'
    obtain ⟨i, hi⟩ := List.mem_iff_getElem?.1 hx
    have hij : j ≠ i := fun e => by
     subst e
     rw [h2] at hi
     cases hi
     rw [h3] at ex
     exact he (pv_inj ex).symm
    exact ⟨x, List.mem_iff_getElem?.2 ⟨i, by rw [List.getElem?_set, if_neg hij]; exact hi⟩, ex⟩
end

end Go.Proofs.YtebklpnkcicpjaaDoor


