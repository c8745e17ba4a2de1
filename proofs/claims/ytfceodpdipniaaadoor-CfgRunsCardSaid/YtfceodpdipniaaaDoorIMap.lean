/-
  What is proved here: laws that any program may use: a map keyed by ints, told as a function to optional values: look-up, store, range.
-/
import Derived.Test.YtfceodpdipniaaaDoorExt
import Derived.WideKeyEntry
import Derived.Maps.RangeRun
import Derived.Maps.Keyed
import Derived.Carry
namespace Go.Proofs.YtfceodpdipniaaaDoor
open Go.RowKit Go.MapKept Go.ChangeMaps
set_option linter.unusedVariables false
set_option linter.unusedSimpArgs false

def kwf (k : Int) : Prop := (Lit.int .i64 k).wf = true
abbrev kv (k : Int) : Value := .int .i64 k
theorem kwf_of {k : Int} (h0 : -9223372036854775808 ≤ k) (h1 : k ≤ 9223372036854775807) : kwf k := by
  unfold kwf
  have e1 : IntKind.i64.min = -9223372036854775808 := by decide
  have e2 : IntKind.i64.max = 9223372036854775807 := by decide
  simp [Lit.wf, e1, e2, h0, h1]
structure Iq (f : Int → Option Value) (es : Array MapEntry) (clock : Nat) : Prop where
  stamped : Stamped es clock
  vals : ∀ x ∈ es.toList, ∃ k, kwf k ∧ x.key = kv k ∧ f k = some x.val
  rest : ∀ k v, f k = some v → ∃ x ∈ es.toList, x.key = kv k
def Im (w : World) (b : Nat) (f : Int → Option Value) : Prop := ∃ es clock, w.heap[b]? = some (.map es clock) ∧ Iq f es clock
theorem Im.keep {w w' : World} {b : Nat} {f : Int → Option Value} (h : Im w b f) (hb : w'.heap[b]? = w.heap[b]?) : Im w' b f := by
  obtain ⟨es, clock, h1, h2⟩ := h
  exact ⟨es, clock, hb.trans h1, h2⟩
theorem Im.lt {w : World} {b : Nat} {f : Int → Option Value} (h : Im w b f) : b < w.heap.size := by
  obtain ⟨es, clock, h1, h2⟩ := h
  exact (Array.getElem?_eq_some_iff.1 h1).1
theorem Im.below {w w' : World} {b B : Nat} {f : Int → Option Value} (h : Im w b f) (hb : Below B w w') (hB : b < B) : Im w' b f := h.keep (hb.block _ hB)
theorem Im.ext {w : World} {b : Nat} {f : Int → Option Value} (h : Im w b f) (x : Ext w) : Im x.w b f := h.below x.h h.lt
theorem Im.made (w : World) : Im (w.alloc (.map #[] 0)) w.heap.size (fun _ => none) := ⟨#[], 0, heap_alloc_new _ _, ⟨stamped_empty 0, by simp, by simp⟩⟩
theorem Im.wf {w : World} {b : Nat} {f : Int → Option Value} (h : Im w b f) {k : Int} {v : Value} (hk : f k = some v) : kwf k := by
  obtain ⟨es, clock, h1, h2⟩ := h
  obtain ⟨x, hx, e⟩ := h2.rest k v hk
  obtain ⟨k', w', e', _⟩ := h2.vals x hx
  rw [e] at e'
  have : k = k' := by simpa [kv] using e'
  rwa [this]

section
variable {P : Program} {kt t e : TypeId}
theorem keyOf_kv (hk : P.underlying kt = some (.int .i64)) {k : Int} (h : kwf k) : keyOf P kt (kv k) = some (.int .i64 k) := Go.Maps.keyOf_int_mk hk h
theorem Iq.keys (hk : P.underlying kt = some (.int .i64)) {f : Int → Option Value} {es : Array MapEntry} {clock : Nat} (h : Iq f es clock) : ∀ x ∈ es.toList, ∃ l, keyOf P kt x.key = some l := by
  intro x hx
  obtain ⟨k, hw, e1, _⟩ := h.vals x hx
  rw [e1]
  exact ⟨_, keyOf_kv hk hw⟩

theorem Im.look_none {w : World} {b : Nat} {f : Int → Option Value} (h : Im w b f) (hk : P.underlying kt = some (.int .i64)) (ht : P.underlying t = some (.map kt e)) {z : Value} (hz : (zeroValue e).run P w = .ok z w) {k : Int} (hw : kwf k) (hf : f k = none) (c : Bool) :
    (Instr.lookup t (.map (some b)) (kv k) c).run P w = .ok (if c then .tuple #[z, .bool false] else z) w := by
  obtain ⟨es, clock, hb, q⟩ := h
  rcases (Go.Maps.int_keyed hk).find w (keyOf_kv hk hw) es.toList (q.keys hk) with ⟨h1, h2⟩ | ⟨j, e0, h1, h2, h3⟩
  · simp [Instr.lookup, run_underlying ht, MapKept.run_getObj_map hb, (Go.Maps.int_keyed hk).check w _ (keyOf_kv hk hw), h1, hz, Result.andThen]
  · obtain ⟨k', _, e1, e2⟩ := q.vals e0 (List.mem_of_getElem? h2)
    have : k' = k := by rw [h3] at e1; exact (by simpa [kv] using e1.symm)
    rw [this, hf] at e2
    cases e2
theorem Im.look_some {w : World} {b : Nat} {f : Int → Option Value} (h : Im w b f) (hk : P.underlying kt = some (.int .i64)) (ht : P.underlying t = some (.map kt e)) {k : Int} {v : Value} (hf : f k = some v) (c : Bool) :
    (Instr.lookup t (.map (some b)) (kv k) c).run P w = .ok (if c then .tuple #[v, .bool true] else v) w := by
  have hw := h.wf hf
  obtain ⟨es, clock, hb, q⟩ := h
  rcases (Go.Maps.int_keyed hk).find w (keyOf_kv hk hw) es.toList (q.keys hk) with ⟨h1, h2⟩ | ⟨j, e0, h1, h2, h3⟩
  · obtain ⟨x, hx, ex⟩ := q.rest k v hf
    exact absurd ex (h2 x hx)
  · obtain ⟨k', _, e1, e2⟩ := q.vals e0 (List.mem_of_getElem? h2)
    have : k' = k := by rw [h3] at e1; exact (by simpa [kv] using e1.symm)
    rw [this, hf] at e2
    cases e2
    simp [Instr.lookup, run_underlying ht, MapKept.run_getObj_map hb, (Go.Maps.int_keyed hk).check w _ (keyOf_kv hk hw), h1, Result.andThen]

def updo (f : Int → Option Value) (k : Int) (v : Value) : Int → Option Value := fun x => if x = k then some v else f x
theorem ikeys_apart {l : List MapEntry} (h : l.Pairwise (fun x y => x.key ≠ y.key)) {i j : Nat} {a c : MapEntry} (hi : l[i]? = some a) (hj : l[j]? = some c) (hne : j ≠ i) : c.key ≠ a.key := by
  obtain ⟨hi', ei⟩ := List.getElem?_eq_some_iff.1 hi
  obtain ⟨hj', ej⟩ := List.getElem?_eq_some_iff.1 hj
  rw [← ei, ← ej]
  rcases Nat.lt_or_gt_of_ne hne with h1 | h1
  · exact List.pairwise_iff_getElem.1 h j i hj' hi' h1
  · exact fun e => List.pairwise_iff_getElem.1 h i j hi' hj' h1 e.symm
/-- 'm[k] = v'. -/
theorem Im.put {w : World} {b : Nat} {f : Int → Option Value} (h : Im w b f) (hk : P.underlying kt = some (.int .i64)) (ht : P.underlying t = some (.map kt e)) {k : Int} (hw : kwf k) (v : Value) :
    ∃ w', (Instr.mapUpdate t (.map (some b)) (kv k) v).run P w = .ok () w' ∧ Im w' b (updo f k v) ∧ w'.os = w.os ∧ w'.tape = w.tape ∧ w'.output = w.output ∧ w'.heap.size = w.heap.size ∧ ∀ i, i ≠ b → w'.heap[i]? = w.heap[i]? := by
  obtain ⟨es, clock, hb, q⟩ := h
  obtain ⟨s1, s2, s3⟩ := (stamped_iff es clock).1 q.stamped
  have K := Go.Maps.int_keyed (P := P) hk
  have hkey := keyOf_kv hk hw
  rcases K.find w hkey es.toList (q.keys hk) with ⟨h1, h2⟩ | ⟨j, e0, h1, h2, h3⟩
  · refine ⟨setBlock w b (.map (es.push ⟨kv k, v, clock⟩) (clock + 1)), ?_, ⟨_, _, heap_setBlock_same hb _, ⟨stamped_push q.stamped h2, fun x hx => ?_, fun k' v' hf' => ?_⟩⟩, rfl, rfl, rfl, by simp [setBlock], fun i hi => heap_setBlock_other hb _ hi⟩
    · simp [Instr.mapUpdate, run_underlying ht, MapKept.run_getObj_map hb, K.check w false hkey, h1, MapKept.run_setObj_map _ hb, Result.andThen, setBlock]
    · simp only [Array.toList_push, List.mem_append, List.mem_singleton] at hx
      rcases hx with hx | rfl
      · obtain ⟨k', hk', e1, e2⟩ := q.vals x hx
        refine ⟨k', hk', e1, ?_⟩
        unfold updo
        rw [if_neg (fun e => h2 x hx (by rw [e1, e]))]
        exact e2
      · exact ⟨k, hw, rfl, by simp [updo]⟩
    · unfold updo at hf'
      by_cases he : k' = k
      · exact ⟨⟨kv k, v, clock⟩, by simp, by simp [he]⟩
      · rw [if_neg he] at hf'
        obtain ⟨x, hx, ex⟩ := q.rest k' v' hf'
        exact ⟨x, by simp only [Array.toList_push, List.mem_append]; exact .inl hx, ex⟩
  · have hj : es[j]? = some e0 := by simpa using h2
    have hjl : j < es.toList.length := (List.getElem?_eq_some_iff.1 h2).1
    have hlist : (es.modify j (fun e' => { e' with key := kv k, val := v })).toList = es.toList.set j { e0 with key := kv k, val := v } := by rw [Array.toList_modify, modify_eq_set _ _ _ _ h2]
    refine ⟨setBlock w b (.map (es.modify j (fun e' => { e' with key := kv k, val := v })) clock), ?_, ⟨_, _, heap_setBlock_same hb _, ⟨?_, fun x hx => ?_, fun k' v' hf' => ?_⟩⟩, rfl, rfl, rfl, by simp [setBlock], fun i hi => heap_setBlock_other hb _ hi⟩
    · simp [Instr.mapUpdate, run_underlying ht, MapKept.run_getObj_map hb, K.check w false hkey, h1, hj, h3, K.stays w hkey, MapKept.run_setObj_map _ hb, Result.andThen, setBlock]
    · exact stamped_modify q.stamped j _ (fun e _ => rfl) (fun e' _ he' => by rw [hj] at he'; cases he'; exact h3.symm)
    · rw [hlist] at hx
      obtain ⟨i, hi⟩ := List.mem_iff_getElem?.1 hx
      rw [List.getElem?_set] at hi
      by_cases e : j = i
      · rw [if_pos e, if_pos (by omega)] at hi
        cases hi
        exact ⟨k, hw, rfl, by simp [updo]⟩
      · rw [if_neg e] at hi
        obtain ⟨k', hk', e1, e2⟩ := q.vals x (List.mem_of_getElem? hi)
        refine ⟨k', hk', e1, ?_⟩
        have hne : k' ≠ k := fun ee => by
          have := ikeys_apart s3 h2 hi (fun e' => e e'.symm)
          rw [e1, ee, h3] at this
          exact this rfl
        simp [updo, hne, e2]
    · unfold updo at hf'
      rw [hlist]
      by_cases he : k' = k
      · exact ⟨{ e0 with key := kv k, val := v }, List.mem_iff_getElem?.2 ⟨j, by rw [List.getElem?_set, if_pos rfl, if_pos hjl]⟩, by simp [he]⟩
      · rw [if_neg he] at hf'
        obtain ⟨x, hx, ex⟩ := q.rest k' v' hf'
        obtain ⟨i, hi⟩ := List.mem_iff_getElem?.1 hx
        have hij : j ≠ i := fun e => by
          subst e
          rw [h2] at hi
          cases hi
          rw [h3] at ex
          exact he (by simpa [kv] using ex.symm)
        exact ⟨x, List.mem_iff_getElem?.2 ⟨i, by rw [List.getElem?_set, if_neg hij]; exact hi⟩, ex⟩

/-- An iterator in block r over the map in block b: 'left' are the keys that are to come. -/
def Ir (w : World) (r b : Nat) (f : Int → Option Value) (left : List Int) : Prop :=
  ∃ es clock since seen c0, w.heap[r]? = some (.mapIter (some b) since seen c0) ∧ w.heap[b]? = some (.map es clock) ∧ Iq f es clock ∧ (∀ x ∈ es.toList, x.born < since) ∧ since ≤ c0 ∧ since ≤ clock ∧ left = (leftOf es seen).toList.map (fun x => valOf x.key)
theorem Ir.keep {w w' : World} {r b : Nat} {f : Int → Option Value} {left : List Int} (h : Ir w r b f left) (hr : w'.heap[r]? = w.heap[r]?) (hb : w'.heap[b]? = w.heap[b]?) : Ir w' r b f left := by
  obtain ⟨es, clock, since, seen, c0, h1, h2, h3⟩ := h
  exact ⟨es, clock, since, seen, c0, hr.trans h1, hb.trans h2, h3⟩
theorem Ir.im {w : World} {r b : Nat} {f : Int → Option Value} {left : List Int} (h : Ir w r b f left) : Im w b f := by
  obtain ⟨es, clock, since, seen, c0, h1, h2, h3, _⟩ := h
  exact ⟨es, clock, h2, h3⟩
theorem Ir.lt {w : World} {r b : Nat} {f : Int → Option Value} {left : List Int} (h : Ir w r b f left) : r < w.heap.size ∧ b < w.heap.size ∧ r ≠ b := by
  obtain ⟨es, clock, since, seen, c0, h1, h2, h3⟩ := h
  refine ⟨(Array.getElem?_eq_some_iff.1 h1).1, (Array.getElem?_eq_some_iff.1 h2).1, fun e => ?_⟩
  rw [e, h2] at h1
  cases h1
/-- 'range m'. -/
theorem Im.range {w : World} {b : Nat} {f : Int → Option Value} (h : Im w b f) (ht : P.underlying t = some (.map kt e)) :
    ∃ o left, (Instr.range t (.map (some b))).run P w = .ok (.pointer (some ⟨w.heap.size, 0, none⟩)) (w.alloc o) ∧ Ir (w.alloc o) w.heap.size b f left ∧ ∀ k v, f k = some v → k ∈ left := by
  have hlt := h.lt
  obtain ⟨es, clock, hb, q⟩ := h
  obtain ⟨s1, s2, s3⟩ := q.stamped
  refine ⟨_, _, run_range_map w t kt e b es clock ht hb, ⟨es, clock, clock, #[], clock, heap_alloc_new _ _, by rw [heap_alloc_old _ _ hlt]; exact hb, q, s1, Nat.le_refl _, Nat.le_refl _, rfl⟩, fun k v hf => ?_⟩
  obtain ⟨x, hx, ex⟩ := q.rest k v hf
  refine List.mem_map.2 ⟨x, ?_, by rw [ex]; rfl⟩
  unfold leftOf
  simp
  simpa using hx
/-- 'next'. -/
theorem Ir.next {w : World} {r b : Nat} {f : Int → Option Value} {left : List Int} (h : Ir w r b f left) (ty : TypeId) :
    (left = [] ∧ (Instr.next (.pointer (some ⟨r, 0, none⟩)) false ty).run P w = .ok (.tuple #[.bool false]) w) ∨
    ∃ k v left' w', k ∈ left ∧ f k = some v ∧ left'.length < left.length ∧ (∀ x ∈ left, x = k ∨ x ∈ left') ∧ Ir w' r b f left' ∧ (Instr.next (.pointer (some ⟨r, 0, none⟩)) false ty).run P w = .ok (.tuple #[.bool true, kv k, v]) w' ∧ (Instr.entry (.pointer (some ⟨r, 0, none⟩))).run P w' = .ok (.tuple #[kv k, v]) w' ∧
      w'.os = w.os ∧ w'.tape = w.tape ∧ w'.output = w.output ∧ w'.heap.size = w.heap.size ∧ ∀ i, i ≠ r → w'.heap[i]? = w.heap[i]? := by
  have hne := h.lt
  obtain ⟨es, clock, since, seen, c0, h1, h2, q, hold, hsc, hcl, rfl⟩ := h
  have hnd := q.stamped.2.1
  rcases run_next_at (P := P) w ty r b since c0 seen es clock h1 h2 hold hsc with ⟨h0, hrun⟩ | ⟨e0, he0, w1, hw1, hrun⟩
  · left
    refine ⟨?_, hrun⟩
    have : leftOf es seen = #[] := Array.eq_empty_of_size_eq_zero h0
    rw [this]
    rfl
  · right
    obtain ⟨m1, m2⟩ := mem_left he0
    obtain ⟨k, hkw, ek, ev⟩ := q.vals e0 m1
    have hheap : w1.heap = w.heap := by rcases hw1 with rfl | rfl <;> rfl
    have hr1 : (setBlock w1 r (.mapIter (some b) since (seen.push e0.born) clock)).heap[r]? = some (.mapIter (some b) since (seen.push e0.born) clock) := by
      simp [setBlock, hheap, hne.1]
    have ho1 : ∀ i, i ≠ r → (setBlock w1 r (.mapIter (some b) since (seen.push e0.born) clock)).heap[i]? = w.heap[i]? := fun i hi => by
      simp [setBlock, hheap, Array.getElem?_setIfInBounds, Ne.symm hi]
    have hb1 := (ho1 b (fun e => hne.2.2 e.symm)).trans h2
    refine ⟨k, e0.val, _, _, List.mem_map.2 ⟨e0, he0, by rw [ek]; rfl⟩, ev, ?_, fun x hx => ?_, ⟨es, clock, since, seen.push e0.born, clock, hr1, hb1, q, hold, hcl, hcl, rfl⟩, ?_, ?_, ?_, ?_, ?_, ?_, ho1⟩
    · have := left_shrinks es seen e0 he0
      simpa using this
    · obtain ⟨y, hy, rfl⟩ := List.mem_map.1 hx
      obtain ⟨y1, y2⟩ := mem_left hy
      by_cases hbn : y.born = e0.born
      · left
        have f1 := find_born e0 es.toList hnd m1
        have f2 := find_born y es.toList hnd y1
        rw [hbn, f1] at f2
        cases f2
        rw [ek]; rfl
      · right
        refine List.mem_map.2 ⟨y, ?_, rfl⟩
        unfold leftOf
        simp only [Array.mem_toList_iff, Array.mem_filter]
        refine ⟨by simpa using y1, ?_⟩
        rw [contains_push, y2]
        simpa using hbn
    · rw [hrun, ek]
    · rw [run_entry_at (P := P) _ r b since seen es clock e0 hr1 hb1 m1 hnd, ek]
    · rcases hw1 with rfl | rfl <;> rfl
    · rcases hw1 with rfl | rfl <;> rfl
    · rcases hw1 with rfl | rfl <;> rfl
    · simp [setBlock, hheap]
end

end Go.Proofs.YtfceodpdipniaaaDoor
