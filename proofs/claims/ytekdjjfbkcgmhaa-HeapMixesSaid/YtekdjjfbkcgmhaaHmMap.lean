/-
  What is proved here: a map of counts keyed by items: look-up and store.
-/
import Derived.Test.YtekdjjfbkcgmhaaHpAwake
import Derived.WideKeyEntry
import Derived.DeepKeys3
import Derived.Laws.IdiomRangeMap
namespace Go.Proofs.Ytekdjjfbkcgmhaa
open Go.RowKit Hp Go.MapKept
set_option linter.unusedVariables false
set_option linter.unusedSimpArgs false

def wfk (k : Int × Int) : Prop := (Lit.int .i64 k.1).wf = true ∧ (Lit.int .i64 k.2).wf = true
abbrev kvv (k : Int × Int) : Value := .agg #[.int .i64 k.1, .int .i64 k.2]
theorem klaw : Go.WideMaps.KeyLaw Try.prog 26 := deep_law (m := 2) (by omega) (by kernel_rfl) (by kernel_rfl) (by kernel_rfl)
theorem kvv_inj {a b : Int × Int} (h : kvv a = kvv b) : a = b := by
  obtain ⟨a1, a2⟩ := a
  obtain ⟨b1, b2⟩ := b
  simp [kvv] at h
  simp [h.1, h.2]
theorem keyOf_kvv (k : Int × Int) (h : wfk k) : ∃ kl, keyOf Try.prog 26 (kvv k) = some kl := by
  obtain ⟨h1, h2⟩ := h
  have e1 : Try.prog.keyType 26 = true := by kernel_rfl
  have e2 : (kvv k).formed Try.prog 26 = true := by kernel_rfl
  have e3 : Try.prog.cellsOf 26 = 2 := by kernel_rfl
  have e4 : Try.prog.cellsOf 3 = 1 := by kernel_rfl
  obtain ⟨n, hn⟩ : ∃ n, Try.prog.types.size = n + 1 := ⟨Try.prog.types.size - 1, by have : 0 < Try.prog.types.size := of_decide_eq_true (by kernel_rfl); omega⟩
  have e5 : Try.prog.keyLits (Try.prog.types.size + 1) 26 (kvv k).cells.toList = some [.int .i64 k.1, .int .i64 k.2] := by
    rw [hn]
    simp [Program.keyLits, Try.underlying26, Try.underlying3, kvv, Value.cells, e3, e4, h1, h2]
  unfold keyOf
  simp only [Try.underlying26, e1, e2, e5]
  exact ⟨_, rfl⟩

/-- The map at block b reads as f; it has at most n entries. -/
structure Mq (f : Int × Int → Int) (n : Nat) (es : Array MapEntry) (clock : Nat) : Prop where
  stamped : Stamped es clock
  size : es.size ≤ n
  vals : ∀ x ∈ es.toList, ∃ k, wfk k ∧ x.key = kvv k ∧ x.val = .int .i64 (f k)
  rest : ∀ k, wfk k → (∀ x ∈ es.toList, x.key ≠ kvv k) → f k = 0
def Mp (w : World) (b : Nat) (f : Int × Int → Int) (n : Nat) : Prop := ∃ es clock, w.heap[b]? = some (.map es clock) ∧ Mq f n es clock
theorem Mq.keys {f : Int × Int → Int} {n : Nat} {es : Array MapEntry} {clock : Nat} (h : Mq f n es clock) : ∀ e ∈ es.toList, ∃ l, keyOf Try.prog 26 e.key = some l := by
  intro e he
  obtain ⟨k, hk, e1, _⟩ := h.vals e he
  rw [e1]
  exact keyOf_kvv k hk
theorem zeroI (w : World) : (zeroValue 3).run Try.prog w = .ok (.int .i64 0) w := by kernel_rfl
theorem Mq.look {w : World} {b : Nat} {f : Int × Int → Int} {n : Nat} {es : Array MapEntry} {clock : Nat} (h : Mq f n es clock) (hb : w.heap[b]? = some (.map es clock)) (k : Int × Int) (hk : wfk k) :
    (Instr.lookup 47 (.map (some b)) (kvv k) false).run Try.prog w = .ok (.int .i64 (f k)) w := by
  obtain ⟨kl, hkl⟩ := keyOf_kvv k hk
  rcases klaw.find w hkl es.toList h.keys with ⟨h1, h2⟩ | ⟨j, e0, h1, h2, h3⟩
  · rw [h.rest k hk h2]
    simp [Instr.lookup, run_underlying Try.underlying47, MapKept.run_getObj_map hb, klaw.check w _ hkl, h1, zeroI, Result.andThen]
  · obtain ⟨k', _, e1, e2⟩ := h.vals e0 (List.mem_of_getElem? h2)
    have : k' = k := kvv_inj (e1.symm.trans h3)
    subst this
    rw [← e2]
    simp [Instr.lookup, run_underlying Try.underlying47, MapKept.run_getObj_map hb, klaw.check w _ hkl, h1, Result.andThen]
theorem keys_apart {l : List MapEntry} (h : l.Pairwise (fun x y => x.key ≠ y.key)) {i j : Nat} {a c : MapEntry} (hi : l[i]? = some a) (hj : l[j]? = some c) (hne : j ≠ i) : c.key ≠ a.key := by
  obtain ⟨hi', ei⟩ := List.getElem?_eq_some_iff.1 hi
  obtain ⟨hj', ej⟩ := List.getElem?_eq_some_iff.1 hj
  rw [← ei, ← ej]
  rcases Nat.lt_or_gt_of_ne hne with h1 | h1
  · exact List.pairwise_iff_getElem.1 h j i hj' hi' h1
  · exact fun e => List.pairwise_iff_getElem.1 h i j hi' hj' h1 e.symm
def upd (f : Int × Int → Int) (k : Int × Int) (v : Int) : Int × Int → Int := fun x => if x = k then v else f x
open Go.WideElems Go.ChangeMaps in
/-- 'm[k] op= ..': the entry, then the store. -/
theorem Mq.put {w : World} {b : Nat} {f : Int × Int → Int} {n : Nat} {es : Array MapEntry} {clock : Nat} (h : Mq f n es clock) (hb : w.heap[b]? = some (.map es clock)) (k : Int × Int) (hk : wfk k) (v : Int) :
    ∃ (v0 : Value) (st : Nat) (es1 : Array MapEntry) (clock1 : Nat) (es' : Array MapEntry) (clock' : Nat), (Instr.mapEntry 47 (.map (some b)) (kvv k)).run Try.prog w = .ok (.tuple #[v0, goInt st]) (setBlock w b (.map es1 clock1)) ∧
      (∀ (w2 : World), w2.heap[b]? = some (.map es1 clock1) → (Instr.entryStore 47 (.map (some b)) (goInt st) (.int .i64 v)).run Try.prog w2 = .ok () (setBlock w2 b (.map es' clock'))) ∧ Mq (upd f k v) (n + 1) es' clock' ∧ Mq f (n + 1) es1 clock1 := by
  obtain ⟨kl, hkl⟩ := keyOf_kvv k hk
  obtain ⟨s1, s2, s3⟩ := (stamped_iff es clock).1 h.stamped
  rcases klaw.find w hkl es.toList h.keys with ⟨h1, h2⟩ | ⟨j, e0, h1, h2, h3⟩
  · refine ⟨.int .i64 0, clock, es.push ⟨kvv k, .int .i64 0, clock⟩, clock + 1, es.push ⟨kvv k, .int .i64 v, clock⟩, clock + 1, ?_, fun w2 hw2 => ?_, ⟨stamped_push h.stamped h2, by have := h.size; simp; omega, fun x hx => ?_, fun k' hk' hno => ?_⟩, ⟨stamped_push h.stamped h2, by have := h.size; simp; omega, fun x hx => ?_, fun k' hk' hno => ?_⟩⟩
    · simp [Instr.mapEntry, run_underlying Try.underlying47, MapKept.run_getObj_map hb, klaw.check w false hkl, h1, zeroI, MapKept.run_setObj_map _ hb, Result.andThen, setBlock]
    · have hidx : (es.push ⟨kvv k, .int .i64 0, clock⟩).findIdx? (fun e => ((e.born : Nat) : Int) == ((clock : Nat) : Int)) = some es.size := by
        rw [findIdx_arr]
        exact findIdx_born (l := (es.push ⟨kvv k, .int .i64 0, clock⟩).toList) (j := es.size) (e0 := ⟨kvv k, .int .i64 0, clock⟩) (by
          simp only [Array.toList_push, List.map_append, List.map_cons, List.map_nil]
          refine List.nodup_append.2 ⟨s2, by simp, fun a ha c hc e1 => ?_⟩
          simp only [List.mem_singleton] at hc
          obtain ⟨x, hx, rfl⟩ := List.mem_map.1 ha
          have := s1 x hx
          omega) (by simp)
      have hmod : (es.push ⟨kvv k, .int .i64 0, clock⟩).modify es.size (fun e => { e with val := .int .i64 v }) = es.push ⟨kvv k, .int .i64 v, clock⟩ := by
        apply Array.ext'
        rw [Array.toList_modify, Array.toList_push, Array.toList_push, ← Array.length_toList, modify_last]
      simp [Instr.entryStore, MapKept.run_getObj_map hw2, asInt, asIntOf, goInt, hidx, hmod, MapKept.run_setObj_map _ hw2, Result.andThen, setBlock]
    · simp only [Array.toList_push, List.mem_append, List.mem_singleton] at hx
      rcases hx with hx | rfl
      · obtain ⟨k', hk', e1, e2⟩ := h.vals x hx
        refine ⟨k', hk', e1, ?_⟩
        unfold upd
        rw [if_neg (fun e => h2 x hx (by rw [e1, e]))]
        exact e2
      · exact ⟨k, hk, rfl, by simp [upd]⟩
    · unfold upd
      have hne : k' ≠ k := fun e => hno ⟨kvv k, .int .i64 v, clock⟩ (by simp) (by simp [e])
      rw [if_neg hne]
      exact h.rest k' hk' (fun x hx => hno x (by simp at hx ⊢; exact .inl hx))
    · simp only [Array.toList_push, List.mem_append, List.mem_singleton] at hx
      rcases hx with hx | rfl
      · exact h.vals x hx
      · exact ⟨k, hk, rfl, by rw [h.rest k hk h2]⟩
    · exact h.rest k' hk' (fun x hx => hno x (by simp at hx ⊢; exact .inl hx))
  · have hj : es[j]? = some e0 := by simpa using h2
    have hsame : es.modify j (fun e => { e with key := kvv k }) = es := by
      apply Array.ext'
      rw [Array.toList_modify, modify_eq_set _ _ _ _ h2]
      have : ({ e0 with key := kvv k } : MapEntry) = e0 := by rw [← h3]
      rw [this]
      exact set_self _ _ _ h2
    have hlist : (es.modify j (fun e' => { e' with val := .int .i64 v })).toList = es.toList.set j { e0 with val := .int .i64 v } := by rw [Array.toList_modify, modify_eq_set _ _ _ _ h2]
    have hjl : j < es.toList.length := (List.getElem?_eq_some_iff.1 h2).1
    refine ⟨e0.val, e0.born, es, clock, es.modify j (fun e' => { e' with val := .int .i64 v }), clock, ?_, fun w2 hw2 => ?_, ⟨?_, by have := h.size; simp; omega, fun x hx => ?_, fun k' hk' hno => ?_⟩, ⟨h.stamped, by have := h.size; omega, h.vals, h.rest⟩⟩
    · simp [Instr.mapEntry, run_underlying Try.underlying47, MapKept.run_getObj_map hb, klaw.check w false hkl, h1, hj, h3, klaw.stays w hkl, hsame, MapKept.run_setObj_map _ hb, Result.andThen, setBlock]
    · have hidx : es.findIdx? (fun e => ((e.born : Nat) : Int) == ((e0.born : Nat) : Int)) = some j := by
        rw [findIdx_arr]
        exact findIdx_born s2 h2
      simp [Instr.entryStore, MapKept.run_getObj_map hw2, asInt, asIntOf, goInt, hidx, MapKept.run_setObj_map _ hw2, Result.andThen, setBlock]
    · exact stamped_modify h.stamped j _ (fun e _ => rfl) (fun e _ _ => rfl)
    · rw [hlist] at hx
      obtain ⟨i, hi⟩ := List.mem_iff_getElem?.1 hx
      rw [List.getElem?_set] at hi
      by_cases e : j = i
      · rw [if_pos e, if_pos (by omega)] at hi
        cases hi
        exact ⟨k, hk, h3, by simp [upd]⟩
      · rw [if_neg e] at hi
        obtain ⟨k', hk', e1, e2⟩ := h.vals x (List.mem_of_getElem? hi)
        refine ⟨k', hk', e1, ?_⟩
        have hne : k' ≠ k := fun ee => by
          have := keys_apart s3 h2 hi (fun e' => e e'.symm)
          rw [e1, ee, h3] at this
          exact this rfl
        simp [upd, hne, e2]
    · have hne : k' ≠ k := fun e => hno { e0 with val := .int .i64 v } (by rw [hlist]; exact List.mem_iff_getElem?.2 ⟨j, by rw [List.getElem?_set, if_pos rfl, if_pos hjl]⟩) (by simp [h3, e])
      unfold upd
      rw [if_neg hne]
      refine h.rest k' hk' (fun x hx hx2 => ?_)
      obtain ⟨i, hi⟩ := List.mem_iff_getElem?.1 hx
      by_cases e : j = i
      · subst e
        rw [h2] at hi
        cases hi
        exact hne (kvv_inj (hx2.symm.trans h3))
      · exact hno x (by rw [hlist]; exact List.mem_iff_getElem?.2 ⟨i, by rw [List.getElem?_set, if_neg e]; exact hi⟩) hx2

end Go.Proofs.Ytekdjjfbkcgmhaa
