/-
  What is proved here: how an image is opened, and what Great returns.
-/
import Derived.Test.YtfceodpdipniaaaDoorCgOpen
namespace Go.Proofs.YtfceodpdipniaaaDoor
open Go.ChangeShapes Go.WideShapes Go.ChangeAt Go.RowKit
set_option linter.unusedVariables false
set_option linter.unusedSimpArgs false

/-- The words of a code of any length. -/
structure WordsN (w : World) (v : Value) (n : Nat) (cd : Nat → Int) : Prop where
  wd : ∀ i, i < n → 0 ≤ cd i ∧ cd i < 4294967296
  at_ : ∃ A cap, v = .slice A n cap ∧ n ≤ cap ∧ cap ≤ maxLen ∧ (0 < n → ∃ b off, A = some ⟨b, off, none⟩ ∧ b < w.heap.size ∧ ∀ i, i < n → w.cell? ⟨b, off + i, none⟩ = some (.int .u32 (cd i)))
theorem WordsN.words {w : World} {v : Value} {n : Nat} {cd : Nat → Int} (h : WordsN w v n cd) (hn : n ≤ 1000000) : Words w v n cd := ⟨hn, h.wd, h.at_⟩
theorem list4 {cs : List Value} (h : cs.length = 4) : ∃ c0 c1 c2 c3, cs = [c0, c1, c2, c3] := by
  match cs, h with
  | [c0, c1, c2, c3], _ => exact ⟨c0, c1, c2, c3, rfl⟩
theorem array4 {α : Type} {cs : Array α} (h : cs.size = 4) : ∃ c0 c1 c2 c3, cs = #[c0, c1, c2, c3] := by
  obtain ⟨l⟩ := cs
  match l, h with
  | [c0, c1, c2, c3], _ => exact ⟨c0, c1, c2, c3, rfl⟩
theorem u32_in {p : Int} (h : (Lit.int .u32 p).wf = true) : 0 ≤ p ∧ p < 4294967296 := by
  simp [Lit.wf] at h
  have e1 : IntKind.u32.min = 0 := by decide
  have e2 : IntKind.u32.max = 4294967295 := by decide
  omega
theorem cellsStr : Tryd.prog.cellsOf 9 = 1 := by kernel_rfl
theorem cellsWords : Tryd.prog.cellsOf 22 = 1 := by kernel_rfl
theorem cellsEnts : Tryd.prog.cellsOf 23 = 1 := by kernel_rfl
theorem cellsImage : Tryd.prog.cellsOf 25 = 4 := by kernel_rfl
theorem trod_struct4 {H : Type} {enc : TypeId × Value → H} {P : Program} {w : World} {base : Nat} {spare : Nat → Bool} {held : Bool} {t : TypeId} {f0 f1 f2 f3 : Field} {fuel : Nat} {cs : List Value} {x : DataW H × List MemPlace} (ht : P.underlying t = some (.struct #[f0, f1, f2, f3])) (h : DataW.trod enc P w base spare held fuel t cs = some x) :
    ∃ y0 y1 y2 y3 n, DataW.trod enc P w base spare held n f0.type ((cs.drop f0.offset).take (P.cellsOf f0.type)) = some y0 ∧ DataW.trod enc P w base spare held n f1.type ((cs.drop f1.offset).take (P.cellsOf f1.type)) = some y1 ∧
      DataW.trod enc P w base spare held n f2.type ((cs.drop f2.offset).take (P.cellsOf f2.type)) = some y2 ∧ DataW.trod enc P w base spare held n f3.type ((cs.drop f3.offset).take (P.cellsOf f3.type)) = some y3 := by
  obtain ⟨xs, n, _, rfl, hl, hlen, hf⟩ := DataW.trod_struct ht h
  match xs, hlen with
  | [y0, y1, y2, y3], _ => exact ⟨y0, y1, y2, y3, n, by simpa using hf 0 f0 rfl, by simpa using hf 1 f1 rfl, by simpa using hf 2 f2 rfl, by simpa using hf 3 f3 rfl⟩
section
variable {H : Type} {enc : TypeId × Value → H} {w : World} {base : Nat} {spare : Nat → Bool} {held : Bool}
theorem tr_words {fuel : Nat} {cs : List Value} {y : DataW H × List MemPlace} (h : DataW.trod enc Tryd.prog w base spare held fuel 22 cs = some y) : ∃ v n cd, cs = [v] ∧ WordsN w v n cd := by
  obtain ⟨v, len, rfl, A, cap, rfl, h1, h2, hc⟩ := open_slice_tr Tryd.underlying22 1 (by kernel_rfl) (by omega) h
  obtain ⟨l, hl, hp⟩ := list_of (P := fun i (x : Int) => (0 ≤ x ∧ x < 4294967296) ∧ (0 < len → ∃ b off, A = some ⟨b, off, none⟩ ∧ b < w.heap.size ∧ w.cell? ⟨b, off + i, none⟩ = some (.int .u32 x))) len (fun i hi => by
    obtain ⟨b, off, rfl, hb, hx⟩ := hc (by omega)
    obtain ⟨cs, ⟨n, y, htr⟩, _, hj⟩ := hx i hi
    obtain ⟨z, rfl, _, hw⟩ := DataW.trod_int Tryd.underlying56 htr
    have := hj 0 (by omega)
    exact ⟨z, u32_in hw, fun _ => ⟨b, off, rfl, hb, by simpa using this⟩⟩)
  subst hl
  have hg : ∀ i, i < l.length → l.getD i 0 = l[i]?.getD 0 := fun i hi => by simp [List.getD]
  refine ⟨_, l.length, fun i => l.getD i 0, rfl, fun i hi => ?_, A, cap, rfl, h1, h2, fun h0 => ?_⟩
  · have e : l.getD i 0 = l[i] := by simp [List.getD, List.getElem?_eq_getElem hi]
    show 0 ≤ l.getD i 0 ∧ l.getD i 0 < 4294967296
    rw [e]
    exact (hp i _ (List.getElem?_eq_getElem hi)).1
  · obtain ⟨b, off, rfl, hb, hx⟩ := hc h0
    refine ⟨b, off, rfl, hb, fun i hi => ?_⟩
    obtain ⟨_, h4⟩ := hp i _ (List.getElem?_eq_getElem hi)
    obtain ⟨b', off', e, _, h5⟩ := h4 h0
    cases e
    rw [h5]
    simp [List.getD, List.getElem?_eq_getElem hi]
theorem tr_ents {fuel : Nat} {cs : List Value} {y : DataW H × List MemPlace} (h : DataW.trod enc Tryd.prog w base spare held fuel 23 cs = some y) : ∃ v l, cs = [v] ∧ Ents w v l := by
  obtain ⟨v, len, rfl, A, cap, rfl, h1, h2, hc⟩ := open_slice_tr Tryd.underlying23 4 (by kernel_rfl) (by omega) h
  obtain ⟨l, hl, hp⟩ := list_of (P := fun i (x : Ent) => x.nm.size ≤ maxLen ∧ (0 < len → ∃ b off, A = some ⟨b, off, none⟩ ∧ b < w.heap.size ∧ w.cell? ⟨b, off + i * 4, none⟩ = some (.string x.nm) ∧ w.cell? ⟨b, off + i * 4 + 1, none⟩ = some (.int .i64 x.st) ∧ w.cell? ⟨b, off + i * 4 + 2, none⟩ = some (.int .i64 x.en) ∧ w.cell? ⟨b, off + i * 4 + 3, none⟩ = some (.int .i64 x.da))) len (fun i hi => by
    obtain ⟨b, off, rfl, hb, hx⟩ := hc (by omega)
    obtain ⟨cs, ⟨n, y, htr⟩, hl, hj⟩ := hx i hi
    obtain ⟨y0, y1, y2, y3, n', g0, g1, g2, g3⟩ := trod_struct4 Tryd.underlying39 htr
    obtain ⟨c0, c1, c2, c3, rfl⟩ := list4 hl
    simp only [cellsInt, cellsStr, List.drop_zero, List.drop_succ_cons, List.take_succ_cons, List.take_zero] at g0 g1 g2 g3
    obtain ⟨z0, e0, _, hz0⟩ := DataW.trod_string Tryd.underlying9 g0
    obtain ⟨z1, e1, _, _⟩ := DataW.trod_int Tryd.underlying3 g1
    obtain ⟨z2, e2, _, _⟩ := DataW.trod_int Tryd.underlying3 g2
    obtain ⟨z3, e3, _, _⟩ := DataW.trod_int Tryd.underlying3 g3
    simp at e0 e1 e2 e3
    subst e0 e1 e2 e3
    refine ⟨⟨z0, z1, z2, z3⟩, hz0, fun _ => ⟨b, off, rfl, hb, ?_, ?_, ?_, ?_⟩⟩
    · simpa using hj 0 (by omega)
    · simpa [Nat.add_assoc] using hj 1 (by omega)
    · simpa [Nat.add_assoc] using hj 2 (by omega)
    · simpa [Nat.add_assoc] using hj 3 (by omega))
  subst hl
  refine ⟨_, l, rfl, fun e he => ?_, A, cap, rfl, h1, h2, fun h0 => ?_⟩
  · obtain ⟨i, hi⟩ := List.mem_iff_getElem?.1 he
    exact (hp i e hi).1
  · obtain ⟨b, off, rfl, hb, hx⟩ := hc h0
    refine ⟨b, off, rfl, hb, fun i x hi => ?_⟩
    obtain ⟨b', off', e, _, h5⟩ := (hp i x hi).2 h0
    cases e
    exact h5
set_option maxRecDepth 100000 in
theorem open_image {r : Reach} {b0 : Nat} {v : Value} {d : DataW H} {p : List MemPlace} (hv : Value.okWide Tryd.prog w r b0 25 v) (h : DataW.Trod enc Tryd.prog w base spare held 25 v d p) :
    ∃ cv ev sh lk n cd ents, v = .agg #[cv, ev, .int .i64 sh, .int .i64 lk] ∧ WordsN w cv n cd ∧ Ents w ev ents := by
  obtain ⟨cs, rfl, hsz⟩ := okWide_struct Tryd.underlying25 hv
  obtain ⟨c0, c1, c2, c3, rfl⟩ := array4 (hsz.trans cellsImage)
  obtain ⟨fuel, hf⟩ := h
  obtain ⟨y0, y1, y2, y3, n, g0, g1, g2, g3⟩ := trod_struct4 Tryd.underlying25 hf
  simp only [Value.cells, cellsWords, cellsEnts, cellsInt, List.drop_zero, List.drop_succ_cons, List.take_succ_cons, List.take_zero] at g0 g1 g2 g3
  obtain ⟨cv, m, cd, e0, hW⟩ := tr_words g0
  obtain ⟨ev, ents, e1, hE⟩ := tr_ents g1
  obtain ⟨z2, e2, _, _⟩ := DataW.trod_int Tryd.underlying3 g2
  obtain ⟨z3, e3, _, _⟩ := DataW.trod_int Tryd.underlying3 g3
  simp at e0 e1 e2 e3
  subst e0 e1 e2 e3
  exact ⟨c0, c1, z2, z3, m, cd, ents, rfl, hW, hE⟩
end

def greatI (n : Nat) (ents : List Ent) : Int := if 300 < n ∨ 4 < ents.length then 1 else 0
set_option maxHeartbeats 1000000 in
theorem great_any (cv ev : Value) (sh lk : Int) (n : Nat) (cd : Nat → Int) (ents : List Ent) (w : World) (HW : WordsN w cv n cd) (HE : Ents w ev ents) :
    Calls Tryd.prog 11 #[.agg #[cv, ev, .int .i64 sh, .int .i64 lk]] w fun e w' => e = .returned (.int .i64 (greatI n ents)) ∧ Below w.heap.size w w' := by
  obtain ⟨A, cap, rfl, h1, h2, _⟩ := HW.at_
  obtain ⟨EA, ecap, rfl, h3, h4, _⟩ := HE.at_
  unfold maxLen at h2 h4
  go_enter Tryd.func11, Tryd.ntmps11
  by_cases q1 : 300 < n
  · have d1 : decide ((300 : Int) < (n : Int)) = true := decide_eq_true (by omega)
    have HQ := Lib.hid (show greatI n ents = 1 by simp [greatI, q1])
    clear q1
    go_wp2_with fail
    go_ret
    exact ⟨ret_int HQ.out.symm, (Below.refl _ _).alloc (Nat.le_refl _) _⟩
  have d1 : decide ((300 : Int) < (n : Int)) = false := decide_eq_false (by omega)
  by_cases q2 : 4 < ents.length
  · have d2 : decide ((4 : Int) < (ents.length : Int)) = true := decide_eq_true (by omega)
    have HQ := Lib.hid (show greatI n ents = 1 by simp [greatI, q2])
    clear q1 q2
    go_wp2_with fail
    go_ret
    exact ⟨ret_int HQ.out.symm, (Below.refl _ _).alloc (Nat.le_refl _) _⟩
  have d2 : decide ((4 : Int) < (ents.length : Int)) = false := decide_eq_false (by omega)
  have HQ := Lib.hid (show greatI n ents = 0 by simp [greatI, q1, q2])
  clear q1 q2
  go_wp2_with fail
  go_ret
  exact ⟨ret_int HQ.out.symm, (Below.refl _ _).alloc (Nat.le_refl _) _⟩

end Go.Proofs.YtfceodpdipniaaaDoor
