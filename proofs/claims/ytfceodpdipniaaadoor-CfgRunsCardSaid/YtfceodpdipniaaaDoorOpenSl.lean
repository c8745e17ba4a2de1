/-
  What is proved here: laws that any program may use: how an argument that is a slice is opened, nil and empty ones let in; two closed facts on the program.
-/
import Derived.Test.YtfceodpdipniaaaDoorExt
import Derived.ProofKit
import Derived.OpenShut
import Derived.Below
import Derived.Lib.SmallJoins
import Derived.Deep.Slices
namespace Go.Proofs.YtfceodpdipniaaaDoor
open Go.ChangeShapes Go.WideShapes Go.ChangeAt Go.RowKit
set_option linter.unusedVariables false

theorem own : ownKnob Tryd.prog.godebug = none := by kernel_rfl
theorem laidOut : laidOutB Tryd.prog = true := by kernel_rfl

theorem block_of_cell {w : World} {a : Addr} {v : Value} (h : w.cell? a = some v) : a.block < w.heap.size := by
  rcases Nat.lt_or_ge a.block w.heap.size with h' | h'
  · exact h'
  · unfold World.cell? at h
    rw [Array.getElem?_eq_none h'] at h
    cases h
/-- A slice that is read: element by element, each of c cells that read as 'R' says. -/
def ReadsAs (w : World) (B : Nat) (v : Value) (len c : Nat) (R : Nat → List Value → Prop) : Prop :=
  ∃ A cap, v = .slice A len cap ∧ len ≤ cap ∧ cap ≤ maxLen ∧ (0 < len → ∃ b off, A = some ⟨b, off, none⟩ ∧ b < B ∧ ∀ i, i < len → ∃ cs, R i cs ∧ cs.length = c ∧ ∀ j, j < c → w.cell? ⟨b, off + (i * c + j), none⟩ = cs[j]?)
theorem ReadsAs.keep {w w' : World} {B len c : Nat} {v : Value} {R : Nat → List Value → Prop} (h : ReadsAs w B v len c R) (hb : Below B w w') : ReadsAs w' B v len c R := by
  obtain ⟨A, cap, hv, h1, h2, hc⟩ := h
  refine ⟨A, cap, hv, h1, h2, fun h0 => ?_⟩
  obtain ⟨b, off, ha, hlt, hx⟩ := hc h0
  refine ⟨b, off, ha, hlt, fun i hi => ?_⟩
  obtain ⟨cs, r, hl, hj⟩ := hx i hi
  exact ⟨cs, r, hl, fun j hjc => (hb.cell (p := ⟨b, off + (i * c + j), none⟩) hlt).trans (hj j hjc)⟩
theorem ReadsAs.mono {w : World} {B len c : Nat} {v : Value} {R R' : Nat → List Value → Prop} (h : ReadsAs w B v len c R) (hr : ∀ i cs, i < len → cs.length = c → R i cs → R' i cs) : ReadsAs w B v len c R' := by
  obtain ⟨A, cap, hv, h1, h2, hc⟩ := h
  refine ⟨A, cap, hv, h1, h2, fun h0 => ?_⟩
  obtain ⟨b, off, ha, hlt, hx⟩ := hc h0
  refine ⟨b, off, ha, hlt, fun i hi => ?_⟩
  obtain ⟨cs, r, hl, hj⟩ := hx i hi
  exact ⟨cs, hr i cs hi hl r, hl, hj⟩

section
variable {H : Type} {enc : TypeId × Value → H} {P : Program} {w : World} {base : Nat} {spare : Nat → Bool} {held : Bool}
theorem open_slice_as {r : Reach} {b0 : Nat} {t e : TypeId} {v : Value} {d : DataW H} {p : List MemPlace} (ht : P.underlying t = some (.slice e)) (c : Nat) (hC : P.cellsOf e = c) (hc : 0 < c)
    (hv : Value.okWide P w r b0 t v) (h : DataW.Trod enc P w base spare held t v d p) :
    ∃ len, ReadsAs w w.heap.size v len c (fun i cs => ∃ n y, DataW.trod enc P w base spare held n e cs = some y) := by
  obtain ⟨A, len, cap, rfl⟩ := okWide_slice ht hv
  obtain ⟨fuel, hf⟩ := h
  rcases Go.Deep.open_slice ht hf with ⟨hcs, _⟩ | ⟨a, len', cap', m, n, D, Pl, hcs, _, hl, hm, hmm, _, hi⟩
  · simp [Value.cells] at hcs
    obtain ⟨rfl, rfl, rfl⟩ := hcs
    exact ⟨0, none, 0, rfl, Nat.le_refl _, by unfold maxLen; omega, fun h => absurd h (by omega)⟩
  · simp [Value.cells] at hcs
    obtain ⟨rfl, rfl, rfl⟩ := hcs
    refine ⟨len, _, cap, rfl, hl, hm, fun h0 => ?_⟩
    have hlm : len ≤ m := by rw [hmm]; split <;> omega
    have cell : ∀ i, i < len → ∃ cs, (∃ n y, DataW.trod enc P w base spare held n e cs = some y) ∧ cs.length = c ∧ ∀ j, j < c → w.cell? ((a.add (i * c)).add j) = cs[j]? := by
      intro i hi'
      obtain ⟨cs, hcs, htr⟩ := hi i (by omega)
      rw [hC] at hcs
      obtain ⟨_, hl', hat⟩ := World.cells?_some hcs
      exact ⟨cs, ⟨n, _, htr⟩, hl', hat⟩
    have hspot : a.spot = none ∧ a.block < w.heap.size := by
      obtain ⟨cs, _, hl', hat⟩ := cell 0 h0
      have h1 := hat 0 hc
      rw [List.getElem?_eq_getElem (by omega)] at h1
      have e0 : ((a.add (0 * c)).add 0) = a := by simp [Addr.add]
      rw [e0] at h1
      exact ⟨World.cell?_spot h1, block_of_cell h1⟩
    obtain ⟨b, off, spot⟩ := a
    simp only at hspot
    obtain ⟨rfl, hb⟩ := hspot
    refine ⟨b, off, rfl, hb, fun i hi' => ?_⟩
    obtain ⟨cs, r, hl', hat⟩ := cell i hi'
    refine ⟨cs, r, hl', fun j hj => ?_⟩
    rw [← hat j hj]
    congr 1
    unfold Addr.add
    split <;> split <;> simp <;> omega
/-- A slice of integers. -/
theorem open_ints_as {r : Reach} {b0 : Nat} {t e : TypeId} {k : IntKind} {v : Value} {d : DataW H} {p : List MemPlace} (ht : P.underlying t = some (.slice e)) (he : P.underlying e = some (.int k)) (hC : P.cellsOf e = 1)
    (hv : Value.okWide P w r b0 t v) (h : DataW.Trod enc P w base spare held t v d p) :
    ∃ l : List Int, ReadsAs w w.heap.size v l.length 1 (fun i cs => cs = [.int k (l.getD i 0)]) ∧ ∀ n ∈ l, (Lit.int k n).wf = true := by
  obtain ⟨len, A, cap, hv', h1, h2, hc⟩ := open_slice_as ht 1 hC (by omega) hv h
  by_cases h0 : 0 < len
  · obtain ⟨b, off, ha, hb, hx⟩ := hc h0
    have key : ∀ i, i < len → ∃ n, w.cell? ⟨b, off + i, none⟩ = some (.int k n) ∧ (Lit.int k n).wf = true := by
      intro i hi
      obtain ⟨cs, ⟨n, y, htr⟩, _, hj⟩ := hx i hi
      obtain ⟨z, rfl, _, hw⟩ := DataW.trod_int he htr
      have := hj 0 (by omega)
      exact ⟨z, by simpa using this, hw⟩
    have key' : ∃ f : Nat → Int, ∀ i, i < len → w.cell? ⟨b, off + i, none⟩ = some (.int k (f i)) ∧ (Lit.int k (f i)).wf = true := by
      refine ⟨fun i => if h : i < len then (key i h).choose else 0, fun i hi => ?_⟩
      simp only [hi, dif_pos]
      exact (key i hi).choose_spec
    obtain ⟨f, hf⟩ := key'
    refine ⟨(List.range len).map f, ?_, fun n hn => ?_⟩
    · rw [List.length_map, List.length_range]
      refine ⟨A, cap, hv', h1, h2, fun _ => ⟨b, off, ha, hb, fun i hi => ⟨_, rfl, rfl, fun j hj => ?_⟩⟩⟩
      obtain rfl : j = 0 := by omega
      simpa [hi] using (hf i hi).1
    · simp only [List.mem_map, List.mem_range] at hn
      obtain ⟨i, hi, rfl⟩ := hn
      exact (hf i hi).2
  · obtain rfl : len = 0 := by omega
    exact ⟨[], ⟨A, cap, hv', h1, h2, fun h => absurd h (by simp)⟩, fun n hn => by cases hn⟩
/-- A slice of structs of two integers. -/
theorem open_pairs_as {r : Reach} {b0 : Nat} {t e : TypeId} {k : IntKind} {f0 f1 : Field} {v : Value} {d : DataW H} {p : List MemPlace} (ht : P.underlying t = some (.slice e)) (he : P.underlying e = some (.struct #[f0, f1]))
    (h0t : P.underlying f0.type = some (.int k)) (h1t : P.underlying f1.type = some (.int k)) (hc0 : P.cellsOf f0.type = 1) (hc1 : P.cellsOf f1.type = 1) (ho0 : f0.offset = 0) (ho1 : f1.offset = 1) (hC : P.cellsOf e = 2)
    (hv : Value.okWide P w r b0 t v) (h : DataW.Trod enc P w base spare held t v d p) :
    ∃ l : List (Int × Int), ReadsAs w w.heap.size v l.length 2 (fun i cs => cs = [.int k (l.getD i (0, 0)).1, .int k (l.getD i (0, 0)).2]) ∧ ∀ n ∈ l, (Lit.int k n.1).wf = true ∧ (Lit.int k n.2).wf = true := by
  obtain ⟨len, A, cap, hv', h1, h2, hc⟩ := open_slice_as ht 2 hC (by omega) hv h
  by_cases h0 : 0 < len
  · obtain ⟨b, off, ha, hb, hx⟩ := hc h0
    have key : ∀ i, i < len → ∃ n : Int × Int, (∀ j, j < 2 → w.cell? ⟨b, off + (i * 2 + j), none⟩ = [Value.int k n.1, .int k n.2][j]?) ∧ (Lit.int k n.1).wf = true ∧ (Lit.int k n.2).wf = true := by
      intro i hi
      obtain ⟨cs, ⟨n, y, htr⟩, hl, hj⟩ := hx i hi
      obtain ⟨xs, n', _, _, _, hxl, hf⟩ := DataW.trod_struct he htr
      have g0 := hf 0 f0 rfl
      have g1 := hf 1 f1 rfl
      have hxl' : xs.length = 2 := hxl
      rw [List.getElem?_eq_getElem (by omega), hc0, ho0] at g0
      rw [List.getElem?_eq_getElem (by omega), hc1, ho1] at g1
      match cs, hl with
      | [c0, c1], _ =>
        obtain ⟨z0, e0, _, w0⟩ := DataW.trod_int h0t g0
        obtain ⟨z1, e1, _, w1⟩ := DataW.trod_int h1t g1
        simp at e0 e1
        subst e0 e1
        exact ⟨(z0, z1), hj, w0, w1⟩
    have key' : ∃ f : Nat → Int × Int, ∀ i, i < len → (∀ j, j < 2 → w.cell? ⟨b, off + (i * 2 + j), none⟩ = [Value.int k (f i).1, .int k (f i).2][j]?) ∧ (Lit.int k (f i).1).wf = true ∧ (Lit.int k (f i).2).wf = true := by
      refine ⟨fun i => if h : i < len then (key i h).choose else (0, 0), fun i hi => ?_⟩
      simp only [hi, dif_pos]
      exact (key i hi).choose_spec
    obtain ⟨f, hf⟩ := key'
    refine ⟨(List.range len).map f, ?_, fun n hn => ?_⟩
    · rw [List.length_map, List.length_range]
      refine ⟨A, cap, hv', h1, h2, fun _ => ⟨b, off, ha, hb, fun i hi => ⟨_, rfl, rfl, fun j hj => ?_⟩⟩⟩
      simpa [hi] using (hf i hi).1 j hj
    · simp only [List.mem_map, List.mem_range] at hn
      obtain ⟨i, hi, rfl⟩ := hn
      exact (hf i hi).2
  · obtain rfl : len = 0 := by omega
    exact ⟨[], ⟨A, cap, hv', h1, h2, fun h => absurd h (by simp)⟩, fun n hn => by cases hn⟩
end

end Go.Proofs.YtfceodpdipniaaaDoor
