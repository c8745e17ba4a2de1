/-
  What is proved here: the table of formats lies in memory: a start that fits, and what follows.
-/
import Derived.Test.YtfceodpdipniaaaDoorCgAwake
import Derived.Test.YtfceodpdipniaaaDoorOpenSl
import Derived.ChangeSame
import Derived.ChangeVars
import Derived.JoinedOf
import Derived.RowKit
namespace Go.Proofs.YtfceodpdipniaaaDoor
open Go.ChangeShapes Go.WideShapes Go.ChangeAt Go.RowKit
set_option linter.unusedVariables false
set_option linter.unusedSimpArgs false

theorem flat6_at {α : Type} {f : α → List Value} (hf : ∀ x, (f x).length = 6) : ∀ (L : List α) (k j : Nat) (x : α), L[k]? = some x → j < 6 → (L.flatMap f)[k * 6 + j]? = (f x)[j]?
  | y :: L, 0, j, x, h, hj => by
    simp at h; subst h
    rw [List.flatMap_cons, Nat.zero_mul, Nat.zero_add, List.getElem?_append_left (by rw [hf]; exact hj)]
  | y :: L, k + 1, j, x, h, hj => by
    have h' : L[k]? = some x := by simpa using h
    rw [List.flatMap_cons, List.getElem?_append_right (by rw [hf]; omega), hf, show (k + 1) * 6 + j - 6 = k * 6 + j by omega]
    exact flat6_at hf L k j x h' hj
theorem tab_of_laid {W : World} (h : laidMet Tryd.prog [("ontime/isa.formats", Rows.laid_ontime_isa_formats)] W) : Tab W := by
  have hv := cells_of_laid h
  have hg : Tryd.prog.globalNamed "ontime/isa.formats" = some 0 := by kernel_rfl
  have hc : ∀ k, W.cell? ⟨0, k, none⟩ = fmCells.toArray[k]? := fun k => World.var?_cell hg hv k
  refine ⟨?_, fun k hk j v hv2 => ?_⟩
  · have h0 : W.cell? ⟨0, 0, none⟩ = some (.string ⟨#[110, 111, 112]⟩) := by rw [hc 0]; kernel_rfl
    exact block_of_cell h0
  · rw [hc]
    have hj : j < 6 := by
      have := (List.getElem?_eq_some_iff.1 hv2).1
      simpa [Fm.cells] using this
    have hf : fms[k]? = some (fm k) := by
      unfold fm
      have : k < fms.length := hk
      simp [List.getD, List.getElem?_eq_getElem this]
    have := flat6_at (f := Fm.cells) (fun x => rfl) fms k j (fm k) hf hj
    simp only [List.getElem?_toArray]
    unfold fmCells
    rw [this]
    exact hv2

noncomputable def laidWorld (os : Os) : World :=
  { World.holding Tryd.prog os ⟨#[], #[], []⟩ with heap := (World.holding Tryd.prog os ⟨#[], #[], []⟩).heap.modify 0 fun
      | .cells _ t frozen => .cells fmCells.toArray t frozen
      | o => o }
theorem laidWorld_row (os : Os) (args : Array Value) : ((laidWorld os).forCall (fun _ _ => 0) ⟨#[], args, []⟩).memory.heap[0]? = some (.cells fmCells.toArray 110 (0, 0)) := by kernel_rfl
set_option maxRecDepth 100000 in
theorem laid_met (os : Os) (args : Array Value) : laidMet Tryd.prog [("ontime/isa.formats", Rows.laid_ontime_isa_formats)] ((laidWorld os).forCall (fun _ _ => 0) ⟨#[], args, []⟩).memory := by
  refine ⟨_, ⟨0, 110, fmCells.toArray, 8, [], [], by kernel_rfl, by kernel_rfl, by kernel_rfl, by kernel_rfl, rfl, rfl⟩, by decide +kernel, fun b off h => ?_⟩
  have hb : b = 0 := by
    have h' : MemPlace.cell b off ∈ (List.range 180).map (fun i => MemPlace.cell 0 (0 + i)) := by
      have e : (MemPlace.row ⟨0, 0, none⟩ fmCells.toArray.size ++ [] ++ [] : List MemPlace) = (List.range 180).map (fun i => MemPlace.cell 0 (0 + i)) := by decide +kernel
      rw [e] at h
      exact h
    obtain ⟨i, _, e⟩ := List.mem_map.1 h'
    cases e
    rfl
  subst hb
  refine ⟨⟨fmCells.toArray, 110, laidWorld_row os args⟩, fun u v hc => ?_⟩
  simp only [World.cell?, laidWorld_row os args] at hc
  exfalso
  have hm : Value.iface u v ∈ fmCells := List.mem_of_getElem? (by simpa using hc)
  unfold fmCells at hm
  obtain ⟨f, _, hf⟩ := List.mem_flatMap.1 hm
  simp [Fm.cells] at hf

end Go.Proofs.YtfceodpdipniaaaDoor
