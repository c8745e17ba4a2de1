/-
  What is proved here: how the laws' arguments are opened: graphs and images.
-/
import Derived.Test.YtfceodpdipniaaaDoorCgFrame
import Derived.Deep.Strs
namespace Go.Proofs.YtfceodpdipniaaaDoor
open Go.ChangeShapes Go.WideShapes Go.ChangeAt Go.RowKit
set_option linter.unusedVariables false
set_option linter.unusedSimpArgs false

theorem list_of {α : Type} {P : Nat → α → Prop} (len : Nat) (h : ∀ i, i < len → ∃ x, P i x) : ∃ l : List α, l.length = len ∧ ∀ i x, l[i]? = some x → P i x := by
  induction len with
  | zero => exact ⟨[], rfl, fun i x hx => by simp at hx⟩
  | succ n ih =>
    obtain ⟨l, h1, h2⟩ := ih (fun i hi => h i (by omega))
    obtain ⟨x, hx⟩ := h n (by omega)
    refine ⟨l ++ [x], by simp [h1], fun i y hy => ?_⟩
    by_cases hi : i < l.length
    · rw [List.getElem?_append_left hi] at hy
      exact h2 i y hy
    · rw [List.getElem?_append_right (by omega)] at hy
      have : i - l.length = 0 := by
        rcases Nat.eq_zero_or_pos (i - l.length) with e | e
        · exact e
        · rw [List.getElem?_eq_none (by simp; omega)] at hy; cases hy
      rw [this] at hy
      simp at hy
      subst hy
      rw [show i = n by omega]
      exact hx
section
variable {H : Type} {enc : TypeId × Value → H} {P : Program} {w : World} {base : Nat} {spare : Nat → Bool} {held : Bool}
theorem open_slice_tr {t e : TypeId} {fuel : Nat} {cs0 : List Value} {y0 : DataW H × List MemPlace} (ht : P.underlying t = some (.slice e)) (c : Nat) (hC : P.cellsOf e = c) (hc : 0 < c)
    (hf : DataW.trod enc P w base spare held fuel t cs0 = some y0) :
    ∃ v len, cs0 = [v] ∧ ReadsAs w w.heap.size v len c (fun i cs => ∃ n y, DataW.trod enc P w base spare held n e cs = some y) := by
  rcases Go.Deep.open_slice ht hf with ⟨hcs, _⟩ | ⟨a, len, cap, m, n, D, Pl, hcs, _, hl, hm, hmm, _, hi⟩
  · exact ⟨.slice none 0 0, 0, hcs, none, 0, rfl, Nat.le_refl _, by unfold maxLen; omega, fun h => absurd h (by omega)⟩
  · refine ⟨.slice (some a) len cap, len, hcs, _, cap, rfl, hl, hm, fun h0 => ?_⟩
    have hlm : len ≤ m := by rw [hmm]; split <;> omega
    have cell : ∀ i, i < len → ∃ cs, (∃ n y, DataW.trod enc P w base spare held n e cs = some y) ∧ cs.length = c ∧ ∀ j, j < c → w.cell? ((a.add (i * c)).add j) = cs[j]? := by
      intro i hi'
      obtain ⟨cs, hcs, htr⟩ := hi i (by omega)
      rw [hC] at hcs
      obtain ⟨_, hl', hat⟩ := World.cells?_some hcs
      exact ⟨cs, ⟨n, _, htr⟩, hl', hat⟩
    have hspot : a.spot = none ∧ a.block < w.heap.size := by
      obtain ⟨cs, _, hl', hat⟩ := cell 0 h0
      have h1 := hat 0 hc
      rw [List.getElem?_eq_getElem (by omega)] at h1
      have e0 : ((a.add (0 * c)).add 0) = a := by simp [Addr.add]
      rw [e0] at h1
      exact ⟨World.cell?_spot h1, block_of_cell h1⟩
    obtain ⟨b, off, spot⟩ := a
    simp only at hspot
    obtain ⟨rfl, hb⟩ := hspot
    refine ⟨b, off, rfl, hb, fun i hi' => ?_⟩
    obtain ⟨cs, r, hl', hat⟩ := cell i hi'
    refine ⟨cs, r, hl', fun j hj => ?_⟩
    rw [← hat j hj]
    congr 1
    unfold Addr.add
    split <;> split <;> simp <;> omega
end
section
variable {H : Type} {enc : TypeId × Value → H} {w : World} {base : Nat} {spare : Nat → Bool} {held : Bool}
theorem cellsInt : Tryd.prog.cellsOf 3 = 1 := by kernel_rfl
theorem cellsInts : Tryd.prog.cellsOf 49 = 1 := by kernel_rfl
theorem cellsBlks : Tryd.prog.cellsOf 28 = 1 := by kernel_rfl
theorem cellsLls : Tryd.prog.cellsOf 29 = 1 := by kernel_rfl
theorem cellsGraph : Tryd.prog.cellsOf 31 = 2 := by kernel_rfl
theorem list3 {cs : List Value} (h : cs.length = 3) : ∃ c0 c1 c2, cs = [c0, c1, c2] := by
  match cs, h with
  | [c0, c1, c2], _ => exact ⟨c0, c1, c2, rfl⟩
theorem tr_ints {fuel : Nat} {cs : List Value} {y : DataW H × List MemPlace} (h : DataW.trod enc Tryd.prog w base spare held fuel 49 cs = some y) : ∃ v l, cs = [v] ∧ Ints w v l ∧ ∀ x ∈ l, kwf x := by
  obtain ⟨v, len, rfl, A, cap, rfl, h1, h2, hc⟩ := open_slice_tr Tryd.underlying49 1 (by kernel_rfl) (by omega) h
  obtain ⟨l, hl, hp⟩ := list_of (P := fun i (x : Int) => kwf x ∧ (0 < len → ∃ b off, A = some ⟨b, off, none⟩ ∧ b < w.heap.size ∧ w.cell? ⟨b, off + i, none⟩ = some (.int .i64 x))) len (fun i hi => by
    obtain ⟨b, off, rfl, hb, hx⟩ := hc (by omega)
    obtain ⟨cs, ⟨n, y, htr⟩, _, hj⟩ := hx i hi
    obtain ⟨z, rfl, _, hw⟩ := DataW.trod_int Tryd.underlying3 htr
    have := hj 0 (by omega)
    exact ⟨z, hw, fun _ => ⟨b, off, rfl, hb, by simpa using this⟩⟩)
  subst hl
  refine ⟨_, l, rfl, ⟨A, cap, rfl, h1, h2, fun h0 => ?_⟩, fun x hx => ?_⟩
  · obtain ⟨b, off, rfl, hb, hx⟩ := hc h0
    refine ⟨b, off, rfl, hb, fun i hi => ?_⟩
    obtain ⟨_, h4⟩ := hp i _ (List.getElem?_eq_getElem hi)
    obtain ⟨b', off', e, _, h5⟩ := h4 h0
    cases e
    rw [h5]
    simp [List.getD, List.getElem?_eq_getElem hi]
  · obtain ⟨i, hi⟩ := List.mem_iff_getElem?.1 hx
    exact (hp i x hi).1
theorem tr_lls {fuel : Nat} {cs : List Value} {y : DataW H × List MemPlace} (h : DataW.trod enc Tryd.prog w base spare held fuel 29 cs = some y) : ∃ v P, cs = [v] ∧ Lls w v P := by
  obtain ⟨v, len, rfl, A, cap, rfl, h1, h2, hc⟩ := open_slice_tr Tryd.underlying29 1 (by kernel_rfl) (by omega) h
  obtain ⟨l, hl, hp⟩ := list_of (P := fun i (x : List Int) => (0 < len → ∃ b off nv, A = some ⟨b, off, none⟩ ∧ b < w.heap.size ∧ w.cell? ⟨b, off + i, none⟩ = some nv ∧ Ints w nv x)) len (fun i hi => by
    obtain ⟨b, off, rfl, hb, hx⟩ := hc (by omega)
    obtain ⟨cs, ⟨n, y, htr⟩, _, hj⟩ := hx i hi
    obtain ⟨nv, l, rfl, hI, _⟩ := tr_ints htr
    have := hj 0 (by omega)
    exact ⟨l, fun _ => ⟨b, off, nv, rfl, hb, by simpa using this, hI⟩⟩)
  subst hl
  refine ⟨_, l, rfl, A, cap, rfl, h1, h2, fun h0 => ?_⟩
  obtain ⟨b, off, rfl, hb, hx⟩ := hc h0
  refine ⟨b, off, rfl, hb, fun i x hi => ?_⟩
  obtain ⟨b', off', nv, e, _, h5, h6⟩ := hp i x hi h0
  cases e
  exact ⟨nv, h5, h6⟩
theorem tr_blks {fuel : Nat} {cs : List Value} {y : DataW H × List MemPlace} (h : DataW.trod enc Tryd.prog w base spare held fuel 28 cs = some y) : ∃ v G, cs = [v] ∧ Blks w v G := by
  obtain ⟨v, len, rfl, A, cap, rfl, h1, h2, hc⟩ := open_slice_tr Tryd.underlying28 3 (by kernel_rfl) (by omega) h
  obtain ⟨l, hl, hp⟩ := list_of (P := fun i (x : Blk) => (0 < len → ∃ b off nv, A = some ⟨b, off, none⟩ ∧ b < w.heap.size ∧ w.cell? ⟨b, off + i * 3, none⟩ = some (.int .i64 x.lo) ∧ w.cell? ⟨b, off + i * 3 + 1, none⟩ = some (.int .i64 x.hi) ∧ w.cell? ⟨b, off + i * 3 + 2, none⟩ = some nv ∧ Ints w nv x.nx)) len (fun i hi => by
    obtain ⟨b, off, rfl, hb, hx⟩ := hc (by omega)
    obtain ⟨cs, ⟨n, y, htr⟩, hl, hj⟩ := hx i hi
    obtain ⟨y0, y1, y2, n', _, _, g0, g1, g2⟩ := Go.Deep.trod_struct3 Tryd.underlying51 htr
    obtain ⟨c0, c1, c2, rfl⟩ := list3 hl
    simp only [cellsInt, cellsInts, List.drop_zero, List.drop_succ_cons, List.take_succ_cons, List.take_zero] at g0 g1 g2
    obtain ⟨z0, e0, _, _⟩ := DataW.trod_int Tryd.underlying3 g0
    obtain ⟨z1, e1, _, _⟩ := DataW.trod_int Tryd.underlying3 g1
    obtain ⟨nv, l, e2, hI, _⟩ := tr_ints g2
    simp at e0 e1 e2
    subst e0 e1 e2
    refine ⟨⟨z0, z1, l⟩, fun _ => ⟨b, off, c2, rfl, hb, ?_, ?_, ?_, hI⟩⟩
    · simpa using hj 0 (by omega)
    · simpa [Nat.add_assoc] using hj 1 (by omega)
    · simpa [Nat.add_assoc] using hj 2 (by omega))
  subst hl
  refine ⟨_, l, rfl, A, cap, rfl, h1, h2, fun h0 => ?_⟩
  obtain ⟨b, off, rfl, hb, hx⟩ := hc h0
  refine ⟨b, off, rfl, hb, fun i x hi => ?_⟩
  obtain ⟨b', off', nv, e, _, h5, h6, h7, h8⟩ := hp i x hi h0
  cases e
  exact ⟨h5, h6, nv, h7, h8⟩
theorem array2 {α : Type} {cs : Array α} (h : cs.size = 2) : ∃ c0 c1, cs = #[c0, c1] := by
  obtain ⟨l⟩ := cs
  match l, h with
  | [c0, c1], _ => exact ⟨c0, c1, rfl⟩
set_option maxRecDepth 100000 in
theorem open_graph {r : Reach} {b0 : Nat} {v : Value} {d : DataW H} {p : List MemPlace} (hv : Value.okWide Tryd.prog w r b0 31 v) (h : DataW.Trod enc Tryd.prog w base spare held 31 v d p) :
    ∃ bv pv G P, v = .agg #[bv, pv] ∧ Blks w bv G ∧ Lls w pv P := by
  obtain ⟨cs, rfl, hsz⟩ := okWide_struct Tryd.underlying31 hv
  obtain ⟨c0, c1, rfl⟩ := array2 (hsz.trans cellsGraph)
  obtain ⟨fuel, hf⟩ := h
  obtain ⟨y0, y1, n, _, _, g0, g1⟩ := trod_struct2 Tryd.underlying31 hf
  simp only [Value.cells, cellsBlks, cellsLls, List.drop_zero, List.drop_succ_cons, List.take_succ_cons, List.take_zero] at g0 g1
  obtain ⟨bv, G, e0, hG⟩ := tr_blks g0
  obtain ⟨pv, P, e1, hP⟩ := tr_lls g1
  simp at e0 e1
  subst e0 e1
  exact ⟨c0, c1, G, P, rfl, hG, hP⟩
end

end Go.Proofs.YtfceodpdipniaaaDoor
