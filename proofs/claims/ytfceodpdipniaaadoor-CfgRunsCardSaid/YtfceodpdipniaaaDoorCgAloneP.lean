/-
  What is proved here: the graph depends on the instructions of the range alone (plain).
-/
import Derived.Test.YtfceodpdipniaaaDoorCgSoundP
namespace Go.Proofs.YtfceodpdipniaaaDoor
open Go.RowKit
set_option linter.unusedVariables false
set_option linter.unusedSimpArgs false

section
variable {c c' : Int → Ins} {st en : Int}
theorem rch_congr (hlt : st < en) (h : ∀ a, st ≤ a → a < en → c a = c' a) {a : Int} (ha : Rch c st en a) : Rch c' st en a := by
  induction ha with
  | start => exact .start
  | step h1 h2 h3 h4 ih =>
    have hr := h1.range _ _ _ hlt
    exact .step ih (by rw [← h _ hr.1 hr.2]; exact h2) h3 h4
theorem rch_iff (hlt : st < en) (h : ∀ a, st ≤ a → a < en → c a = c' a) (a : Int) : Rch c st en a ↔ Rch c' st en a :=
  ⟨rch_congr hlt h, rch_congr hlt (fun a h1 h2 => (h a h1 h2).symm)⟩
theorem bads_congr (h : ∀ a, st ≤ a → a < en → c a = c' a) {a : Int} (h1 : st ≤ a) (h2 : a < en) : Bads c st en a ↔ Bads c' st en a := by
  unfold Bads
  rw [h a h1 h2]
theorem RInv.same {D D' : List Int} {bad bad' : Int} (h0 : 0 ≤ st) (hlt : st < en) (h : ∀ a, st ≤ a → a < en → c a = c' a) (hR : RInv c st en D [] bad) (hR' : RInv c' st en D' [] bad') : (∀ x, x ∈ D ↔ x ∈ D') ∧ bad = bad' := by
  have hm : ∀ x, x ∈ D ↔ x ∈ D' := fun x => by rw [hR.mem hlt, hR'.mem hlt, rch_iff hlt h]
  have hb : ∀ x, x ∈ D → (Bads c st en x ↔ Bads c' st en x) := fun x hx => by
    have := (hR.dr x hx).range _ _ _ hlt
    exact bads_congr h this.1 this.2
  refine ⟨hm, ?_⟩
  rcases hR.b with ⟨e, h1⟩ | ⟨e, h1, h2⟩ <;> rcases hR'.b with ⟨e', h1'⟩ | ⟨e', h1', h2'⟩
  · rw [e, e']
  · exact absurd ((hb _ ((hm _).2 e')).2 h1') (h1 _ ((hm _).2 e'))
  · exact absurd ((hb _ e).1 h1) (h1' _ ((hm _).1 e))
  · have a1 := h2 _ ((hm _).2 e') ((hb _ ((hm _).2 e')).2 h1')
    have a2 := h2' _ ((hm _).1 e) ((hb _ e).1 h1)
    omega
theorem ldB_code {D : List Int} (h : ∀ a ∈ D, c a = c' a) (x : Int) : ldB c st D x = ldB c' st D x := by
  unfold ldB
  congr 1
  apply Bool.eq_iff_iff.2
  simp only [List.any_eq_true, decide_eq_true_eq]
  constructor
  · rintro ⟨a, ha, hx⟩; exact ⟨a, ha, by rw [← h a ha]; exact hx⟩
  · rintro ⟨a, ha, hx⟩; exact ⟨a, ha, by rw [h a ha]; exact hx⟩
theorem blk_code {D : List Int} (h : ∀ a ∈ D, c a = c' a) : ∀ m, blk c st D m = blk c' st D m
  | 0 => rfl
  | m + 1 => by
    unfold blk
    rw [blk_code h m, ldB_code h]
theorem blk_same {D D' : List Int} (hm : ∀ x, x ∈ D ↔ x ∈ D') (h : ∀ a ∈ D, c a = c' a) (m : Nat) : blk c st D m = blk c' st D' m := by
  rw [blk_code h m, blk_congr c' st hm m]
theorem nextOf_code {L : List (Int × Int)} (h : ∀ p ∈ L, c (p.2 - 1) = c' (p.2 - 1)) {k : Nat} (hk : k < L.length) : nextOf c L k = nextOf c' L k := by
  unfold nextOf lastI
  have e : L.getD k (0, 0) = L[k] := by simp [List.getD, List.getElem?_eq_getElem hk]
  rw [e, h _ (List.getElem_mem hk)]
theorem gBlks_code {L : List (Int × Int)} (h : ∀ p ∈ L, c (p.2 - 1) = c' (p.2 - 1)) : gBlks c L = gBlks c' L := by
  unfold gBlks
  apply List.map_congr_left
  intro k hk
  rw [nextOf_code h (List.mem_range.1 hk)]
theorem gPrev_code {L : List (Int × Int)} (h : ∀ p ∈ L, c (p.2 - 1) = c' (p.2 - 1)) : gPrev c L = gPrev c' L := by
  unfold gPrev
  apply List.map_congr_left
  intro p hp
  unfold prevOf
  congr 1
  apply List.filter_congr
  intro b hb
  rw [nextOf_code h (List.mem_range.1 hb)]
end

end Go.Proofs.YtfceodpdipniaaaDoor
