/-
  What is proved here: what Build returns for an image that the linker accepts, told as one result that the instructions of the range determine.
-/
import Derived.Test.YtfceodpdipniaaaDoorCgAloneP
namespace Go.Proofs.YtfceodpdipniaaaDoor
open Go.RowKit
set_option linter.unusedVariables false
set_option linter.unusedSimpArgs false

structure Res where
  G : List Blk
  P : List (List Int)
  at_ : Int
  er : Int
/-- What Build returns for the range. -/
inductive Out (c : Int → Ins) (st en : Int) : Res → Prop
  | bad (D : List Int) (bad : Int) (h0 : 0 ≤ bad) (h : RInv c st en D [] bad) : Out c st en ⟨[], [], bad, 10⟩
  | ok (D : List Int) (h : RInv c st en D [] (-1)) : Out c st en ⟨gBlks c (blk c st D (en - st).toNat), gPrev c (blk c st D (en - st).toNat), -1, 0⟩
theorem gBlks_nx' (c : Int → Ins) (L : List (Int × Int)) : ∀ x ∈ gBlks c L, x.nx.length ≤ 2 := by
  intro x hx
  unfold gBlks at hx
  obtain ⟨k, hk, rfl⟩ := List.mem_map.1 hx
  have h1 := nxl_len L (succI (c (lastI L k)) (lastI L k))
  have h2 := succI_len (c (lastI L k)) (lastI L k)
  show (nextOf c L k).length ≤ 2
  unfold nextOf
  omega
theorem Out.same {c c' : Int → Ins} {st en : Int} {r r' : Res} (h0 : 0 ≤ st) (hlt : st < en) (hc : ∀ a, st ≤ a → a < en → c a = c' a) (h : Out c st en r) (h' : Out c' st en r') : r = r' := by
  have hbad : ∀ (D D' : List Int) (b b' : Int), RInv c st en D [] b → RInv c' st en D' [] b' → (∀ x, x ∈ D ↔ x ∈ D') ∧ b = b' := fun D D' b b' h1 h2 => RInv.same h0 hlt hc h1 h2
  cases h with
  | bad D b hb hR =>
    cases h' with
    | bad D' b' hb' hR' => rw [(hbad _ _ _ _ hR hR').2]
    | ok D' hR' => have := (hbad _ _ _ _ hR hR').2; omega
  | ok D hR =>
    cases h' with
    | bad D' b' hb' hR' => have := (hbad _ _ _ _ hR hR').2; omega
    | ok D' hR' =>
      obtain ⟨hm, _⟩ := hbad _ _ _ _ hR hR'
      have hD : ∀ a ∈ D, c a = c' a := fun a ha => by
        have := (hR.dr a ha).range _ _ _ hlt
        exact hc a this.1 this.2
      rw [← blk_same hm hD]
      have hL : ∀ p ∈ blk c st D (en - st).toNat, c (p.2 - 1) = c' (p.2 - 1) := fun p hp => hD _ ((blk_inv c st D _).last p hp)
      rw [gBlks_code hL, gPrev_code hL]
/-- What holds of a result. -/
structure Res.Fine (r : Res) (m : Nat) : Prop where
  len : r.G.length ≤ m
  nx : ∀ x ∈ r.G, x.nx.length ≤ 2
  inn : ∀ x ∈ r.G, ∀ t ∈ x.nx, 0 ≤ t ∧ t < (r.G.length : Int)
  prev : (List.range r.G.length).map (prvAt r.G r.G.length []) = r.P
theorem Out.fine {c : Int → Ins} {st en : Int} {r : Res} (h0 : 0 ≤ st) (hlt : st < en) (h : Out c st en r) : r.Fine (en - st).toNat := by
  cases h with
  | bad D b hb hR => exact ⟨by simp, by simp, by simp, by simp⟩
  | ok D hR =>
    have GI := GInv.of h0 hlt hR
    have hstD : st ∈ D := by rcases hR.s with h | h; exact h; cases h
    refine ⟨by rw [gBlks_len]; exact blk_len c st D _, gBlks_nx' _ _, ?_, gPrev_eq _ _⟩
    obtain ⟨z, hz⟩ := (GI.valid hstD).ok
    exact okL_all hz

/-- Build, for an image that the linker accepts and a task that it has. -/
theorem build_out (cv ev : Value) (sh lk : Int) (n : Nat) (cd : Nat → Int) (ents : List Ent) (k : Nat) (e : Ent) (w : World) (T : Tab w) (HW : Words w cv n cd) (HE : Ents w ev ents) (hg : GoodI n cd ents sh lk) (he : ents[k]? = some e) :
    Calls Tryd.prog 12 #[.agg #[cv, ev, .int .i64 sh, .int .i64 lk], .int .i64 (k : Int)] w fun x w' => ∃ (r : Res) (bv pv : Value), Out (insAt cd) e.st e.en r ∧ x = .returned (.tuple #[.agg #[bv, pv], .int .i64 r.at_, .int .i64 r.er]) ∧ Blks w' bv r.G ∧ Lls w' pv r.P ∧ Below w.heap.size w w' := by
  have hk := (List.getElem?_eq_some_iff.1 he).1
  refine (build_any cv ev sh lk n cd ents k w T HW HE).mono fun x w' h => ?_
  rcases h with ⟨h, _⟩ | ⟨_, h, _⟩ | ⟨_, k', en, D, bad, hk', he', hb, hR, hx, hbl⟩ | ⟨_, k', en, D, L, bv, pv, hk', he', hR, hL, hx, h1, h2, hbl⟩
  · exact absurd hg h
  · omega
  · obtain rfl : k = k' := by omega
    rw [he] at he'
    cases he'
    exact ⟨_, _, _, .bad D bad hb hR, hx, ⟨none, 0, rfl, Nat.le_refl _, by unfold maxLen; omega, fun h => by simp at h⟩, ⟨none, 0, rfl, Nat.le_refl _, by unfold maxLen; omega, fun h => by simp at h⟩, hbl⟩
  · obtain rfl : k = k' := by omega
    rw [he] at he'
    cases he'
    subst hL
    exact ⟨_, bv, pv, .ok D hR, hx, h1, h2, hbl⟩

end Go.Proofs.YtfceodpdipniaaaDoor
