/-
  What is proved here: CfgBuilds returns true for every image and task, and changes nothing of its input.
-/
import Derived.Test.YtfceodpdipniaaaDoorCgOut
import Derived.Test.YtfceodpdipniaaaDoorCgIs
import Derived.Test.YtfceodpdipniaaaDoorCgOpen2
import Derived.Test.YtfceodpdipniaaaDoorCgR24d
import Derived.Test.YtfceodpdipniaaaDoorCgR24e
import Derived.Deep.RegionWith
import Derived.Deep.RegionHeld3
namespace Go.Proofs.YtfceodpdipniaaaDoor
open Go.RowKit
set_option linter.unusedVariables false
set_option linter.unusedSimpArgs false

theorem WordsN.belowB {w w' : World} {v : Value} {n : Nat} {cd : Nat → Int} (h : WordsN w v n cd) (hb : Below w.heap.size w w') : WordsN w' v n cd := by
  obtain ⟨A, cap, h1, h2, h3, h4⟩ := h.at_
  refine ⟨h.wd, A, cap, h1, h2, h3, fun h0 => ?_⟩
  obtain ⟨b, off, ha, hlt, hc⟩ := h4 h0
  exact ⟨b, off, ha, by have := hb.size; omega, fun i hi => (hb.cell (p := ⟨b, off + i, none⟩) hlt).trans (hc i hi)⟩
def LeaveIs (C : Int → Ins) (st en : Nat) (r : Int) : Prop := (r = -1 ∧ ∀ k : Nat, st ≤ k → k < en → Rch C st en (k : Int) → ¬ Bads C st en (k : Int)) ∨ (∃ k : Nat, r = (k : Int) ∧ st ≤ k ∧ k < en ∧ Rch C st en (k : Int) ∧ Bads C st en (k : Int) ∧ ∀ k' : Nat, st ≤ k' → k' < k → Rch C st en (k' : Int) → ¬ Bads C st en (k' : Int))
theorem keepsW {W w' : World} (h : Below W.heap.size W w') : (∀ b o, b < W.heap.size → w'.cell? ⟨b, o, none⟩ = W.cell? ⟨b, o, none⟩) ∧ Below W.heap.size W w' := ⟨fun b o hb => h.cell (p := ⟨b, o, none⟩) hb, h⟩
theorem LeaveIs.bad {C : Int → Ins} {st en : Nat} {r : Int} {D : List Int} {bad : Int} (h : LeaveIs C st en r) (hlt : st < en) (h0 : 0 ≤ bad) (hR : RInv C st en D [] bad) : r = bad := by
  rcases hR.b with ⟨e, _⟩ | ⟨h1, h2, h3⟩
  · omega
  · have hr := (hR.dr bad h1).range _ _ _ (by omega)
    obtain ⟨b, rfl⟩ : ∃ b : Nat, bad = (b : Int) := ⟨bad.toNat, by omega⟩
    rcases h with ⟨_, h4⟩ | ⟨k, rfl, h4, h5, h6, h7, h8⟩
    · exact absurd h2 (h4 b (by omega) (by omega) (hR.dr _ h1))
    · have h9 := h3 _ ((hR.mem (by omega) _).2 h6) h7
      by_cases e : b < k
      · exact absurd h2 (h8 b (by omega) e (hR.dr _ h1))
      · omega
theorem LeaveIs.ok {C : Int → Ins} {st en : Nat} {r : Int} {D : List Int} (h : LeaveIs C st en r) (hlt : st < en) (hR : RInv C st en D [] (-1)) : r = -1 := by
  rcases h with ⟨h4, _⟩ | ⟨k, rfl, h4, h5, h6, h7, h8⟩
  · exact h4
  · rcases hR.b with ⟨_, h1⟩ | ⟨h1, _⟩
    · exact absurd h7 (h1 _ ((hR.mem (by omega) _).2 h6))
    · have := (hR.dr _ h1).range _ _ _ (by omega)
      omega

set_option maxHeartbeats 8000000 in
set_option maxRecDepth 20000 in
theorem builds_any (cv ev : Value) (sh lk : Int) (n : Nat) (cd : Nat → Int) (ents : List Ent) (task : Int) (w : World) (T : Tab w) (HW : WordsN w cv n cd) (HE : Ents w ev ents) :
    Calls Tryd.prog 3 #[.agg #[cv, ev, .int .i64 sh, .int .i64 lk], .int .i64 task] w fun e w' => e = .returned (.bool true) ∧ Below w.heap.size w w' := by
  obtain ⟨A, cap, hcv, hc1, hc2, -⟩ := HW.at_
  obtain ⟨EA, ecap, hev, he1, he2, -⟩ := HE.at_
  have h63 : ents.length ≤ 2 ^ 63 - 1 := by unfold maxLen at he2; omega
  have HWH := Lib.hid HW
  have HEH := Lib.hid HE
  have HT := Lib.hid T
  clear HW HE T
  subst hcv hev
  obtain ⟨V0, hV0⟩ : ∃ V0, w.alloc (.cells #[.slice A n cap, .slice EA ents.length ecap, .int .i64 sh, .int .i64 lk] 25) = V0 := ⟨_, rfl⟩
  have b0 : Below w.heap.size w V0 := hV0 ▸ (Below.refl _ _).alloc (Nat.le_refl _) _
  have s0 : w.heap.size < V0.heap.size := by rw [← hV0]; simp
  have k0 : V0.heap[w.heap.size]? = some (.cells #[.slice A n cap, .slice EA ents.length ecap, .int .i64 sh, .int .i64 lk] 25) := by rw [← hV0]; exact heap_alloc_new _ _
  have y0 : V0.cell? ⟨w.heap.size, 0, none⟩ = some (.slice A n cap) := by simp [World.cell?, k0]
  have y1 : V0.cell? ⟨w.heap.size, 1, none⟩ = some (.slice EA ents.length ecap) := by simp [World.cell?, k0]
  have y2 : V0.cell? ⟨w.heap.size, 2, none⟩ = some (.int .i64 sh) := by simp [World.cell?, k0]
  have y3 : V0.cell? ⟨w.heap.size, 3, none⟩ = some (.int .i64 lk) := by simp [World.cell?, k0]
  have B0 := Lib.hid b0
  have HAW := Lib.hid (Calls.ext (awake_any V0 (HT.out.below b0)))
  clear k0 b0
  go_enter Tryd.func3, Tryd.ntmps3
  go_upto_region 1 with fail
  clear hV0
  have HGR := Lib.hid (show ∀ y : Ext V0, Calls Tryd.prog 11 #[.agg #[.slice A n cap, .slice EA ents.length ecap, .int .i64 sh, .int .i64 lk]] y.w fun e w' => e = .returned (.int .i64 (greatI n ents)) ∧ ∃ z : Ext V0, z.w = w' from fun y => (great_any _ _ sh lk n cd ents y.w (HWH.out.belowB (Ext.below B0.out B0.out.size y)) (HEH.out.below (Ext.below B0.out B0.out.size y))).mono fun e w' ⟨h1, h2⟩ => ⟨h1, ⟨w', y.h.trans (h2.mono y.h.size)⟩, rfl⟩)
  by_cases hgt : 300 < n ∨ 4 < ents.length
  case pos =>
    have hg1 : greatI n ents = 1 := by unfold greatI; rw [if_pos hgt]
    rw [hg1] at HGR
    clear hgt hg1
    go_wp2_with (first | (go_at_call 10; refine HAW.out.mono ?_; rintro e w' ⟨rfl, y, rfl⟩) | (go_at_call 11; refine (HGR.out _).mono ?_; rintro e w' ⟨rfl, z, rfl⟩))
    go_ret
    exact ⟨rfl, Ext.below B0.out B0.out.size z⟩
  have hg0 : greatI n ents = 0 := by unfold greatI; rw [if_neg hgt]
  rw [hg0] at HGR
  have hn3 : n ≤ 300 := by omega
  have he4 : ents.length ≤ 4 := by omega
  clear hgt hg0
  have HCK := Lib.hid (show ∀ W, Below V0.heap.size V0 W → _ from fun W hW => check_any (.slice A n cap) (.slice EA ents.length ecap) sh lk n cd ents W (HT.out.below (B0.out.trans (hW.mono B0.out.size))) ((HWH.out.belowB (B0.out.trans (hW.mono B0.out.size))).words (by omega)) (HEH.out.below (B0.out.trans (hW.mono B0.out.size))))
  by_cases hg : GoodI n cd ents sh lk
  case neg =>
    have HC := Lib.hid (show ∀ W, Below V0.heap.size V0 W → Calls Tryd.prog 13 #[.agg #[.slice A n cap, .slice EA ents.length ecap, .int .i64 sh, .int .i64 lk]] W fun e w' => ∃ r, e = .returned (.int .i64 r) ∧ (r != 0) = true ∧ Below V0.heap.size V0 w' from fun W hW => (HCK.out W hW).mono fun e w' ⟨⟨r, h1, h2⟩, h3⟩ => ⟨r, h1, by simp; intro h; exact hg (h2.1 h), hW.trans (h3.mono hW.size)⟩)
    have HBU := Lib.hid (show ∀ W, Below V0.heap.size V0 W → Calls Tryd.prog 12 #[.agg #[.slice A n cap, .slice EA ents.length ecap, .int .i64 sh, .int .i64 lk], .int .i64 task] W fun e w' => e = .returned (.tuple #[.agg #[.slice none 0 0, .slice none 0 0], .int .i64 (-1), .int .i64 3]) ∧ Below V0.heap.size V0 w' from fun W hW => (build_any _ _ sh lk n cd ents task W (HT.out.below (B0.out.trans (hW.mono B0.out.size))) ((HWH.out.belowB (B0.out.trans (hW.mono B0.out.size))).words (by omega)) (HEH.out.below (B0.out.trans (hW.mono B0.out.size)))).mono fun e w' h => by
      rcases h with ⟨_, h1, h2⟩ | ⟨h, _⟩ | ⟨h, _⟩ | ⟨h, _⟩
      · exact ⟨h1, hW.trans (h2.mono hW.size)⟩
      · exact absurd h hg
      · exact absurd h hg
      · exact absurd h hg)
    clear HCK hg
    go_upto_region 5 with (first | (go_at_call 10; refine HAW.out.mono ?_; rintro e w' ⟨rfl, y, rfl⟩) | (go_at_call 11; refine (HGR.out _).mono ?_; rintro e w' ⟨rfl, z, rfl⟩))
    go_upto_region 6 with (go_at_call 12; refine (HBU.out z.w z.h).mono ?_; rintro e' W3 ⟨rfl, hb3⟩)
    obtain ⟨X, hX⟩ : ∃ X, W3.alloc (.cells #[.slice none 0 0, .slice none 0 0] 31) = X := ⟨_, rfl⟩
    have bX : Below W3.heap.size W3 X := hX ▸ (Below.refl _ _).alloc (Nat.le_refl _) _
    have kX : X.heap[W3.heap.size]? = some (.cells #[.slice none 0 0, .slice none 0 0] 31) := hX ▸ heap_alloc_new _ _
    have sX : W3.heap.size < X.heap.size := by rw [← hX]; simp
    have q0 : X.cell? ⟨W3.heap.size, 0, none⟩ = some (.slice none 0 0) := by simp [World.cell?, kX]
    have q1 : X.cell? ⟨W3.heap.size, 1, none⟩ = some (.slice none 0 0) := by simp [World.cell?, kX]
    have BX := Lib.hid (hb3.trans (bX.mono hb3.size))
    have x0 : X.cell? ⟨w.heap.size, 0, none⟩ = some (.slice A n cap) := by rw [BX.out.cell (p := ⟨w.heap.size, 0, none⟩) s0]; exact y0
    have x1 : X.cell? ⟨w.heap.size, 1, none⟩ = some (.slice EA ents.length ecap) := by rw [BX.out.cell (p := ⟨w.heap.size, 1, none⟩) s0]; exact y1
    have x2 : X.cell? ⟨w.heap.size, 2, none⟩ = some (.int .i64 sh) := by rw [BX.out.cell (p := ⟨w.heap.size, 2, none⟩) s0]; exact y2
    have x3 : X.cell? ⟨w.heap.size, 3, none⟩ = some (.int .i64 lk) := by rw [BX.out.cell (p := ⟨w.heap.size, 3, none⟩) s0]; exact y3
    rw [hX]
    clear hX bX kX hb3
    go_wp2_with (go_at_call 13; refine (HC.out X BX.out).mono ?_; rintro e w' ⟨r, rfl, dr, hb4⟩)
    go_ret
    exact ⟨rfl, B0.out.trans (hb4.mono B0.out.size)⟩
  have HC := Lib.hid (show ∀ W, Below V0.heap.size V0 W → Calls Tryd.prog 13 #[.agg #[.slice A n cap, .slice EA ents.length ecap, .int .i64 sh, .int .i64 lk]] W fun e w' => e = .returned (.int .i64 0) ∧ Below V0.heap.size V0 w' from fun W hW => (HCK.out W hW).mono fun e w' ⟨⟨r, h1, h2⟩, h3⟩ => ⟨by rw [h1, h2.2 hg], hW.trans (h3.mono hW.size)⟩)
  have HGd := Lib.hid hg
  by_cases ht : task < 0 ∨ (ents.length : Int) ≤ task
  case pos =>
    have HBU := Lib.hid (show ∀ W, Below V0.heap.size V0 W → Calls Tryd.prog 12 #[.agg #[.slice A n cap, .slice EA ents.length ecap, .int .i64 sh, .int .i64 lk], .int .i64 task] W fun e w' => e = .returned (.tuple #[.agg #[.slice none 0 0, .slice none 0 0], .int .i64 (-1), .int .i64 2]) ∧ Below V0.heap.size V0 w' from fun W hW => (build_any _ _ sh lk n cd ents task W (HT.out.below (B0.out.trans (hW.mono B0.out.size))) ((HWH.out.belowB (B0.out.trans (hW.mono B0.out.size))).words (by omega)) (HEH.out.below (B0.out.trans (hW.mono B0.out.size)))).mono fun e w' h => by
      rcases h with ⟨h, _⟩ | ⟨_, _, h1, h2⟩ | ⟨_, k, en, D, bad, hk, h, _⟩ | ⟨_, k, en, D, L, bv, pv, hk, h, _⟩
      · exact absurd hg h
      · exact ⟨h1, hW.trans (h2.mono hW.size)⟩
      · have := (List.getElem?_eq_some_iff.1 h).1; omega
      · have := (List.getElem?_eq_some_iff.1 h).1; omega)
    clear HCK hg
    by_cases h0 : task < 0
    · have d0 : decide (task < 0) = true := decide_eq_true h0
      clear ht h0
      go_upto_region 5 with (first | (go_at_call 10; refine HAW.out.mono ?_; rintro e w' ⟨rfl, y, rfl⟩) | (go_at_call 11; refine (HGR.out _).mono ?_; rintro e w' ⟨rfl, z, rfl⟩))
      go_upto_region 6 with (go_at_call 12; refine (HBU.out z.w z.h).mono ?_; rintro e' W3 ⟨rfl, hb3⟩)
      obtain ⟨X, hX⟩ : ∃ X, W3.alloc (.cells #[.slice none 0 0, .slice none 0 0] 31) = X := ⟨_, rfl⟩
      have bX : Below W3.heap.size W3 X := hX ▸ (Below.refl _ _).alloc (Nat.le_refl _) _
      have kX : X.heap[W3.heap.size]? = some (.cells #[.slice none 0 0, .slice none 0 0] 31) := hX ▸ heap_alloc_new _ _
      have sX : W3.heap.size < X.heap.size := by rw [← hX]; simp
      have q0 : X.cell? ⟨W3.heap.size, 0, none⟩ = some (.slice none 0 0) := by simp [World.cell?, kX]
      have q1 : X.cell? ⟨W3.heap.size, 1, none⟩ = some (.slice none 0 0) := by simp [World.cell?, kX]
      have BX := Lib.hid (hb3.trans (bX.mono hb3.size))
      have x0 : X.cell? ⟨w.heap.size, 0, none⟩ = some (.slice A n cap) := by rw [BX.out.cell (p := ⟨w.heap.size, 0, none⟩) s0]; exact y0
      have x1 : X.cell? ⟨w.heap.size, 1, none⟩ = some (.slice EA ents.length ecap) := by rw [BX.out.cell (p := ⟨w.heap.size, 1, none⟩) s0]; exact y1
      have x2 : X.cell? ⟨w.heap.size, 2, none⟩ = some (.int .i64 sh) := by rw [BX.out.cell (p := ⟨w.heap.size, 2, none⟩) s0]; exact y2
      have x3 : X.cell? ⟨w.heap.size, 3, none⟩ = some (.int .i64 lk) := by rw [BX.out.cell (p := ⟨w.heap.size, 3, none⟩) s0]; exact y3
      rw [hX]
      clear hX bX kX hb3
      go_wp2_with (go_at_call 13; refine (HC.out X BX.out).mono ?_; rintro e w' ⟨rfl, hb4⟩)
      go_ret
      exact ⟨rfl, B0.out.trans (hb4.mono B0.out.size)⟩
    · have d0 : decide (task < 0) = false := decide_eq_false h0
      have d1 : decide ((ents.length : Int) ≤ task) = true := decide_eq_true (by omega)
      clear ht h0
      go_upto_region 5 with (first | (go_at_call 10; refine HAW.out.mono ?_; rintro e w' ⟨rfl, y, rfl⟩) | (go_at_call 11; refine (HGR.out _).mono ?_; rintro e w' ⟨rfl, z, rfl⟩))
      go_upto_region 6 with (go_at_call 12; refine (HBU.out z.w z.h).mono ?_; rintro e' W3 ⟨rfl, hb3⟩)
      obtain ⟨X, hX⟩ : ∃ X, W3.alloc (.cells #[.slice none 0 0, .slice none 0 0] 31) = X := ⟨_, rfl⟩
      have bX : Below W3.heap.size W3 X := hX ▸ (Below.refl _ _).alloc (Nat.le_refl _) _
      have kX : X.heap[W3.heap.size]? = some (.cells #[.slice none 0 0, .slice none 0 0] 31) := hX ▸ heap_alloc_new _ _
      have sX : W3.heap.size < X.heap.size := by rw [← hX]; simp
      have q0 : X.cell? ⟨W3.heap.size, 0, none⟩ = some (.slice none 0 0) := by simp [World.cell?, kX]
      have q1 : X.cell? ⟨W3.heap.size, 1, none⟩ = some (.slice none 0 0) := by simp [World.cell?, kX]
      have BX := Lib.hid (hb3.trans (bX.mono hb3.size))
      have x0 : X.cell? ⟨w.heap.size, 0, none⟩ = some (.slice A n cap) := by rw [BX.out.cell (p := ⟨w.heap.size, 0, none⟩) s0]; exact y0
      have x1 : X.cell? ⟨w.heap.size, 1, none⟩ = some (.slice EA ents.length ecap) := by rw [BX.out.cell (p := ⟨w.heap.size, 1, none⟩) s0]; exact y1
      have x2 : X.cell? ⟨w.heap.size, 2, none⟩ = some (.int .i64 sh) := by rw [BX.out.cell (p := ⟨w.heap.size, 2, none⟩) s0]; exact y2
      have x3 : X.cell? ⟨w.heap.size, 3, none⟩ = some (.int .i64 lk) := by rw [BX.out.cell (p := ⟨w.heap.size, 3, none⟩) s0]; exact y3
      rw [hX]
      clear hX bX kX hb3
      go_upto_region 9 with (go_at_call 13; refine (HC.out X BX.out).mono ?_; rintro e w' ⟨rfl, hb4⟩)
      have v1 : w'.cell? ⟨w.heap.size, 1, none⟩ = some (.slice EA ents.length ecap) := by rw [hb4.cell (p := ⟨w.heap.size, 1, none⟩) s0]; exact y1
      go_wp2_with fail
      go_ret
      exact ⟨rfl, B0.out.trans (hb4.mono B0.out.size)⟩
  obtain ⟨k, rfl⟩ : ∃ k : Nat, task = (k : Int) := ⟨task.toNat, by omega⟩
  have hk : k < ents.length := by omega
  have d0 : decide ((k : Int) < 0) = false := decide_eq_false (by omega)
  have d1 : decide ((ents.length : Int) ≤ (k : Int)) = false := decide_eq_false (by omega)
  have d1n : decide (ents.length ≤ k) = false := decide_eq_false (by omega)
  obtain ⟨e, eb, eoff, he, rfl, hbl, _, _, _, _⟩ := HEH.out.cells (Below.refl _ _) hk
  have hem := List.mem_of_getElem? he
  obtain ⟨g1, g2, g3⟩ := HGd.out.ch.bounds e hem
  have HEN := Lib.hid he
  have HBU := Lib.hid (show ∀ W, Below V0.heap.size V0 W → _ from fun W hW => build_out (.slice A n cap) _ sh lk n cd ents k e W (HT.out.below (B0.out.trans (hW.mono B0.out.size))) ((HWH.out.belowB (B0.out.trans (hW.mono B0.out.size))).words (by omega)) (HEH.out.below (B0.out.trans (hW.mono B0.out.size))) hg he)
  have HCOD := Lib.hid (show ∀ W, Below V0.heap.size V0 W → _ from fun W hW => code_any (.slice A n cap) (.slice (some ⟨eb, eoff, none⟩) ents.length ecap) sh lk n cd W ((HWH.out.belowB (B0.out.trans (hW.mono B0.out.size))).words (by omega)))
  obtain ⟨s, hs⟩ : ∃ s : Nat, e.st = (s : Int) := ⟨e.st.toNat, by omega⟩
  obtain ⟨t, ht'⟩ : ∃ t : Nat, e.en = (t : Int) := ⟨e.en.toNat, by omega⟩
  have hst : s < t := by omega
  have htn : t ≤ n := by omega
  have HIM := Lib.hid (show ∀ i, i < n → -1000000 ≤ (decI (cd i)).1.imm ∧ (decI (cd i)).1.imm ≤ 1000000 from fun i hi => by have := decI_imm (cd i) (HWH.out.wd i hi).1; omega)
  have HCI := Lib.hid (show ∀ i : Nat, i < n → insAt cd (i : Int) = (decI (cd i)).1 from fun i _ => by simp [insAt])
  clear ht HCK hg he hem
  go_upto_region 5 with (first | (go_at_call 10; refine HAW.out.mono ?_; rintro e w' ⟨rfl, y, rfl⟩) | (go_at_call 11; refine (HGR.out _).mono ?_; rintro e w' ⟨rfl, z, rfl⟩))
  go_upto_region 6 with (go_at_call 12; refine (HBU.out z.w z.h).mono ?_; rintro e' W3 ⟨r, bv, pv, hr, rfl, hB, hP, hb3'⟩; obtain ⟨bA, bcap, rfl, gg1, gg2⟩ := hB.slice; obtain ⟨pA, pcap, rfl, pp1, pp2⟩ := hP.slice)
  have hb3 : Below V0.heap.size V0 W3 := z.h.trans (hb3'.mono z.h.size)
  have HF := Lib.hid (hr.fine g1 g2)
  obtain ⟨gb, hgb⟩ : ∃ gb, W3.heap.size = gb := ⟨_, rfl⟩
  obtain ⟨X, hX⟩ : ∃ X, W3.alloc (.cells #[.slice bA r.G.length bcap, .slice pA r.P.length pcap] 31) = X := ⟨_, rfl⟩
  have bX : Below W3.heap.size W3 X := hX ▸ (Below.refl _ _).alloc (Nat.le_refl _) _
  have kX : X.heap[W3.heap.size]? = some (.cells #[.slice bA r.G.length bcap, .slice pA r.P.length pcap] 31) := hX ▸ heap_alloc_new _ _
  have sX : W3.heap.size < X.heap.size := by rw [← hX]; simp
  have HBX := Lib.hid (hB.below bX)
  have HPX := Lib.hid (hP.below bX)
  have BX := Lib.hid (hb3.trans (bX.mono hb3.size))
  have q0 : X.cell? ⟨W3.heap.size, 0, none⟩ = some (.slice bA r.G.length bcap) := by simp [World.cell?, kX]
  have q1 : X.cell? ⟨W3.heap.size, 1, none⟩ = some (.slice pA r.P.length pcap) := by simp [World.cell?, kX]
  have x0 : X.cell? ⟨w.heap.size, 0, none⟩ = some (.slice A n cap) := by rw [BX.out.cell (p := ⟨w.heap.size, 0, none⟩) s0]; exact y0
  have x1 : X.cell? ⟨w.heap.size, 1, none⟩ = some (.slice (some ⟨eb, eoff, none⟩) ents.length ecap) := by rw [BX.out.cell (p := ⟨w.heap.size, 1, none⟩) s0]; exact y1
  have x2 : X.cell? ⟨w.heap.size, 2, none⟩ = some (.int .i64 sh) := by rw [BX.out.cell (p := ⟨w.heap.size, 2, none⟩) s0]; exact y2
  have x3 : X.cell? ⟨w.heap.size, 3, none⟩ = some (.int .i64 lk) := by rw [BX.out.cell (p := ⟨w.heap.size, 3, none⟩) s0]; exact y3
  have KX := Lib.hid kX
  have HCX := Lib.hid (show Calls Tryd.prog 13 #[.agg #[.slice A n cap, .slice (some ⟨eb, eoff, none⟩) ents.length ecap, .int .i64 sh, .int .i64 lk]] X fun e w' => e = .returned (.int .i64 0) ∧ Below X.heap.size X w' from (check_any (.slice A n cap) _ sh lk n cd ents X (HT.out.below (B0.out.trans (BX.out.mono B0.out.size))) ((HWH.out.belowB (B0.out.trans (BX.out.mono B0.out.size))).words (by omega)) (HEH.out.below (B0.out.trans (BX.out.mono B0.out.size)))).mono fun e w' ⟨⟨r, h1, h2⟩, h3⟩ => ⟨by rw [h1, h2.2 HGd.out], h3⟩)
  rw [hX]
  rw [hgb] at KX q0 q1 sX ⊢
  have swX : w.heap.size < X.heap.size := by have := BX.out.size; omega
  have hbe : eb < X.heap.size := by have := BX.out.size; omega
  clear hX bX kX hB hP hb3' hb3 hgb HAW HGR HBU HC y0 y1 y2 y3 z
  have HR := Lib.hid hr
  have HZ := Lib.hid (show (r.er = 10 ∧ r.G = [] ∧ r.P = []) ∨ (r.er = 0 ∧ r.at_ = -1 ∧ 0 < r.G.length) from by
    cases hr with
    | bad D b hb hR => exact .inl ⟨rfl, rfl, rfl⟩
    | ok D hR =>
      refine .inr ⟨rfl, rfl, ?_⟩
      show 0 < (gBlks (insAt cd) (blk (insAt cd) e.st D (e.en - e.st).toNat)).length
      rw [gBlks_len]
      have hstD : e.st ∈ D := by rcases hR.s with h | h; exact h; cases h
      exact List.length_pos_iff.2 ((blk_inv (insAt cd) e.st D _).ne hstD (by omega)))
  clear hr
  obtain ⟨zb, hzb⟩ : ∃ zb, decide (r.G.length = 0) = zb := ⟨_, rfl⟩
  obtain ⟨G, P, at_, er⟩ := r
  simp only at HBX HPX HF KX q0 q1 hzb HZ ⊢
  go_cut [8] from 24 to 33 (fun a8 wx => a8 = .bool zb ∧ wx = X)
  case first =>
    cases zb
    · have hg0 : ¬ G.length = 0 := by simpa using hzb
      have dG : ((G.length : Int) == 0) = false := beq_eq_false_iff_ne.2 (by omega)
      have dGn : (G.length == 0) = false := beq_eq_false_iff_ne.2 hg0
      clear hg0 hzb
      go_wp2_with fail
      go_meet
      case rel => exact ⟨rfl, rfl⟩
    · have hg0 : G.length = 0 := by simpa using hzb
      have hp0 : P.length = 0 := by
        rcases HZ.out with ⟨_, h, h2⟩ | ⟨_, _, h⟩
        · rw [h2]; rfl
        · omega
      have dG : ((G.length : Int) == 0) = true := beq_iff_eq.2 (by omega)
      have dGn : (G.length == 0) = true := beq_iff_eq.2 hg0
      have dP : ((P.length : Int) == 0) = true := beq_iff_eq.2 (by omega)
      have dPn : (P.length == 0) = true := beq_iff_eq.2 hp0
      clear hg0 hp0 hzb
      go_wp2_with fail
      go_meet
      case rel => exact ⟨rfl, rfl⟩
  case rest =>
    obtain ⟨rfl, rfl⟩ := hcut
    obtain ⟨X, hXX⟩ : ∃ X : World, X = wc := ⟨_, rfl⟩
    subst hXX
    have HZB := Lib.hid hzb
    clear hzb q0 q1
    go_upto_region 11 with (go_at_call 13; refine HCX.out.mono ?_; rintro e' U ⟨rfl, hbu⟩; have u0 : U.cell? ⟨w.heap.size, 0, none⟩ = some (.slice A n cap) := (hbu.cell (p := ⟨w.heap.size, 0, none⟩) swX).trans x0; have u1 : U.cell? ⟨w.heap.size, 1, none⟩ = some (.slice (some ⟨eb, eoff, none⟩) ents.length ecap) := (hbu.cell (p := ⟨w.heap.size, 1, none⟩) swX).trans x1; have u2 : U.cell? ⟨w.heap.size, 2, none⟩ = some (.int .i64 sh) := (hbu.cell (p := ⟨w.heap.size, 2, none⟩) swX).trans x2; have u3 : U.cell? ⟨w.heap.size, 3, none⟩ = some (.int .i64 lk) := (hbu.cell (p := ⟨w.heap.size, 3, none⟩) swX).trans x3)
    have BU := Lib.hid (BX.out.trans (hbu.mono BX.out.size))
    have HBUX := Lib.hid hbu
    have BWU := Lib.hid (B0.out.trans (BU.out.mono B0.out.size))
    obtain ⟨e2, eb2, eoff2, he2, hA2, _, c0, c1, c2, c3⟩ := HEH.out.cells BWU.out hk
    cases hA2
    obtain rfl : e = e2 := by rw [HEN.out] at he2; exact Option.some.inj he2
    have hus := hbu.size
    have hwu : w.heap.size < U.heap.size := by omega
    have hebu : eb < U.heap.size := by omega
    rw [hs] at c1
    rw [ht'] at c2
    have HCU1 := Lib.hid (show Calls Tryd.prog 14 #[.agg #[.slice A n cap, .slice (some ⟨eb, eoff, none⟩) ents.length ecap, .int .i64 sh, .int .i64 lk]] U.drew fun e w' => ∃ v, e = .returned v ∧ ∃ y : Ext U, y.w = w' ∧ Inss y.w v n (fun i => (decI (cd i)).1) from (HCOD.out U.drew (Below.drew BU.out)).mono fun e w' ⟨⟨v, h1, h2, _⟩, h3⟩ => ⟨v, h1, ⟨w', (Below.drew (Below.refl _ _)).trans h3⟩, rfl, h2⟩)
    obtain ⟨Y0, hY0⟩ : ∃ Y0, (U.alloc (.cells #[.string ⟨#[]⟩, .int .i64 0, .int .i64 0, .int .i64 0] 39)).drew = Y0 := ⟨_, rfl⟩
    have bY0 : Below U.heap.size U Y0 := hY0 ▸ Below.drew ((Below.refl _ _).alloc (Nat.le_refl _) _)
    have kY0 : Y0.heap[U.heap.size]? = some (.cells #[.string ⟨#[]⟩, .int .i64 0, .int .i64 0, .int .i64 0] 39) := by rw [← hY0]; exact heap_alloc_new U _
    have sY0 : U.heap.size < Y0.heap.size := lt_of_blk kY0
    have HCU2 := Lib.hid (show Calls Tryd.prog 14 #[.agg #[.slice A n cap, .slice (some ⟨eb, eoff, none⟩) ents.length ecap, .int .i64 sh, .int .i64 lk]] (U.alloc (.cells #[.string ⟨#[]⟩, .int .i64 0, .int .i64 0, .int .i64 0] 39)).drew fun e w' => ∃ v, e = .returned v ∧ (Inss w' v n (fun i => (decI (cd i)).1) ∧ ∀ q, v.ownBlock = some q → some U.heap.size ≠ some q) ∧ Below U.heap.size U w' ∧ w'.heap[U.heap.size]? = some (.cells #[.string ⟨#[]⟩, .int .i64 0, .int .i64 0, .int .i64 0] 39) from by
      rw [hY0]
      refine (HCOD.out Y0 (BU.out.trans (bY0.mono BU.out.size))).mono fun e w' ⟨⟨v, h1, h2, h4⟩, h3⟩ => ⟨v, h1, ⟨h2, fun q hq e => by have := h4 q hq; simp at e; omega⟩, bY0.trans (h3.mono bY0.size), ?_⟩
      rw [h3.block _ sY0]
      exact kY0)
    clear hY0 bY0 kY0 sY0
    clear hbu x0 x1 x2 x3 he2
    go_cut [9, 10] from 64 to 70 (fun a9 a10 wx => ∃ bx, a10 = .pointer (some ⟨bx, 0, none⟩) ∧ bx < wx.heap.size ∧ wx.heap[bx]? = some (.cells #[.string e.nm, .int .i64 (s : Int), .int .i64 (t : Int), .int .i64 e.da] 39) ∧ Inss wx a9 n (fun i => (decI (cd i)).1) ∧ Below U.heap.size U wx)
    case first =>
      go_region_held3 (fun w' => (∀ b o, b < U.heap.size → w'.cell? ⟨b, o, none⟩ = U.cell? ⟨b, o, none⟩) ∧ Below U.heap.size U w') ((refine keepsW ?_; (repeat (first | (with_reducible assumption) | exact Below.refl _ _ | (with_reducible exact Ext.h _) | (with_reducible refine Below.drew ?_) | (with_reducible refine Below.alloc ?_ ?_ _) | (with_reducible refine Below.setCell ?_ ?_ _) | exact Nat.le_refl _ | exact (Ext.h _).size | (exact Below.size (by assumption)) | (simp; done) | (simp; omega)))))
        (first | (go_at_call 14; first | (refine HCU1.out.mono ?_; rintro e' w' ⟨v3, rfl, y3, rfl, h3⟩) | (go_loud (refine HCU2.out.mono ?_); go_loud (intro e' w' hh9); go_loud (obtain ⟨v3, he9, h3, hb9, hk9⟩ := hh9); go_loud (subst he9); go_loud (have p0 := (hb9.cell (p := ⟨w.heap.size, 0, none⟩) hwu).trans u0); go_loud (have p1 := (hb9.cell (p := ⟨w.heap.size, 1, none⟩) hwu).trans u1); go_loud (have p2 := (hb9.cell (p := ⟨w.heap.size, 2, none⟩) hwu).trans u2); go_loud (have p3 := (hb9.cell (p := ⟨w.heap.size, 3, none⟩) hwu).trans u3); go_loud (have m0 := (hb9.cell (p := ⟨eb, _, none⟩) hebu).trans c0); go_loud (have m1 := (hb9.cell (p := ⟨eb, _, none⟩) hebu).trans c1); go_loud (have m2 := (hb9.cell (p := ⟨eb, _, none⟩) hebu).trans c2); go_loud (have m3 := (hb9.cell (p := ⟨eb, _, none⟩) hebu).trans c3); go_loud (have hl9 : U.heap.size < w'.heap.size := lt_of_blk hk9); go_loud (have z0 : w'.cell? ⟨U.heap.size, 0, none⟩ = some (.string ⟨#[]⟩) := by simp [World.cell?, hk9]); go_loud (have z1 : w'.cell? ⟨U.heap.size, 1, none⟩ = some (.int .i64 0) := by simp [World.cell?, hk9]); go_loud (have z2 : w'.cell? ⟨U.heap.size, 2, none⟩ = some (.int .i64 0) := by simp [World.cell?, hk9]); go_loud (have z3 : w'.cell? ⟨U.heap.size, 3, none⟩ = some (.int .i64 0) := by simp [World.cell?, hk9]); go_loud (have f0 : w'.frozen? ⟨U.heap.size, 0, none⟩ = false := by simp [World.frozen?, hk9]); go_loud (have f1 : w'.frozen? ⟨U.heap.size, 1, none⟩ = false := by simp [World.frozen?, hk9]); go_loud (have f2 : w'.frozen? ⟨U.heap.size, 2, none⟩ = false := by simp [World.frozen?, hk9]); go_loud (have f3 : w'.frozen? ⟨U.heap.size, 3, none⟩ = false := by simp [World.frozen?, hk9]))))
      all_goals
        go_wp2_with fail
        go_meet
        case rel => first
          | exact ⟨_, rfl, by rw [World.size_alloc]; omega, heap_alloc_new _ _, h3.below ((Below.refl _ _).alloc (Nat.le_refl _) _), y3.h.alloc y3.h.size _⟩
          | exact ⟨_, rfl, by simpa using hl9, heap_setCell_same _ _ _ _ _ _ (heap_setCell_same _ _ _ _ _ _ (heap_setCell_same _ _ _ _ _ _ (heap_setCell_same _ _ _ _ _ _ hk9))), (((h3.1.grown (grown_setCell _ _ _ _) h3.2).grown (grown_setCell _ _ _ _) h3.2).grown (grown_setCell _ _ _ _) h3.2).grown (grown_setCell _ _ _ _) h3.2, Below.setCell (Below.setCell (Below.setCell (Below.setCell hb9 (Nat.le_refl _) _) (Nat.le_refl _) _) (Nat.le_refl _) _) (Nat.le_refl _) _⟩
    case rest =>
      obtain ⟨bx, rfl, hbx, kbx, hIn, hbc⟩ := hcut
      obtain ⟨IA, icap, rfl, hi1, hi2⟩ := hIn.slice
      have m1 : wc.cell? ⟨bx, 1, none⟩ = some (.int .i64 (s : Int)) := by simp [World.cell?, kbx]
      have m2 : wc.cell? ⟨bx, 2, none⟩ = some (.int .i64 (t : Int)) := by simp [World.cell?, kbx]
      have HIN := Lib.hid hIn
      have KBX := Lib.hid kbx
      have hbcs := hbc.size
      have BXC := Lib.hid (HBUX.out.trans (hbc.mono hus))
      have HLV := Lib.hid (show Calls Tryd.prog 15 #[.slice IA n icap, .int .i64 (s : Int), .int .i64 (t : Int)] wc fun e w' => (∃ r, e = .returned (.int .i64 r) ∧ LeaveIs (insAt cd) s t r) ∧ Below wc.heap.size wc w' from leave_any _ n _ (insAt cd) s t wc hIn hst htn (by omega) HIM.out HCI.out)
      clear kbx hIn hbc c0 c1 c2 c3 u0 u1 u2 u3 HCU1 HCU2 HCX HCOD
      go_upto_region 13 with (go_at_call 15; refine HLV.out.mono ?_; rintro e' W5 ⟨⟨r1, rfl, hlv⟩, hb5⟩)
      have HLI := Lib.hid hlv
      have B5 := Lib.hid (BXC.out.trans (hb5.mono (by have := BXC.out.size; omega)))
      have BW5 := Lib.hid (B0.out.trans ((BX.out.trans (B5.out.mono (by have := BX.out.size; omega))).mono B0.out.size))
      have n1 : W5.cell? ⟨bx, 1, none⟩ = some (.int .i64 (s : Int)) := by rw [hb5.cell (p := ⟨bx, 1, none⟩) hbx]; exact m1
      have n2 : W5.cell? ⟨bx, 2, none⟩ = some (.int .i64 (t : Int)) := by rw [hb5.cell (p := ⟨bx, 2, none⟩) hbx]; exact m2
      have hgX : gb < X.heap.size := sX
      have kg := (B5.out.block gb hgX).trans KX.out
      have v0 : W5.cell? ⟨gb, 0, none⟩ = some (.slice bA G.length bcap) := by simp [World.cell?, kg]
      have v1 : W5.cell? ⟨gb, 1, none⟩ = some (.slice pA P.length pcap) := by simp [World.cell?, kg]
      have hb5s := hb5.size
      have hbx5 : bx < W5.heap.size := by omega
      have hgb5 : gb < W5.heap.size := by have := B5.out.size; omega
      have HIN5 := Lib.hid (HIN.out.below hb5)
      clear hb5 hlv HLV m1 m2 kg HIN
      have hHR := HR.out
      rcases hHR with ⟨D, bad, h0, hR⟩ | ⟨D, hR⟩
      · have hr1 : r1 = at_ := HLI.out.bad hst h0 (by rw [← hs, ← ht']; exact hR)
        subst hr1
        have hz : zb = true := by rw [← HZB.out]; rfl
        subst hz
        have d : decide (0 ≤ r1) = true := decide_eq_true h0
        clear hR h0 v0 v1 n1 n2 HZ HR HZB
        go_wp2_with fail
        go_ret
        exact ⟨rfl, BW5.out⟩
      · have hr1 : r1 = -1 := HLI.out.ok hst (by rw [← hs, ← ht']; exact hR)
        subst hr1
        have hGe : gBlks (insAt cd) (blk (insAt cd) (s : Int) D (t - s)) = gBlks (insAt cd) (blk (insAt cd) e.st D (e.en - e.st).toNat) := by rw [hs, ht', show ((t : Int) - (s : Int)).toNat = t - s by omega]
        have hR' : RInv (insAt cd) (s : Int) (t : Int) D [] (-1) := by rw [← hs, ← ht']; exact hR
        obtain ⟨G, hG⟩ : ∃ G, gBlks (insAt cd) (blk (insAt cd) e.st D (e.en - e.st).toNat) = G := ⟨_, rfl⟩
        obtain ⟨P, hP⟩ : ∃ P, gPrev (insAt cd) (blk (insAt cd) e.st D (e.en - e.st).toNat) = P := ⟨_, rfl⟩
        rw [hG] at hGe HBX v0 HF KX
        rw [hP] at HPX v1 HF KX
        have HBLD := Lib.hid (show ∀ W, Below W5.heap.size W5 W → Calls Tryd.prog 17 #[.slice IA n icap, .int .i64 (s : Int), .int .i64 (t : Int)] W fun e w' => ∃ v, e = .returned v ∧ ∃ y : Ext W5, y.w = w' ∧ Blks y.w v G from fun W hW => (buildR_any _ n _ (insAt cd) s t D W (HIN5.out.below hW) hst htn (by omega) HIM.out HCI.out hR').mono fun e w' ⟨⟨v, h1, h2⟩, h3⟩ => ⟨v, h1, ⟨w', hW.trans (h3.mono hW.size)⟩, rfl, by rw [hGe] at h2; exact h2⟩)
        have HIS := Lib.hid (show ∀ (v : Value) (y : Ext W5), Blks y.w v G → Calls Tryd.prog 16 #[.agg #[.slice bA G.length bcap, .slice pA P.length pcap], v] y.w fun e w' => e = .returned (.bool true) ∧ ∃ y : Ext W5, y.w = w' from fun v y hv => (is_any _ _ v G P y.w ((HBX.out.below B5.out).below y.h) ((HPX.out.below B5.out).below y.h) hv HF.out.prev (by have h1 : G.length ≤ (e.en - e.st).toNat := HF.out.len; omega) (fun x hx => by have h2 : x.nx.length ≤ 2 := HF.out.nx x hx; omega) HF.out.inn).mono fun e w' ⟨h1, h3⟩ => ⟨h1, ⟨w', y.h.trans (h3.mono y.h.size)⟩, rfl⟩)
        have BW5' := Lib.hid (fun y : Ext W5 => Ext.below BW5.out BW5.out.size y)
        clear hGe hR hR' HZ HR HZB HBX HPX HF KX hG hP HIN5 B5 BXC HLI HIM HCI KBX BX BU BWU HBUX
        go_upto_region 15 with fail
        go_region_held3 (fun w' => (∀ b o, b < W5.heap.size → w'.cell? ⟨b, o, none⟩ = W5.cell? ⟨b, o, none⟩) ∧ Below W5.heap.size W5 w') ((refine keepsW ?_; first | exact Below.drew (Below.refl _ _) | exact Below.refl _ _ | exact Ext.h _))
          (first | (go_at_call 17; refine (HBLD.out _ (by first | exact Below.drew (Below.refl _ _) | exact Ext.h _)).mono ?_; rintro e' w' ⟨v3, rfl, y3, rfl, h3⟩) | (go_at_call 16; refine (HIS.out v3 y3 h3).mono ?_; rintro e' w' ⟨rfl, y4, rfl⟩))
        all_goals
          have HLB := Lib.hid (BW5'.out y4)
          clear h3 HBLD HIS v0 v1
          go_wp2_with fail
          go_ret
          exact ⟨rfl, HLB.out⟩

end Go.Proofs.YtfceodpdipniaaaDoor
