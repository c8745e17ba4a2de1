/-
  What is proved here: awake returns true.
-/
import Derived.Test.YtfceodpdipniaaaDoorCgBuild
import Derived.Test.YtfceodpdipniaaaDoorCgImg
namespace Go.Proofs.YtfceodpdipniaaaDoor
open Go.RowKit
set_option linter.unusedVariables false
set_option linter.unusedSimpArgs false

theorem own_words {w : World} {B : Nat} {v : Value} {ws : List Int} (h : w.ownsRow B 56 1 v ws.length (uvs ws)) (hl : ws.length ≤ 1000000) (hw : ∀ x ∈ ws, 0 ≤ x ∧ x < 4294967296) : Words w v ws.length (fun i => ws.getD i 0) := by
  refine ⟨hl, fun i hi => ?_, ?_⟩
  · have : ws.getD i 0 = ws[i] := by simp [List.getD, List.getElem?_eq_getElem hi]
    rw [this]
    exact hw _ (List.getElem_mem hi)
  · rcases h.2 with ⟨rfl, h0⟩ | ⟨g, cap, cur, rfl, _, hg, h1, h2, _, _⟩
    · rw [h0]
      exact ⟨none, 0, rfl, Nat.le_refl _, by unfold maxLen; omega, fun h => by omega⟩
    · refine ⟨_, cap, rfl, h1, h2, fun _ => ⟨g, 0, rfl, (Array.getElem?_eq_some_iff.1 hg).1, fun i hi => ?_⟩⟩
      rw [Nat.zero_add, h.cellAt i (by omega)]
      simp [uvs, List.getD, List.getElem?_eq_getElem hi]

theorem ldB_congr (c : Int → Ins) (st : Int) {D D' : List Int} (h : ∀ x, x ∈ D ↔ x ∈ D') (x : Int) : ldB c st D x = ldB c st D' x := by
  have : ldB c st D x = true ↔ ldB c st D' x = true := by
    rw [ldB_iff, ldB_iff]
    unfold Lead
    constructor
    · rintro (e | ⟨a, ha, hm⟩)
      · exact .inl e
      · exact .inr ⟨a, (h a).1 ha, hm⟩
    · rintro (e | ⟨a, ha, hm⟩)
      · exact .inl e
      · exact .inr ⟨a, (h a).2 ha, hm⟩
  cases h1 : ldB c st D x <;> cases h2 : ldB c st D' x <;> simp_all
theorem blk_congr (c : Int → Ins) (st : Int) {D D' : List Int} (h : ∀ x, x ∈ D ↔ x ∈ D') : ∀ m, blk c st D m = blk c st D' m
  | 0 => rfl
  | m + 1 => by
    unfold blk
    rw [blk_congr c st h m, ldB_congr c st h]
    simp only [h]

def awL : List Ins := [⟨22, 2, 0, 0, 1⟩, ⟨15, 3, 3, 0, 1⟩, ⟨1, 0, 0, 0, 0⟩]
def awC : List Int := awL.map fun i => (encI i).1
def awD (i : Nat) : Int := awC.getD i 0
theorem awC_w : ∀ x ∈ awC, 0 ≤ x ∧ x < 4294967296 := by decide +kernel
theorem aw0 : decI (awD 0) = (⟨22, 2, 0, 0, 1⟩, 0) := by decide +kernel
theorem aw1 : decI (awD 1) = (⟨15, 3, 3, 0, 1⟩, 0) := by decide +kernel
theorem aw2 : decI (awD 2) = (⟨1, 0, 0, 0, 0⟩, 0) := by decide +kernel
theorem awi0 : insAt awD 0 = ⟨22, 2, 0, 0, 1⟩ := by show (decI (awD 0)).1 = _; rw [aw0]
theorem awi1 : insAt awD 1 = ⟨15, 3, 3, 0, 1⟩ := by show (decI (awD 1)).1 = _; rw [aw1]
theorem awi2 : insAt awD 2 = ⟨1, 0, 0, 0, 0⟩ := by show (decI (awD 2)).1 = _; rw [aw2]
theorem aw_good : GoodI 3 awD [⟨taName, 0, 3, 0⟩] 0 0 := by
  refine ⟨by omega, by simp, by omega, by omega, by simp, fun e he => ?_, ⟨rfl, by simp, rfl⟩, fun e he k h1 h2 => ?_⟩
  · simp at he; subst he
    show 1 ≤ taName.size ∧ taName.size ≤ 12
    decide
  · simp at he; subst he
    simp only at h1 h2
    obtain rfl | rfl | rfl : k = 0 ∨ k = 1 ∨ k = 2 := by omega
    · refine ⟨by show (decI (awD 0)).2 = 0; rw [aw0], fun _ => ?_, fun h => ?_⟩
      · show (0 : Int) ≤ 0 + 1 + (insAt awD 0).imm ∧ 0 + 1 + (insAt awD 0).imm < 3
        rw [awi0]; decide
      · have : (insAt awD 0).op = 28 ∨ (insAt awD 0).op = 29 := h
        rw [awi0] at this; simp at this
    · refine ⟨by show (decI (awD 1)).2 = 0; rw [aw1], fun h => ?_, fun h => ?_⟩
      · have : isBr (insAt awD 1).op = true := h
        rw [awi1] at this; simp [isBr] at this
      · have : (insAt awD 1).op = 28 ∨ (insAt awD 1).op = 29 := h
        rw [awi1] at this; simp at this
    · refine ⟨by show (decI (awD 2)).2 = 0; rw [aw2], fun h => ?_, fun h => ?_⟩
      · have : isBr (insAt awD 2).op = true := h
        rw [awi2] at this; simp [isBr] at this
      · have : (insAt awD 2).op = 28 ∨ (insAt awD 2).op = 29 := h
        rw [awi2] at this; simp at this
theorem aw_s0 : succI (insAt awD 0) 0 = [1, 2] := by rw [awi0]; decide
theorem aw_s1 : succI (insAt awD 1) 1 = [2] := by rw [awi1]; decide
theorem aw_s2 : succI (insAt awD 2) 2 = [] := by rw [awi2]; decide
theorem aw_rch (x : Int) : Rch (insAt awD) 0 3 x ↔ x ∈ [(0 : Int), 1, 2] := by
  constructor
  · intro h
    have := h.range _ _ _ (by omega)
    simp; omega
  · intro h
    have r0 : Rch (insAt awD) 0 3 0 := Rch.start
    have r1 : Rch (insAt awD) 0 3 1 := Rch.step r0 (by rw [aw_s0]; simp) (by omega) (by omega)
    have r2 : Rch (insAt awD) 0 3 2 := Rch.step r0 (by rw [aw_s0]; simp) (by omega) (by omega)
    simp at h
    rcases h with rfl | rfl | rfl
    · exact r0
    · exact r1
    · exact r2
theorem aw_bads (x : Int) (h : x ∈ [(0 : Int), 1, 2]) : ¬ Bads (insAt awD) 0 3 x := by
  rintro ⟨t, ht, hn⟩
  simp at h
  rcases h with rfl | rfl | rfl
  · rw [aw_s0] at ht; simp at ht; omega
  · rw [aw_s1] at ht; simp at ht; omega
  · rw [aw_s2] at ht; simp at ht
def awB : List (Int × Int) := [(0, 1), (1, 2), (2, 3)]
theorem aw_blk : blk (insAt awD) 0 [0, 1, 2] 3 = awB := by decide +kernel
theorem aw_gb : gBlks (insAt awD) awB = [⟨0, 1, [1, 2]⟩, ⟨1, 2, [2]⟩, ⟨2, 3, []⟩] := by decide +kernel
theorem aw_gp : gPrev (insAt awD) awB = [[], [0], [0, 1]] := by decide +kernel
theorem aw_valid : ValidG [⟨0, 1, [1, 2]⟩, ⟨1, 2, [2]⟩, ⟨2, 3, []⟩] [[], [0], [0, 1]] := by
  refine ⟨by simp, rfl, ⟨3, ⟨by simp, by simp, by simp, by simp, by simp⟩, ⟨by simp, by simp, by simp, by simp, by simp⟩, ⟨by simp, by simp, by simp, by simp, by simp⟩, rfl⟩, by decide⟩

/-- Build at the example. -/
theorem aw_build (cv ev : Value) (w : World) (T : Tab w) (HW : Words w cv 3 awD) (HE : Ents w ev [⟨taName, 0, 3, 0⟩]) :
    Calls Tryd.prog 12 #[.agg #[cv, ev, .int .i64 0, .int .i64 0], .int .i64 0] w fun e w' => (∃ bv pv, e = .returned (.tuple #[.agg #[bv, pv], .int .i64 (-1), .int .i64 0]) ∧ Blks w' bv [⟨0, 1, [1, 2]⟩, ⟨1, 2, [2]⟩, ⟨2, 3, []⟩] ∧ Lls w' pv [[], [0], [0, 1]]) ∧ Below w.heap.size w w' := by
  refine (build_any cv ev 0 0 3 awD [⟨taName, 0, 3, 0⟩] 0 w T HW HE).mono ?_
  intro e w' h
  rcases h with ⟨h, _⟩ | ⟨_, h, _⟩ | ⟨_, k, en, D, bad, hk, he, hb, hR, _⟩ | ⟨_, k, en, D, L, bv, pv, hk, he, hR, hL, h1, h2, h3, h4⟩
  · exact absurd aw_good h
  · simp at h
  · obtain rfl : k = 0 := by omega
    simp at he
    subst he
    rcases hR.b with h | h
    · omega
    · exact absurd h.2.1 (aw_bads _ ((aw_rch _).1 (hR.dr _ h.1)))
  · obtain rfl : k = 0 := by omega
    simp at he
    subst he
    have hm : ∀ x, x ∈ D ↔ x ∈ [(0 : Int), 1, 2] := fun x => (hR.mem (by simp) x).trans (aw_rch x)
    simp only [Int.sub_zero, show (3 : Int).toNat = 3 from rfl] at hL
    rw [blk_congr _ _ hm, aw_blk] at hL
    subst hL
    rw [aw_gb] at h2
    rw [aw_gp] at h3
    exact ⟨⟨bv, pv, h1, h2, h3⟩, h4⟩

theorem aw_cells {w : World} {bv pv : Value} (hG : Blks w bv [⟨0, 1, [1, 2]⟩, ⟨1, 2, [2]⟩, ⟨2, 3, []⟩]) (hP : Lls w pv [[], [0], [0, 1]]) :
    ∃ b off cap nb noff ncap pb poff pcap qA qcap, bv = .slice (some ⟨b, off, none⟩) 3 cap ∧ pv = .slice (some ⟨pb, poff, none⟩) 3 pcap ∧ 3 ≤ cap ∧ 3 ≤ pcap ∧ b < w.heap.size ∧ pb < w.heap.size ∧ nb < w.heap.size ∧ 2 ≤ ncap ∧
      w.cell? ⟨b, off + 2, none⟩ = some (.slice (some ⟨nb, noff, none⟩) 2 ncap) ∧ w.cell? ⟨nb, noff, none⟩ = some (.int .i64 1) ∧ w.cell? ⟨nb, noff + 1, none⟩ = some (.int .i64 2) ∧ w.cell? ⟨pb, poff + 2, none⟩ = some (.slice qA 2 qcap) := by
  obtain ⟨A, cap, rfl, h1, h2, h3⟩ := hG
  obtain ⟨PA, pcap, rfl, k1, k2, k3⟩ := hP
  obtain ⟨b, off, rfl, hb, hc⟩ := h3 (by simp)
  obtain ⟨pb, poff, rfl, hpb, hpc⟩ := k3 (by simp)
  obtain ⟨_, _, nv, c2, nA, ncap, rfl, n1, n2, n3⟩ := hc 0 _ rfl
  obtain ⟨nb, noff, rfl, hnb, hnc⟩ := n3 (by simp)
  obtain ⟨pn, p2, qA, qcap, rfl, _, _, _⟩ := hpc 2 _ rfl
  have e0 := hnc 0 (by simp)
  have e1 := hnc 1 (by simp)
  exact ⟨b, off, cap, nb, noff, ncap, pb, poff, pcap, qA, qcap, rfl, rfl, h1, k1, hb, hpb, hnb, n1, by simpa using c2, by simpa using e0, by simpa using e1, p2⟩

set_option maxHeartbeats 2000000 in
set_option maxRecDepth 20000 in
theorem awake_any (w : World) (T : Tab w) : Calls Tryd.prog 10 #[] w fun e w' => e = .returned (.bool true) ∧ Below w.heap.size w w' := by
  obtain ⟨V, hV⟩ : ∃ V, w.alloc (.cells #[.int .u8 22, .int .i64 2, .int .i64 0, .int .i64 0, .int .i64 1, .int .u8 15, .int .i64 3, .int .i64 3, .int .i64 0, .int .i64 1, .int .u8 1, .int .i64 0, .int .i64 0, .int .i64 0, .int .i64 0] 53) = V := ⟨_, rfl⟩
  have bV : Below w.heap.size w V := hV ▸ (Below.refl _ _).alloc (Nat.le_refl _) _
  have kV : V.heap[w.heap.size]? = some (.cells #[.int .u8 22, .int .i64 2, .int .i64 0, .int .i64 0, .int .i64 1, .int .u8 15, .int .i64 3, .int .i64 3, .int .i64 0, .int .i64 1, .int .u8 1, .int .i64 0, .int .i64 0, .int .i64 0, .int .i64 0] 53) := hV ▸ heap_alloc_new _ _
  have sV : w.heap.size < V.heap.size := by rw [← hV]; simp
  have HIL : InsL V (.slice (some ⟨w.heap.size, 0, none⟩) 3 3) awL := by
    refine ⟨_, 3, rfl, Nat.le_refl _, by unfold maxLen; omega, fun _ => ⟨_, 0, rfl, sV, fun i x hx => ?_⟩⟩
    have hi : i < 3 := by
      have := (List.getElem?_eq_some_iff.1 hx).1
      simpa [awL] using this
    obtain rfl | rfl | rfl : i = 0 ∨ i = 1 ∨ i = 2 := by omega
    all_goals
      simp [awL] at hx
      subst hx
      simp [World.cell?, kV]
  have HIM := Lib.hid (image_any (.slice (some ⟨w.heap.size, 0, none⟩) 3 3) awL V (T.below bV) HIL (by simp [awL]) (by decide))
  have BV := Lib.hid bV
  have HT := Lib.hid T
  clear HIL bV kV T
  go_enter Tryd.func10, Tryd.ntmps10
  go_upto_region 2 with (first | (go_at_call 35; refine HIM.out.mono ?_; rintro e W1 ⟨⟨cv, ev, cA, ccap, rfl, rfl, hrow, hent⟩, hb1⟩) | (go_at_call 12; refine (aw_build _ _ W1 (HT.out.below (BV.out.trans (hb1.mono (by have := BV.out.size; omega)))) (own_words (ws := awC) hrow (by decide) awC_w) hent).mono ?_; rintro e W2 ⟨⟨bv, pv, rfl, hG, hP⟩, hb2⟩; obtain ⟨b, off, cap, nb, noff, ncap, pb, poff, pcap, qA, qcap, rfl, rfl, a1, a2, a3, a4, a5, a6, x1, x2, x3, x4⟩ := aw_cells hG hP))
  obtain ⟨X, hX⟩ : ∃ X, W2.alloc (.cells #[.slice (some ⟨b, off, none⟩) 3 cap, .slice (some ⟨pb, poff, none⟩) 3 pcap] 31) = X := ⟨_, rfl⟩
  have bX : Below W2.heap.size W2 X := hX ▸ (Below.refl _ _).alloc (Nat.le_refl _) _
  have kX : X.heap[W2.heap.size]? = some (.cells #[.slice (some ⟨b, off, none⟩) 3 cap, .slice (some ⟨pb, poff, none⟩) 3 pcap] 31) := hX ▸ heap_alloc_new _ _
  rw [hX]
  have z0 : X.cell? ⟨W2.heap.size, 0, none⟩ = some (.slice (some ⟨b, off, none⟩) 3 cap) := by simp [World.cell?, kX]
  have z1 : X.cell? ⟨W2.heap.size, 1, none⟩ = some (.slice (some ⟨pb, poff, none⟩) 3 pcap) := by simp [World.cell?, kX]
  have y1 : X.cell? ⟨b, off + 2, none⟩ = _ := (bX.cell (p := ⟨b, off + 2, none⟩) a3).trans x1
  have y2 : X.cell? ⟨nb, noff, none⟩ = _ := (bX.cell (p := ⟨nb, noff, none⟩) a5).trans x2
  have y3 : X.cell? ⟨nb, noff + 1, none⟩ = _ := (bX.cell (p := ⟨nb, noff + 1, none⟩) a5).trans x3
  have y4 : X.cell? ⟨pb, poff + 2, none⟩ = _ := (bX.cell (p := ⟨pb, poff + 2, none⟩) a4).trans x4
  have HVA := Lib.hid (valid_any' _ _ _ _ X (hG.below bX) (hP.below bX) (by simp) (by simp))
  have HB := Lib.hid (BV.out.trans ((hb1.mono (by omega)).trans ((hb2.mono (by have := hb1.size; omega)).trans (bX.mono (by have := hb1.size; have := hb2.size; omega)))))
  have sX : w.heap.size ≤ X.heap.size := HB.out.size
  clear hX bX kX x1 x2 x3 x4 hG hP hb1 hb2 hrow hent hV HIM
  go_wp2_with (go_at_call 19; refine HVA.out.mono ?_; rintro e W5 ⟨⟨r, rfl, hr⟩, hb5⟩)
  all_goals
    go_ret
    refine ⟨ret_bool ?_, HB.out.trans (hb5.mono sX)⟩
    exact hr.2 aw_valid

end Go.Proofs.YtfceodpdipniaaaDoor
