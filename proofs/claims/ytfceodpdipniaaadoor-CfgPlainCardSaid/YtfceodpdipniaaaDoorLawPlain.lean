/-
  What is proved here: CfgPlain returns true for every image and number, and changes nothing of its input.
-/
import Derived.Test.YtfceodpdipniaaaDoorCgPlainR
import Derived.Test.YtfceodpdipniaaaDoorCgEdges
import Derived.Test.YtfceodpdipniaaaDoorCgOpen2
import Derived.Deep.RegionWith
import Derived.Deep.RegionHeld3
namespace Go.Proofs.YtfceodpdipniaaaDoor
open Go.RowKit
set_option linter.unusedVariables false
set_option linter.unusedSimpArgs false

set_option maxHeartbeats 4000000 in
set_option maxRecDepth 20000 in
theorem plain_any (cv ev : Value) (sh lk : Int) (n : Nat) (cd : Nat → Int) (ents : List Ent) (at_ : Int) (ha0 : 0 ≤ at_) (ha1 : at_ < 65536) (w : World) (T : Tab w) (HW : WordsN w cv n cd) (HE : Ents w ev ents) :
    Calls Tryd.prog 7 #[.agg #[cv, ev, .int .i64 sh, .int .i64 lk], .int .u16 at_] w fun e w' => e = .returned (.bool true) ∧ Below w.heap.size w w' := by
  obtain ⟨A, cap, hcv, hc1, hc2, -⟩ := HW.at_
  obtain ⟨EA, ecap, hev, he1, he2, -⟩ := HE.at_
  have h63 : ents.length ≤ 2 ^ 63 - 1 := by unfold maxLen at he2; omega
  have HWH := Lib.hid HW
  have HEH := Lib.hid HE
  have HT := Lib.hid T
  clear HW HE T
  subst hcv hev
  obtain ⟨V0, hV0⟩ : ∃ V0, w.alloc (.cells #[.slice A n cap, .slice EA ents.length ecap, .int .i64 sh, .int .i64 lk] 25) = V0 := ⟨_, rfl⟩
  have b0 : Below w.heap.size w V0 := hV0 ▸ (Below.refl _ _).alloc (Nat.le_refl _) _
  have s0 : w.heap.size < V0.heap.size := by rw [← hV0]; simp
  have k0 : V0.heap[w.heap.size]? = some (.cells #[.slice A n cap, .slice EA ents.length ecap, .int .i64 sh, .int .i64 lk] 25) := by rw [← hV0]; exact heap_alloc_new _ _
  have y0 : V0.cell? ⟨w.heap.size, 0, none⟩ = some (.slice A n cap) := by simp [World.cell?, k0]
  have y1 : V0.cell? ⟨w.heap.size, 1, none⟩ = some (.slice EA ents.length ecap) := by simp [World.cell?, k0]
  have y2 : V0.cell? ⟨w.heap.size, 2, none⟩ = some (.int .i64 sh) := by simp [World.cell?, k0]
  have y3 : V0.cell? ⟨w.heap.size, 3, none⟩ = some (.int .i64 lk) := by simp [World.cell?, k0]
  have B0 := Lib.hid b0
  have HAW := Lib.hid (Calls.ext (awake_any V0 (HT.out.below b0)))
  clear k0 b0
  go_enter Tryd.func7, Tryd.ntmps7
  go_upto_region 1 with fail
  clear hV0
  have HGR := Lib.hid (show ∀ y : Ext V0, Calls Tryd.prog 11 #[.agg #[.slice A n cap, .slice EA ents.length ecap, .int .i64 sh, .int .i64 lk]] y.w fun e w' => e = .returned (.int .i64 (greatI n ents)) ∧ ∃ z : Ext V0, z.w = w' from fun y => (great_any _ _ sh lk n cd ents y.w (HWH.out.belowV (Ext.below B0.out B0.out.size y)) (HEH.out.below (Ext.below B0.out B0.out.size y))).mono fun e w' ⟨h1, h2⟩ => ⟨h1, ⟨w', y.h.trans (h2.mono y.h.size)⟩, rfl⟩)
  by_cases hgt : 300 < n ∨ 4 < ents.length
  case pos =>
    have hg1 : greatI n ents = 1 := by unfold greatI; rw [if_pos hgt]
    rw [hg1] at HGR
    clear hgt hg1
    go_wp2_with (first | (go_at_call 10; refine HAW.out.mono ?_; rintro e w' ⟨rfl, y, rfl⟩) | (go_at_call 11; refine (HGR.out _).mono ?_; rintro e w' ⟨rfl, z, rfl⟩))
    go_ret
    exact ⟨rfl, Ext.below B0.out B0.out.size z⟩
  have hg0 : greatI n ents = 0 := by unfold greatI; rw [if_neg hgt]
  rw [hg0] at HGR
  have hn3 : n ≤ 300 := by omega
  clear hgt hg0
  by_cases hel : ents.length = 1
  case neg =>
    have dl : ((ents.length : Int) != 1) = true := by simp; omega
    have dln : (ents.length != 1) = true := by simp; omega
    clear hel
    go_wp2_with (first | (go_at_call 10; refine HAW.out.mono ?_; rintro e w' ⟨rfl, y, rfl⟩) | (go_at_call 11; refine (HGR.out _).mono ?_; rintro e w' ⟨rfl, z, rfl⟩))
    go_ret
    exact ⟨rfl, Ext.below B0.out B0.out.size z⟩
  obtain ⟨e, hse⟩ := list_one hel
  have HSE := Lib.hid hse
  have he0 : ents[0]? = some e := by rw [hse]; rfl
  have HEN := Lib.hid he0
  have dl : ((ents.length : Int) != 1) = false := by simp; omega
  have dln : (ents.length != 1) = false := by simp; omega
  have d0 : decide ((ents.length : Int) ≤ 0) = false := decide_eq_false (by omega)
  have HEL := Lib.hid hel
  have HBUA := Lib.hid (show ∀ W, Below V0.heap.size V0 W → _ from fun W hW => build_any (.slice A n cap) (.slice EA ents.length ecap) sh lk n cd ents 0 W (HT.out.below (B0.out.trans (hW.mono B0.out.size))) ((HWH.out.belowV (B0.out.trans (hW.mono B0.out.size))).words (by omega)) (HEH.out.below (B0.out.trans (hW.mono B0.out.size))))
  clear hel hse he0
  by_cases hg : GoodI n cd ents sh lk
  case neg =>
    have HBU := Lib.hid (show ∀ W, Below V0.heap.size V0 W → Calls Tryd.prog 12 #[.agg #[.slice A n cap, .slice EA ents.length ecap, .int .i64 sh, .int .i64 lk], .int .i64 0] W fun e w' => e = .returned (.tuple #[.agg #[.slice none 0 0, .slice none 0 0], .int .i64 (-1), .int .i64 3]) ∧ Below V0.heap.size V0 w' from fun W hW => (HBUA.out W hW).mono fun e w' h => by
      rcases h with ⟨_, h1, h2⟩ | ⟨h, _⟩ | ⟨h, _⟩ | ⟨h, _⟩
      · exact ⟨h1, hW.trans (h2.mono hW.size)⟩
      · exact absurd h hg
      · exact absurd h hg
      · exact absurd h hg)
    clear HBUA hg
    go_upto_region 5 with (first | (go_at_call 10; refine HAW.out.mono ?_; rintro e w' ⟨rfl, y, rfl⟩) | (go_at_call 11; refine (HGR.out _).mono ?_; rintro e w' ⟨rfl, z, rfl⟩))
    go_upto_region 6 with (go_at_call 12; refine (HBU.out z.w z.h).mono ?_; rintro e' W3 ⟨rfl, hb3⟩)
    go_wp2_with fail
    go_ret
    exact ⟨rfl, (B0.out.trans (hb3.mono B0.out.size)).alloc (by have := hb3.size; have := B0.out.size; omega) _⟩
  have HGd := Lib.hid hg
  have hch := hg.ch
  rw [HSE.out] at hch
  obtain ⟨g1, g2, g3⟩ := hch
  have g3' : e.en = (n : Int) := g3
  clear HBUA hg
  have HBU := Lib.hid (show ∀ W, Below V0.heap.size V0 W → _ from fun W hW => build_out (.slice A n cap) (.slice EA ents.length ecap) sh lk n cd ents 0 e W (HT.out.below (B0.out.trans (hW.mono B0.out.size))) ((HWH.out.belowV (B0.out.trans (hW.mono B0.out.size))).words (by omega)) (HEH.out.below (B0.out.trans (hW.mono B0.out.size))) HGd.out HEN.out)
  go_upto_region 5 with (first | (go_at_call 10; refine HAW.out.mono ?_; rintro e w' ⟨rfl, y, rfl⟩) | (go_at_call 11; refine (HGR.out _).mono ?_; rintro e w' ⟨rfl, z, rfl⟩))
  go_upto_region 6 with (go_at_call 12; refine (HBU.out z.w z.h).mono ?_; rintro e' W3 ⟨r, bv, pv, hr, rfl, hB, hP, hb3'⟩; obtain ⟨bA, bcap, rfl, gg1, gg2⟩ := hB.slice; obtain ⟨pA, pcap, rfl, pp1, pp2⟩ := hP.slice)
  have hb3 : Below V0.heap.size V0 W3 := z.h.trans (hb3'.mono z.h.size)
  have HF := Lib.hid (hr.fine (by omega) g2)
  obtain ⟨gb, hgb⟩ : ∃ gb, W3.heap.size = gb := ⟨_, rfl⟩
  obtain ⟨X, hX⟩ : ∃ X, W3.alloc (.cells #[.slice bA r.G.length bcap, .slice pA r.P.length pcap] 31) = X := ⟨_, rfl⟩
  have bX : Below W3.heap.size W3 X := hX ▸ (Below.refl _ _).alloc (Nat.le_refl _) _
  have kX : X.heap[W3.heap.size]? = some (.cells #[.slice bA r.G.length bcap, .slice pA r.P.length pcap] 31) := hX ▸ heap_alloc_new _ _
  have sX : W3.heap.size < X.heap.size := by rw [← hX]; simp
  have HBX := Lib.hid (hB.below bX)
  have HPX := Lib.hid (hP.below bX)
  have BX := Lib.hid (hb3.trans (bX.mono hb3.size))
  have KX := Lib.hid kX
  have swX : w.heap.size < X.heap.size := by have := BX.out.size; omega
  have HX := Lib.hid (show X.cell? ⟨w.heap.size, 0, none⟩ = some (.slice A n cap) ∧ X.cell? ⟨w.heap.size, 1, none⟩ = some (.slice EA ents.length ecap) ∧ X.cell? ⟨w.heap.size, 2, none⟩ = some (.int .i64 sh) ∧ X.cell? ⟨w.heap.size, 3, none⟩ = some (.int .i64 lk) from
    ⟨by rw [BX.out.cell (p := ⟨w.heap.size, 0, none⟩) s0]; exact y0, by rw [BX.out.cell (p := ⟨w.heap.size, 1, none⟩) s0]; exact y1, by rw [BX.out.cell (p := ⟨w.heap.size, 2, none⟩) s0]; exact y2, by rw [BX.out.cell (p := ⟨w.heap.size, 3, none⟩) s0]; exact y3⟩)
  rw [hX]
  rw [hgb] at KX sX ⊢
  have BWX := Lib.hid (B0.out.trans (BX.out.mono B0.out.size))
  clear hX bX kX hB hP hb3' hb3 hgb HAW HGR HBU y0 y1 y2 y3 z
  rcases hr with ⟨D, bad, hbad, hR⟩ | ⟨D, hR⟩
  · go_wp2_with fail
    go_ret
    exact ⟨rfl, BWX.out⟩
  have hstD : e.st ∈ D := by rcases hR.s with h | h; exact h; cases h
  have GI := Lib.hid (GInv.of (by omega) g2 hR)
  have hG0 : 0 < (gBlks (insAt cd) (blk (insAt cd) e.st D (e.en - e.st).toNat)).length := by
    rw [gBlks_len]
    exact List.length_pos_iff.2 ((blk_inv (insAt cd) e.st D _).ne hstD (by omega))
  obtain ⟨L, hL⟩ : ∃ L, blk (insAt cd) e.st D (e.en - e.st).toNat = L := ⟨_, rfl⟩
  rw [hL] at HBX HPX HF KX hG0 GI ⊢
  have hGl := gBlks_len (insAt cd) L
  obtain ⟨P, hP⟩ : ∃ P, gPrev (insAt cd) L = P := ⟨_, rfl⟩
  rw [hP] at HPX HF KX ⊢
  simp only at HBX HPX HF KX ⊢
  rw [hGl] at hG0 KX ⊢
  obtain ⟨j, hj⟩ : ∃ j : Nat, at_ % (L.length : Int) = (j : Int) := ⟨(at_ % (L.length : Int)).toNat, by have := Int.emod_nonneg at_ (show (L.length : Int) ≠ 0 by omega); omega⟩
  have hjl : j < L.length := by have := Int.emod_lt_of_pos at_ (show 0 < (L.length : Int) by omega); omega
  have hll : L.length ≤ 300 := by rw [← hL]; have := blk_len (insAt cd) e.st D (e.en - e.st).toNat; omega
  have q0 : X.cell? ⟨gb, 0, none⟩ = some (.slice bA L.length bcap) := by simp [World.cell?, KX.out]
  go_upto_region 8 with fail
  obtain ⟨x, nv, bb, boff, hx, hbA, hbl, c0, c1, c2, hIx⟩ := (show Blks X (.slice bA (gBlks (insAt cd) L).length bcap) (gBlks (insAt cd) L) from HBX.out).at_ (Below.refl _ _) (j := j) (by rw [hGl]; exact hjl)
  subst hbA
  obtain ⟨NA, ncap, rfl, hn1, hn2⟩ := hIx.slice
  have hxe : x = ⟨(L[j]).1, (L[j]).2, nextOf (insAt cd) L j⟩ := by rw [gBlks_at _ _ hjl] at hx; exact (Option.some.inj hx).symm
  have hm := GI.out.b.lo _ (List.getElem_mem hjl)
  have HXE := Lib.hid hxe
  have hlo : x.lo = (L[j]).1 := by rw [hxe]
  have hhi : x.hi = (L[j]).2 := by rw [hxe]
  obtain ⟨lo, hlo'⟩ : ∃ lo, x.lo = lo := ⟨_, rfl⟩
  obtain ⟨hh, hhi'⟩ : ∃ hh, x.hi = hh := ⟨_, rfl⟩
  rw [hlo'] at c0 hlo
  rw [hhi'] at c1 hhi
  have HLO := Lib.hid hlo
  have HHI := Lib.hid hhi
  have hmr : 0 ≤ lo ∧ lo < hh ∧ hh ≤ 300 := by omega
  have rj1 : at_.tmod (L.length : Int) = (j : Int) := by rw [Int.tmod_eq_emod_of_nonneg ha0]; exact hj
  have wj : IntKind.i64.wrap (j : Int) = (j : Int) := IntWalk.i64_in _ (by omega)
  have wj2 : wrap64 (j : Int) = (j : Int) := IntWalk.wrap64_in _ (by omega)
  have wat : wrap64 at_ = at_ := IntWalk.wrap64_in _ (by omega)
  have dj1 : decide ((j : Int) < 0) = false := decide_eq_false (Int.not_lt.2 (Int.natCast_nonneg j))
  have HJL := Lib.hid hjl
  have hjl' := hjl
  have hG0' := hG0
  obtain ⟨ln, hln⟩ : ∃ ln : Nat, L.length = ln := ⟨_, rfl⟩
  rw [hln] at rj1 q0 KX hj hjl' hG0' ⊢
  have dj2 : decide ((ln : Int) ≤ (j : Int)) = false := decide_eq_false (Int.not_le.2 (Int.ofNat_lt.2 hjl'))
  have dj3 : decide (ln ≤ j) = false := decide_eq_false (Nat.not_le.2 hjl')
  have dL0 : ((ln : Int) == 0) = false := beq_eq_false_iff_ne.2 (Int.ne_of_gt (Int.ofNat_lt.2 hG0'))
  have hLz : ¬ (ln : Int) = 0 := Int.ne_of_gt (Int.ofNat_lt.2 hG0')
  have hLz2 : ¬ ln = 0 := Nat.ne_of_gt hG0'
  have hjz : (0 : Int) ≤ (j : Int) := Int.natCast_nonneg j
  have hjz2 : (j : Int) < (ln : Int) := Int.ofNat_lt.2 hjl'
  have hp1 : ¬ (ln ≤ j) := Nat.not_le.2 hjl'
  have hp2 : ¬ ((ln : Int) ≤ (j : Int)) := Int.not_le.2 (Int.ofNat_lt.2 hjl')
  have hp3 : ¬ ((j : Int) < 0) := Int.not_lt.2 (Int.natCast_nonneg j)
  have HLN := Lib.hid hln
  clear hln hG0 hll
  have HE1 := Lib.hid g1
  have HE2 := Lib.hid g3'
  have HLL := Lib.hid hL
  have HGL := Lib.hid hGl
  have HIX := Lib.hid hIx
  clear hx hIx hxe hlo' hhi' hlo hhi hm g1 g2 g3 g3' hL hGl hP hstD hR
  go_cut [8] from 41 to 50 (fun a8 wx => ∃ bx, a8 = .pointer (some ⟨bx, 0, none⟩) ∧ bx < wx.heap.size ∧ wx.heap[bx]? = some (.cells #[.int .i64 lo, .int .i64 hh, .slice NA x.nx.length ncap] 51) ∧ Below X.heap.size X wx)
  case first =>
    go_region
    all_goals
      go_wp2_with fail
      go_meet
      case rel => exact ⟨_, rfl, by simp, by first | exact heap_alloc_new _ _ | (rw [World.drew]; exact heap_alloc_new _ _), (Below.drew (Below.refl _ _)).alloc (by simp) _⟩
  case rest =>
    obtain ⟨bx, rfl, hbx, kbx, hbc⟩ := hcut
    obtain ⟨W1, hW1⟩ : ∃ W1 : World, W1 = wc := ⟨_, rfl⟩
    subst hW1
    have BC := Lib.hid hbc
    have KB := Lib.hid kbx
    have b0' : W1.cell? ⟨bx, 0, none⟩ = some (.int .i64 lo) := by simp [World.cell?, kbx]
    have b1' : W1.cell? ⟨bx, 1, none⟩ = some (.int .i64 hh) := by simp [World.cell?, kbx]
    have wsub : IntKind.i64.wrap (hh - lo) = hh - lo := IntWalk.i64_in _ ⟨by have := hmr.1; have := hmr.2.1; omega, by have := hmr.1; have := hmr.2.2; omega⟩
    have HMR := Lib.hid hmr
    clear hbc kbx rj1 hj wj wj2 wat dj1 dj2 dj3 dL0 hLz hLz2 hjz hjz2 hp1 hp2 hp3 c0 c1 c2 q0 hjl' hG0'
    by_cases h2 : hh - lo < 2
    · have d : decide (hh - lo < 2) = true := decide_eq_true h2
      clear h2 hmr
      go_wp2_with fail
      go_ret
      exact ⟨rfl, BWX.out.trans (BC.out.mono (Nat.le_of_lt (Nat.lt_of_le_of_lt (Nat.le_refl _) swX)))⟩
    have d : decide (hh - lo < 2) = false := decide_eq_false h2
    have hd1 : 0 < hh - lo - 1 := by omega
    obtain ⟨kk, hkk⟩ : ∃ kk : Int, at_ % (hh - lo - 1) = kk := ⟨_, rfl⟩
    have hkr : 0 ≤ kk ∧ kk < hh - lo - 1 := by rw [← hkk]; exact ⟨Int.emod_nonneg _ (by omega), Int.emod_lt_of_pos _ hd1⟩
    obtain ⟨kn, hkn⟩ : ∃ kn : Nat, lo + 1 + kk = (kn : Int) := ⟨(lo + 1 + kk).toNat, by have := hmr.1; omega⟩
    have HKN := Lib.hid (show lo < (kn : Int) ∧ (kn : Int) < hh by omega)
    have w59 : IntKind.i64.wrap (lo + 1) = lo + 1 := IntWalk.i64_in _ (by have := hmr.1; have := hmr.2; omega)
    have w67 : IntKind.i64.wrap (hh - lo - 1) = hh - lo - 1 := IntWalk.i64_in _ (by have := hmr.1; have := hmr.2; omega)
    have w69 : IntKind.i64.wrap (lo + 1 + kk) = (kn : Int) := by rw [IntWalk.i64_in _ (by have := hmr.1; have := hmr.2; omega)]; exact hkn
    have wkk : IntKind.i64.wrap kk = kk := IntWalk.i64_in _ (by have := hmr.1; have := hmr.2; omega)
    have wkk2 : wrap64 kk = kk := IntWalk.wrap64_in _ (by have := hmr.1; have := hmr.2; omega)
    have wat : wrap64 at_ = at_ := IntWalk.wrap64_in _ (by omega)
    have hdz : ¬ (hh - lo - 1 = 0) := by omega
    have rk1 : at_.tmod (hh - lo - 1) = kk := by rw [Int.tmod_eq_emod_of_nonneg ha0]; exact hkk
    clear h2 hmr hkr hd1 hkn
    go_upto_region 11 with fail
    go_cut [9] from 57 to 69 (fun a9 wx => a9 = .int .i64 (kn : Int) ∧ Below W1.heap.size W1 wx)
    case first =>
      go_region
      all_goals
        go_wp2_with fail
        go_meet
        case rel => exact ⟨by first | rfl | simp [*], by first | exact Below.drew (Below.refl _ _) | exact Below.refl _ _⟩
    case rest =>
      obtain ⟨rfl, hbd⟩ := hcut
      obtain ⟨W2, hW2⟩ : ∃ W2 : World, W2 = wc := ⟨_, rfl⟩
      subst hW2
      have hbX2 := BC.out.trans (hbd.mono BC.out.size)
      have B2 := Lib.hid hbX2
      have BW2 := Lib.hid (BWX.out.trans (hbX2.mono (Nat.le_of_lt swX)))
      clear b0' b1' wsub w59 w67 w69 wkk wkk2 wat hdz rk1 d hbd
      obtain ⟨e2, eb, eoff, he2, rfl, hbl2, m0, m1, m2, m3⟩ := HEH.out.cells BW2.out (j := 0) (by have := HEL.out; omega)
      obtain rfl : e = e2 := by have h := HEN.out; rw [h] at he2; exact Option.some.inj he2
      rw [Nat.zero_mul, Nat.add_zero] at m0 m1 m2 m3
      rw [HE1.out] at m1
      rw [HE2.out] at m2
      have x0 : W2.cell? ⟨w.heap.size, 0, none⟩ = some (.slice A n cap) := by rw [hbX2.cell (p := ⟨w.heap.size, 0, none⟩) swX]; exact HX.out.1
      have x1 : W2.cell? ⟨w.heap.size, 1, none⟩ = some (.slice (some ⟨eb, eoff, none⟩) ents.length ecap) := by rw [hbX2.cell (p := ⟨w.heap.size, 1, none⟩) swX]; exact HX.out.2.1
      have x2 : W2.cell? ⟨w.heap.size, 2, none⟩ = some (.int .i64 sh) := by rw [hbX2.cell (p := ⟨w.heap.size, 2, none⟩) swX]; exact HX.out.2.2.1
      have x3 : W2.cell? ⟨w.heap.size, 3, none⟩ = some (.int .i64 lk) := by rw [hbX2.cell (p := ⟨w.heap.size, 3, none⟩) swX]; exact HX.out.2.2.2
      have hs2 := BW2.out.size
      have hX2 := hbX2.size
      have hw2 : w.heap.size < W2.heap.size := Nat.lt_of_lt_of_le swX hX2
      have hel0 : (0 : Int) < (ents.length : Int) := by rw [HEL.out]; decide
      have hel1 : 0 < ents.length := by rw [HEL.out]; decide
      have hee : eb < W2.heap.size := Nat.lt_of_lt_of_le hbl2 hs2
      clear hbX2 he2
      go_upto_region 12 with fail
      go_cut [10] from 70 to 79 (fun a10 wx => ∃ bs bm, a10 = .pointer (some ⟨bm, 0, none⟩) ∧ (bs ≠ bm ∧ W2.heap.size ≤ bs ∧ W2.heap.size ≤ bm ∧ bs < wx.heap.size ∧ bm < wx.heap.size) ∧ wx.heap[bs]? = some (.cells #[.string e.nm, .int .i64 0, .int .i64 (n : Int), .int .i64 e.da] 39) ∧ wx.heap[bm]? = some (.cells #[.slice none 0 0, .slice (some ⟨bs, 0, none⟩) 1 1, .int .i64 sh, .int .i64 lk] 25) ∧ Below W2.heap.size W2 wx)
      case first =>
        go_region
        all_goals
          go_wp2_with fail
          go_meet
          case rel => first
            | exact ⟨W2.heap.size, W2.heap.size + 1, rfl, ⟨by omega, by omega, by omega, by rw [(two_new W2 _ _).2.2.1]; omega, by rw [(two_new W2 _ _).2.2.1]; omega⟩, (two_new W2 _ _).1, (two_new W2 _ _).2.1, (two_new W2 _ _).2.2.2⟩
            | exact ⟨W2.heap.size + 1, W2.heap.size, rfl, ⟨by omega, by omega, by omega, by rw [(two_new W2 _ _).2.2.1]; omega, by rw [(two_new W2 _ _).2.2.1]; omega⟩, (two_new W2 _ _).2.1, (two_new W2 _ _).1, (two_new W2 _ _).2.2.2⟩
      case rest =>
        obtain ⟨bs, bm, rfl, hbs, kbs, kbm, hbe⟩ := hcut
        obtain ⟨W3, hW3⟩ : ∃ W3 : World, W3 = wc := ⟨_, rfl⟩
        subst hW3
        have hn0 : 0 < n := by have h1 := HGd.out.ch.bounds e (by rw [HSE.out]; simp); omega
        have wn : IntKind.i64.wrap ((n : Int) + 1) = (n : Int) + 1 := IntWalk.i64_in _ (by omega)
        have t1 : W3.cell? ⟨bm, 1, none⟩ = some (.slice (some ⟨bs, 0, none⟩) 1 1) := by simp [World.cell?, kbm]
        have t2 : W3.cell? ⟨bs, 2, none⟩ = some (.int .i64 (n : Int)) := by simp [World.cell?, kbs]
        have t2f : W3.frozen? ⟨bs, 2, none⟩ = false := by simp [World.frozen?, kbs]
        have hs3 := hbe.size
        have v0 : W3.cell? ⟨w.heap.size, 0, none⟩ = some (.slice A n cap) := by rw [hbe.cell (p := ⟨w.heap.size, 0, none⟩) hw2]; exact x0
        obtain ⟨W4, hW4⟩ : ∃ W4, W3.setCell ⟨bs, 2, none⟩ (.int .i64 ((n : Int) + 1)) = W4 := ⟨_, rfl⟩
        have k4s : W4.heap[bs]? = some (.cells #[.string e.nm, .int .i64 0, .int .i64 ((n : Int) + 1), .int .i64 e.da] 39) := by rw [← hW4, heap_setCell_same W3 bs 2 _ _ _ kbs]; rfl
        have k4m : W4.heap[bm]? = some (.cells #[.slice none 0 0, .slice (some ⟨bs, 0, none⟩) 1 1, .int .i64 sh, .int .i64 lk] 25) := by rw [← hW4, Below.heap_setCell _ _ _ _ (by show bm ≠ bs; exact fun h => hbs.1 h.symm)]; exact kbm
        have b4 : Below W2.heap.size W2 W4 := by rw [← hW4]; exact hbe.setCell (p := ⟨bs, 2, none⟩) hbs.2.1 _
        have s4 : W4.heap.size = W3.heap.size := by rw [← hW4]; simp
        have B4 := Lib.hid b4
        have BW4 := Lib.hid (BW2.out.trans (b4.mono hs2))
        have K4S := Lib.hid k4s
        have K4M := Lib.hid k4m
        have HBS := Lib.hid (show bs ≠ bm ∧ W2.heap.size ≤ bs ∧ W2.heap.size ≤ bm ∧ bs < W4.heap.size ∧ bm < W4.heap.size from ⟨hbs.1, hbs.2.1, hbs.2.2.1, by rw [s4]; exact hbs.2.2.2.1, by rw [s4]; exact hbs.2.2.2.2⟩)
        have hbs0 : bs < W3.heap.size := hbs.2.2.2.1
        have hbm0 : bm < W3.heap.size := hbs.2.2.2.2
        clear m0 m1 m2 m3 kbs kbm hbe x1 x2 x3 s4 b4 k4s k4m hbs
        go_upto_region 14 with fail
        try rw [hW4]
        clear hW4 t1 t2 t2f
        obtain ⟨cb0, hcb0⟩ : ∃ B : Nat, W4.heap.size = B := ⟨_, rfl⟩
        obtain ⟨A', cap', hv', _, _, hcd⟩ := HWH.out.at_
        cases hv'
        obtain ⟨cb, coff, rfl, hcb, hcc⟩ := hcd hn0
        have HCC := Lib.hid hcc
        obtain ⟨iU, hiU, hU0, hU1, hU2⟩ := info_parts infoUP
        have z0 : W4.cell? ⟨w.heap.size, 0, none⟩ = some (.slice (some ⟨cb, coff, none⟩) n cap) := by rw [B4.out.cell (p := ⟨w.heap.size, 0, none⟩) hw2]; exact x0
        clear hcc hcd x0 v0
        go_upto_region 15 with fail
        clear z0
        have HPG := Lib.hid (show PG W4 W4 bm (.slice none 0 0) (.slice (some ⟨bs, 0, none⟩) 1 1) sh lk (wsN cd kn (lenN kn 0)) from ⟨HBS.out.2.2.2.2, rfl, rfl, rfl, Nat.le_refl _, fun _ _ _ => rfl, K4M.out, World.ownsRow_nil _ _ _ _⟩)
        have hbmw : w.heap.size ≤ bm := by have := HBS.out.2.2.1; omega
        have HKL := Lib.hid (kn_lt GI.out HE1.out HE2.out HJL.out (by rw [← HHI.out]; exact HKN.out.2))
        have HGE := Lib.hid (show GoodI n cd [e] sh lk by have h := HGd.out; rw [HSE.out] at h; exact h)
        have HNC := Lib.hid (newCode HGE.out HWH.out.wd hn3 HKL.out)
        have HPUT := Lib.hid (put_of GI.out HLL.out HE1.out HE2.out HJL.out (by rw [← HLO.out]; exact HKN.out.1) (by rw [← HHI.out]; exact HKN.out.2) HNC.out)
        clear hn1 hn2
        go_loopw [11, 12, 13, 14, 15, 16, 17, 18, 91] (fun a11 a12 a13 a14 a15 a16 a17 a18 a91 wr => ∃ (i : Nat) (v : Value), i ≤ n ∧ a91 = .int .i64 (i : Int) ∧ PG W4 wr bm v (.slice (some ⟨bs, 0, none⟩) 1 1) sh lk (wsN cd kn (lenN kn i))) (fun _ _ _ _ _ _ _ _ a91 _ => n - (intOf a91).toNat)
        case atStart => exact ⟨0, _, Nat.zero_le _, rfl, HPG.out⟩
        case round =>
          obtain ⟨i, v, hi, rfl, hG⟩ := hrel
          clear HPG
          have BWR := Lib.hid (hG.base BW4.out hbmw)
          have sB := BWR.out.size
          have sB2 := hG.sz
          have HG := Lib.hid hG
          clear hG
          by_cases hlt : i < n
          case pos =>
            have dl : decide ((i : Int) < (n : Int)) = true := decide_eq_true (Int.ofNat_lt.2 hlt)
            have c0 : wr.cell? ⟨cb, coff + i, none⟩ = some (.int .u32 (cd i)) := by rw [BWR.out.cell (p := ⟨cb, coff + i, none⟩) hcb]; exact HCC.out i hlt
            have hcw : cb < wr.heap.size := Nat.lt_of_lt_of_le hcb sB
            have HLT := Lib.hid hlt
            clear hlt
            go_upto_if 98 with fail
            go_cut [12] from 92 to 103 (fun a12 wx => a12 = .int .u32 (cd i) ∧ ∃ v', PG W4 wx bm v' (.slice (some ⟨bs, 0, none⟩) 1 1) sh lk (wsN cd kn (lenM kn i)) ∧ wr.heap.size ≤ wx.heap.size)
            case first =>
              by_cases hk : i = kn
              · have HWK := Lib.hid (show wsN cd kn (lenM kn i) = wsN cd kn (lenN kn i) ++ [0] by rw [hk]; exact wsN_k cd kn)
                subst hk
                obtain ⟨ws, hws⟩ : ∃ ws, wsN cd i (lenN i i) = ws := ⟨_, rfl⟩
                have hwl : ws.length ≤ 400 := by rw [← hws, wsN_len]; unfold lenN; split <;> omega
                rw [hws] at HG HWK
                have hGY := HG.out
                obtain ⟨cA, ccap, rfl⟩ := hGY.slice
                have i0 : wr.cell? ⟨bm, 0, none⟩ = some (.slice cA ws.length ccap) := by simp [World.cell?, hGY.im]
                have f0 : wr.frozen? ⟨bm, 0, none⟩ = false := by simp [World.frozen?, hGY.im]
                have HNb := Lib.hid (show some bm ≠ Value.ownBlock (.slice cA ws.length ccap) from fun e' => by have := (hGY.row.lt bm e'.symm).1; have := hGY.ib1; omega)
                have hiY : bm < wr.heap.size := by have := hGY.sz; have := hGY.ib1; omega
                clear hGY hws c0
                go_wp2_with (at_builtin; refine wpList_append_own_at _ rfl (.tmp 100) (.tmp 101) 22 rfl W4.heap.size 56 iU (.int .u32 0) 1 4 Tryd.underlying22 hiU hU0 hU1 hU2 rfl (by decide) (.slice cA ws.length ccap) _ _ rfl (HG.out.row.alloc _) ⟨wr.heap.size, 0, none⟩ 1 1 [.int .u32 0] rfl rfl (cell_one_new _ _ _) (by simp [Value.oneCell']) (by unfold maxLen; omega) (by omega) (by rw [World.size_alloc]; omega) ?_; intro v' W' hown' hgrow _ hob; obtain ⟨g', cap', rfl⟩ := ownsRow_succ hown'; have hc1 := hgrow.cell (a := ⟨bm, 0, none⟩) (v := .slice cA ws.length ccap) (by simp [go_sem, *]) HNb.out; have hf1 : W'.frozen? ⟨bm, 0, none⟩ = false := (World.frozen?_of_block (hgrow.block bm (by simp; omega) HNb.out)).trans (by simp [go_sem, *]))
                go_meet
                case rel => exact ⟨rfl, _, by rw [HWK.out]; exact HG.out.app (x := 0) ((Below.refl wr.heap.size wr).alloc (Nat.le_refl _) _) hgrow (by simpa [uvs] using hown'), by have := hgrow.size; rw [World.size_alloc] at this; simp; omega⟩
              · have d : ((i : Int) == (kn : Int)) = false := by simp; omega
                have dd : (i == kn) = false := by simp; exact hk
                have HWK := Lib.hid (lenNM hk)
                clear hk
                go_wp2_with fail
                go_meet
                case rel => exact ⟨rfl, _, by rw [HWK.out]; exact HG.out, Nat.le_refl _⟩
            case rest =>
              obtain ⟨rfl, v1, hG1, hz1⟩ := hcut
              obtain ⟨W5, hW5⟩ : ∃ W5 : World, W5 = wc := ⟨_, rfl⟩
              subst hW5
              have BW5 := Lib.hid (hG1.base BW4.out hbmw)
              have sB5 := BW5.out.size
              have sB6 := hG1.sz
              have HG5 := Lib.hid hG1
              clear hG1 HG c0
              obtain ⟨q1, q2, q3, q4, q5, q6⟩ := dec_split (kn := kn) HGE.out HWH.out.wd HLT.out
              have hcd := HWH.out.wd i HLT.out
              have HDE := Lib.hid (decode_any (cd i) hcd.1 hcd.2 W5 (HT.out.below BW5.out))
              rw [← q2, q1] at HDE
              have HWD := Lib.hid (show wdOf cd kn i = if isBr (insAt cd (i : Int)).op = true then (encI (shI (kn : Int) (i : Int) (insAt cd (i : Int)))).1 else cd i from rfl)
              obtain ⟨I, hI⟩ : ∃ I, insAt cd (i : Int) = I := ⟨_, rfl⟩
              rw [hI] at HDE HWD q3 q4 q5 q6
              obtain ⟨op, ia, ib, ic, im⟩ := I
              simp only [Ins.val] at HDE
              simp only at q3 q4 q5 q6
              obtain ⟨xb, hxb⟩ : ∃ xb, W5.heap.size = xb := ⟨_, rfl⟩
              have HQ3 := Lib.hid q3
              clear q1 q2 q3 hI hcd
              go_upto_region 20 with (go_at_call 23; refine HDE.out.mono ?_; rintro e' Y ⟨rfl, hbY⟩)
              obtain ⟨yb, hyb⟩ : ∃ yb, Y.heap.size = yb := ⟨_, rfl⟩
              obtain ⟨Z, hZ⟩ : ∃ Z, Y.alloc (.cells #[.int .u8 op, .int .i64 ia, .int .i64 ib, .int .i64 ic, .int .i64 im] 53) = Z := ⟨_, rfl⟩
              have bZ : Below Y.heap.size Y Z := hZ ▸ (Below.refl _ _).alloc (Nat.le_refl _) _
              have kZ : Z.heap[Y.heap.size]? = some (.cells #[.int .u8 op, .int .i64 ia, .int .i64 ib, .int .i64 ic, .int .i64 im] 53) := hZ ▸ heap_alloc_new _ _
              have sZ : Z.heap.size = Y.heap.size + 1 := by rw [← hZ]; simp
              have hsy := hbY.size
              have hb5 : Below W5.heap.size W5 Z := hbY.trans (bZ.mono hsy)
              have BZ := Lib.hid hb5
              rw [hZ]
              rw [hyb] at kZ sZ hsy ⊢
              have KZ := Lib.hid kZ
              have z0 : Z.cell? ⟨yb, 0, none⟩ = some (.int .u8 op) := by simp [World.cell?, kZ]
              have z1 : Z.cell? ⟨yb, 1, none⟩ = some (.int .i64 ia) := by simp [World.cell?, kZ]
              have z2 : Z.cell? ⟨yb, 2, none⟩ = some (.int .i64 ib) := by simp [World.cell?, kZ]
              have z3 : Z.cell? ⟨yb, 3, none⟩ = some (.int .i64 ic) := by simp [World.cell?, kZ]
              have z4 : Z.cell? ⟨yb, 4, none⟩ = some (.int .i64 im) := by simp [World.cell?, kZ]
              have z4f : Z.frozen? ⟨yb, 4, none⟩ = false := by simp [World.frozen?, kZ]
              have hyZ : yb < Z.heap.size := by omega
              have HTG := Lib.hid (target_any ⟨op, ia, ib, ic, im⟩ (i : Int) Z (IntWalk.i64_in _ (by omega)) (IntWalk.i64_in _ (by simp only; omega)))
              simp only at HTG
              obtain ⟨brb, hbrb⟩ : ∃ brb, isBr op = brb := ⟨_, rfl⟩
              obtain ⟨tv, htv⟩ : ∃ tv, (if isBr op = true then (i : Int) + 1 + im else 0) = tv := ⟨_, rfl⟩
              rw [htv, hbrb] at HTG
              have HTV := Lib.hid htv
              have HBRB := Lib.hid hbrb
              clear hZ bZ kZ hbY hb5 hyb hxb htv hbrb HDE
              go_upto_if 117 with (go_at_call 26; refine HTG.out.mono ?_; rintro e' U ⟨rfl, hbU⟩)
              have sU := hbU.size
              have kU : U.heap[yb]? = some (.cells #[.int .u8 op, .int .i64 ia, .int .i64 ib, .int .i64 ic, .int .i64 im] 53) := by rw [hbU.block _ hyZ]; exact KZ.out
              have BU := Lib.hid (BZ.out.trans (hbU.mono BZ.out.size))
              have u0 : U.cell? ⟨yb, 0, none⟩ = some (.int .u8 op) := by simp [World.cell?, kU]
              have u1 : U.cell? ⟨yb, 1, none⟩ = some (.int .i64 ia) := by simp [World.cell?, kU]
              have u2 : U.cell? ⟨yb, 2, none⟩ = some (.int .i64 ib) := by simp [World.cell?, kU]
              have u3 : U.cell? ⟨yb, 3, none⟩ = some (.int .i64 ic) := by simp [World.cell?, kU]
              have u4 : U.cell? ⟨yb, 4, none⟩ = some (.int .i64 im) := by simp [World.cell?, kU]
              have u4f : U.frozen? ⟨yb, 4, none⟩ = false := by simp [World.frozen?, kU]
              have hyU : yb < U.heap.size := Nat.lt_of_lt_of_le hyZ sU
              have HEC := Lib.hid (show ∀ (M : Int) (W : World), Below W5.heap.size W5 W → Calls Tryd.prog 25 #[.agg #[.int .u8 op, .int .i64 ia, .int .i64 ib, .int .i64 ic, .int .i64 M]] W fun e w' => e = .returned (.tuple #[.int .u32 (encI ⟨op, ia, ib, ic, M⟩).1, .int .i64 (encI ⟨op, ia, ib, ic, M⟩).2]) ∧ Below W5.heap.size W5 w' from fun M W hW => (encode_any ⟨op, ia, ib, ic, M⟩ q4 W (HT.out.below (BW5.out.trans (hW.mono sB5)))).mono fun e w' ⟨h1, h2⟩ => ⟨h1, hW.trans (h2.mono hW.size)⟩)
              have HYB := Lib.hid (show W5.heap.size ≤ yb from hsy)
              clear kU hbU z0 z1 z2 z3 z4 z4f KZ sZ hsy
              go_cut [12, 17, 18] from 117 to 139 (fun a12 a17 a18 wx => a12 = .int .u32 (wdOf cd kn i) ∧ Below W5.heap.size W5 wx)
              case first =>
                cases brb
                case false =>
                  have HW9 := Lib.hid (show wdOf cd kn i = cd i by rw [HWD.out, if_neg (by rw [HBRB.out]; simp)])
                  go_wp2_with fail
                  go_meet
                  case rel => exact ⟨by rw [HW9.out], BU.out⟩
                case true =>
                  have htv' : (i : Int) + 1 + im = tv := by have h := HTV.out; rw [HBRB.out, if_pos rfl] at h; exact h
                  have htr : 0 ≤ tv ∧ tv < (n : Int) := by rw [← htv']; exact HQ3.out HBRB.out
                  have HW9 := Lib.hid (show wdOf cd kn i = (encI ⟨op, ia, ib, ic, phi (kn : Int) tv - phi (kn : Int) (i : Int) - 1⟩).1 by rw [HWD.out, if_pos HBRB.out]; unfold shI; rw [if_pos HBRB.out]; simp only [htv'])
                  have w1 : IntKind.i64.wrap ((i : Int) + 1) = (i : Int) + 1 := IntWalk.i64_in _ (by omega)
                  have w2 : IntKind.i64.wrap (tv + 1) = tv + 1 := IntWalk.i64_in _ (by omega)
                  have w3 : IntKind.i64.wrap (tv - (i : Int)) = tv - (i : Int) := IntWalk.i64_in _ (by omega)
                  have w4 : IntKind.i64.wrap (tv + 1 - (i : Int)) = tv + 1 - (i : Int) := IntWalk.i64_in _ (by omega)
                  have w5 : IntKind.i64.wrap (tv - ((i : Int) + 1)) = tv - ((i : Int) + 1) := IntWalk.i64_in _ (by omega)
                  have w6 : IntKind.i64.wrap (tv + 1 - ((i : Int) + 1)) = tv + 1 - ((i : Int) + 1) := IntWalk.i64_in _ (by omega)
                  have w7 : IntKind.i64.wrap (tv - (i : Int) - 1) = tv - (i : Int) - 1 := IntWalk.i64_in _ (by omega)
                  have w8 : IntKind.i64.wrap (tv + 1 - (i : Int) - 1) = tv + 1 - (i : Int) - 1 := IntWalk.i64_in _ (by omega)
                  have w9 : IntKind.i64.wrap (tv - ((i : Int) + 1) - 1) = tv - ((i : Int) + 1) - 1 := IntWalk.i64_in _ (by omega)
                  have w10 : IntKind.i64.wrap (tv + 1 - ((i : Int) + 1) - 1) = tv + 1 - ((i : Int) + 1) - 1 := IntWalk.i64_in _ (by omega)
                  clear htv' htr q4 q5 q6
                  by_cases h1 : (kn : Int) ≤ (i : Int) <;> by_cases h2 : (kn : Int) ≤ tv
                  all_goals
                    first | (have d1 : decide ((kn : Int) ≤ (i : Int)) = true := decide_eq_true h1) | (have d1 : decide ((kn : Int) ≤ (i : Int)) = false := decide_eq_false h1)
                    first | (have d2 : decide ((kn : Int) ≤ tv) = true := decide_eq_true h2) | (have d2 : decide ((kn : Int) ≤ tv) = false := decide_eq_false h2)
                    first | (have d3 : decide (kn ≤ i) = true := decide_eq_true (by omega)) | (have d3 : decide (kn ≤ i) = false := decide_eq_false (by omega))
                    have H1 := Lib.hid h1
                    have H2 := Lib.hid h2
                    clear h1 h2
                    go_wp2_with (go_at_call 25; refine (HEC.out _ _ (Below.setCell BU.out HYB.out _)).mono ?_; rintro e' V ⟨rfl, hbV⟩)
                    go_meet
                    case rel => exact ⟨by rw [HW9.out]; have h1 := H1.out; have h2 := H2.out; unfold phi; first | (rw [if_neg (by omega), if_neg (by omega)]) | (rw [if_neg (by omega), if_pos (by omega)]) | (rw [if_pos (by omega), if_neg (by omega)]) | (rw [if_pos (by omega), if_pos (by omega)]), hbV⟩
              case rest =>
                obtain ⟨rfl, hb6⟩ := hcut
                obtain ⟨Y2, hY2⟩ : ∃ Y2 : World, Y2 = wc := ⟨_, rfl⟩
                subst hY2
                have hGY := HG5.out.below hb6
                obtain ⟨wd, hwd⟩ : ∃ wd, wdOf cd kn i = wd := ⟨_, rfl⟩
                have HWS := Lib.hid (wsN_next cd kn i)
                rw [hwd] at HWS ⊢
                obtain ⟨ws, hws⟩ : ∃ ws, wsN cd kn (lenM kn i) = ws := ⟨_, rfl⟩
                have hwl : ws.length ≤ 400 := by rw [← hws, wsN_len]; have := HLT.out; unfold lenM; split <;> omega
                rw [hws] at hGY HWS
                obtain ⟨cA, ccap, rfl⟩ := hGY.slice
                have i0 : Y2.cell? ⟨bm, 0, none⟩ = some (.slice cA ws.length ccap) := by simp [World.cell?, hGY.im]
                have f0 : Y2.frozen? ⟨bm, 0, none⟩ = false := by simp [World.frozen?, hGY.im]
                have HNb := Lib.hid (show some bm ≠ Value.ownBlock (.slice cA ws.length ccap) from fun e' => by have := (hGY.row.lt bm e'.symm).1; have := hGY.ib1; omega)
                have hiY : bm < Y2.heap.size := by have := hGY.sz; have := hGY.ib1; omega
                have hY4 := hGY.sz
                have HGY := Lib.hid hGY
                have wi1 : IntKind.i64.wrap ((i : Int) + 1) = (i : Int) + 1 := IntWalk.i64_in _ (by have := HLT.out; omega)
                clear hGY hb6 hws hwd HWD HG5 BU HTG HTV HBRB HQ3 HEC BZ u0 u1 u2 u3 u4 u4f hyU hyZ sU q4 q5 q6
                go_upto_region 32 with (at_builtin; refine wpList_append_own_at _ rfl (.tmp 141) (.tmp 143) 22 rfl W4.heap.size 56 iU (.int .u32 0) 1 4 Tryd.underlying22 hiU hU0 hU1 hU2 rfl (by decide) (.slice cA ws.length ccap) _ _ rfl (HGY.out.row.alloc _) ⟨Y2.heap.size, 0, none⟩ 1 1 [.int .u32 wd] rfl rfl (cell_one_new _ _ _) (by simp [Value.oneCell']) (by unfold maxLen; omega) (by omega) (by rw [World.size_alloc]; omega) ?_; intro v' W' hown' hgrow _ hob; obtain ⟨g', cap', rfl⟩ := ownsRow_succ hown'; have hc1 := hgrow.cell (a := ⟨bm, 0, none⟩) (v := .slice cA ws.length ccap) (by simp [go_sem, *]) HNb.out; have hf1 : W'.frozen? ⟨bm, 0, none⟩ = false := (World.frozen?_of_block (hgrow.block bm (by simp; omega) HNb.out)).trans (by simp [go_sem, *]))
                have HA := Lib.hid (HGY.out.app (x := wd) ((Below.refl Y2.heap.size Y2).alloc (Nat.le_refl _) _) hgrow (by simpa [uvs] using hown'))
                clear hc1 hf1 hob hgrow hown' i0 f0 HGY HNb
                go_wp2_with fail
                go_roundw
                case rel =>
                  refine ⟨i + 1, .slice (some ⟨g', 0, none⟩) (ws.length + 1) cap', by have := HLT.out; omega, by go_num, ?_⟩
                  rw [HWS.out]
                  exact HA.out
                case measure => have := HLT.out; simp [intOf]; omega
          case neg =>
            obtain rfl : i = n := by omega
            have dl : decide ((i : Int) < (i : Int)) = false := by simp
            have hln : lenN kn i = i + 1 := by have := HKL.out; unfold lenN; rw [if_neg (by omega)]
            rw [hln] at HG
            obtain ⟨cA, ccap, hv⟩ := HG.out.slice
            rw [wsN_len] at hv
            subst hv
            have hgo := HG.out
            have r0 : wr.cell? ⟨bm, 0, none⟩ = some (.slice cA (i + 1) ccap) := by simp [World.cell?, hgo.im]
            have r1 : wr.cell? ⟨bm, 1, none⟩ = some (.slice (some ⟨bs, 0, none⟩) 1 1) := by simp [World.cell?, hgo.im]
            have r2 : wr.cell? ⟨bm, 2, none⟩ = some (.int .i64 sh) := by simp [World.cell?, hgo.im]
            have r3 : wr.cell? ⟨bm, 3, none⟩ = some (.int .i64 lk) := by simp [World.cell?, hgo.im]
            have hbmr : bm < wr.heap.size := by have := hgo.sz; have := hgo.ib1; omega
            have HWN := Lib.hid (show Words wr (.slice cA (i + 1) ccap) (i + 1) (cdN cd kn) from by
              have h := own_words (ws := wsN cd kn (i + 1)) hgo.row (by rw [wsN_len]; omega) (fun x hx => by obtain ⟨q, hq, rfl⟩ := List.mem_map.1 hx; exact HNC.out.wd q (List.mem_range.1 hq))
              rw [wsN_len] at h
              exact words_congr h (fun q hq => by simp [wsN, List.getD, List.getElem?_range hq]))
            have HEN2 := Lib.hid (one_ent (e := ⟨e.nm, 0, (i : Int) + 1, e.da⟩) ((hgo.blk bs HBS.out.2.2.2.1 HBS.out.1).trans K4S.out) (HEH.out.nm e (List.mem_of_getElem? HEN.out)))
            have HGN := Lib.hid (show GoodI (i + 1) (cdN cd kn) [⟨e.nm, 0, (i : Int) + 1, e.da⟩] sh lk by have h := HNC.out.good; rw [HE1.out, HE2.out] at h; exact h)
            have HBU2 := Lib.hid (show ∀ W, Below wr.heap.size wr W → _ from fun W hW => build_out (.slice cA (i + 1) ccap) (.slice (some ⟨bs, 0, none⟩) 1 1) sh lk (i + 1) (cdN cd kn) [⟨e.nm, 0, (i : Int) + 1, e.da⟩] 0 ⟨e.nm, 0, (i : Int) + 1, e.da⟩ W (HT.out.below (BWR.out.trans (hW.mono sB))) (HWN.out.below hW) (HEN2.out.below hW) HGN.out rfl)
            have BXR := Lib.hid (hgo.base (B2.out.trans (B4.out.mono (Nat.le_trans (Nat.le_refl _) hX2))) (Nat.le_trans hX2 HBS.out.2.2.1))
            have hXr := BXR.out.size
            clear hgo hln hlt
            go_upto_region 34 with (go_at_call 12; refine (HBU2.out wr (Below.refl _ _)).mono ?_; rintro e' W7 ⟨⟨G', P', at', er'⟩, bv', pv', hr', rfl, hB', hP', hb7⟩; simp only at hB' hP'; obtain ⟨p1, p2, p3, p4⟩ := plain_same HPUT.out HLL.out HE1.out HE2.out hr'; simp only at p1 p2 p3 p4; subst p1; have P2 := Lib.hid p2; have P3 := Lib.hid p3; have P4 := Lib.hid p4; clear p2 p3 p4; have hF' := hr'.fine (Int.le_refl _) (by simp only; omega); obtain ⟨bA', bcap', rfl, gg1', gg2'⟩ := hB'.slice; obtain ⟨pA', pcap', rfl, pp1', pp2'⟩ := hP'.slice)
            obtain ⟨gb2, hgb2⟩ : ∃ gb2, W7.heap.size = gb2 := ⟨_, rfl⟩
            obtain ⟨X8, hX8⟩ : ∃ X8, W7.alloc (.cells #[.slice bA' G'.length bcap', .slice pA' P'.length pcap'] 31) = X8 := ⟨_, rfl⟩
            have bX8 : Below W7.heap.size W7 X8 := hX8 ▸ (Below.refl _ _).alloc (Nat.le_refl _) _
            have kX8 : X8.heap[W7.heap.size]? = some (.cells #[.slice bA' G'.length bcap', .slice pA' P'.length pcap'] 31) := hX8 ▸ heap_alloc_new _ _
            have sX8 : X8.heap.size = W7.heap.size + 1 := by rw [← hX8]; simp
            have h7s := hb7.size
            have hr8 : Below wr.heap.size wr X8 := hb7.trans (bX8.mono h7s)
            have hx8 : Below X.heap.size X X8 := BXR.out.trans (hr8.mono hXr)
            have HB8 := Lib.hid (hB'.below bX8)
            have HP8 := Lib.hid (hP'.below bX8)
            have HBX8 := Lib.hid (HBX.out.below hx8)
            have HPX8 := Lib.hid (HPX.out.below hx8)
            have HLG := Lib.hid (show (gBlks (insAt cd) L).length = ln by rw [HGL.out, HLN.out])
            have HBX9 := Lib.hid (show Blks X8 (.slice (some ⟨bb, boff, none⟩) ln bcap) (gBlks (insAt cd) L) by have h := HBX8.out; rw [HLG.out] at h; exact h)
            have BR8 := Lib.hid (BWR.out.trans (hr8.mono sB))
            have kg8 := (hx8.block gb sX).trans KX.out
            have v0 : X8.cell? ⟨gb, 0, none⟩ = some (.slice (some ⟨bb, boff, none⟩) ln bcap) := by simp [World.cell?, kg8]
            have v1 : X8.cell? ⟨gb, 1, none⟩ = some (.slice pA P.length pcap) := by simp [World.cell?, kg8]
            rw [hX8]
            rw [hgb2] at kX8 sX8 ⊢
            have v2 : X8.cell? ⟨gb2, 0, none⟩ = some (.slice bA' G'.length bcap') := by simp [World.cell?, kX8]
            have v3 : X8.cell? ⟨gb2, 1, none⟩ = some (.slice pA' P'.length pcap') := by simp [World.cell?, kX8]
            have hg8 : gb < X8.heap.size := Nat.lt_of_lt_of_le sX hx8.size
            have hg82 : gb2 < X8.heap.size := by omega
            have p2 := P2.out
            have p3 := P3.out
            have p4 := P4.out
            have hl0 : G'.length = ln := by rw [p2, HGL.out, HLN.out]
            have HLG := Lib.hid (show (gBlks (insAt cd) L).length = ln by rw [HGL.out, HLN.out])
            have HED2 := Lib.hid (show ∀ W, Below X8.heap.size X8 W → Calls Tryd.prog 27 #[.agg #[.slice bA' G'.length bcap', .slice pA' P'.length pcap']] W fun e w' => ∃ A c, e = .returned (.slice A (edg (gBlks (insAt cd) L) (gBlks (insAt cd) L).length []).length c) ∧ Below X8.heap.size X8 w' from fun W hW => (edges_any _ _ G' W (HB8.out.below hW) (by have := hF'.len; simp only at this; omega) (fun x hx => by have := hF'.nx x hx; omega)).mono fun e w' ⟨⟨v, h1, h2⟩, h3⟩ => by
              obtain ⟨A, c, rfl, _⟩ := h2
              rw [p3] at h1
              exact ⟨A, c, h1, hW.trans (h3.mono hW.size)⟩)
            have HED1 := Lib.hid (show ∀ W, Below X8.heap.size X8 W → Calls Tryd.prog 27 #[.agg #[.slice (some ⟨bb, boff, none⟩) ln bcap, .slice pA P.length pcap]] W fun e w' => ∃ A c, e = .returned (.slice A (edg (gBlks (insAt cd) L) (gBlks (insAt cd) L).length []).length c) ∧ Below X8.heap.size X8 w' from fun W hW => (edges_any _ _ (gBlks (insAt cd) L) W (HBX9.out.below hW) (by have := HF.out.len; have := HE1.out; have := HE2.out; simp only at *; omega) (fun x hx => by have := HF.out.nx x hx; omega)).mono fun e w' ⟨⟨v, h1, h2⟩, h3⟩ => by
              obtain ⟨A, c, rfl, _⟩ := h2
              exact ⟨A, c, h1, hW.trans (h3.mono hW.size)⟩)
            obtain ⟨xs, hxs⟩ : ∃ xs, exits (gBlks (insAt cd) L) (gBlks (insAt cd) L).length = xs := ⟨_, rfl⟩
            have HEX2 := Lib.hid (show ∀ W, Below X8.heap.size X8 W → Calls Tryd.prog 29 #[.agg #[.slice bA' G'.length bcap', .slice pA' P'.length pcap']] W fun e w' => ∃ v, e = .returned v ∧ Ints w' v xs ∧ Below X8.heap.size X8 w' from fun W hW => (exits_any _ _ G' W (HB8.out.below hW) (by have := hF'.len; simp only at this; omega)).mono fun e w' ⟨⟨v, h1, h2⟩, h3⟩ => ⟨v, h1, by rw [← hxs, ← p4]; exact h2, hW.trans (h3.mono hW.size)⟩)
            have HEX1 := Lib.hid (show ∀ (v2 : Value) (W : World), Below X8.heap.size X8 W → Ints W v2 xs → Calls Tryd.prog 29 #[.agg #[.slice (some ⟨bb, boff, none⟩) ln bcap, .slice pA P.length pcap]] W fun e w' => ∃ v, e = .returned v ∧ Ints w' v xs ∧ Ints w' v2 xs ∧ Below X8.heap.size X8 w' from fun v2 W hW hv => (exits_any _ _ (gBlks (insAt cd) L) W (HBX9.out.below hW) (by have := HF.out.len; have := HE1.out; have := HE2.out; simp only at *; omega)).mono fun e w' ⟨⟨v, h1, h2⟩, h3⟩ => ⟨v, h1, by rw [← hxs]; exact h2, hv.below h3, hW.trans (h3.mono hW.size)⟩)
            have HIN := Lib.hid (show ∀ (v1 v2 : Value) (W : World), Below X8.heap.size X8 W → Ints W v1 xs → Ints W v2 xs → Calls Tryd.prog 28 #[v1, v2] W fun e w' => e = .returned (.bool true) ∧ Below X8.heap.size X8 w' from fun v1 v2 W hW h1 h2 => (ints_any v1 v2 xs xs W h1 h2).mono fun e w' ⟨h1, h3⟩ => ⟨by rw [h1]; simp, hW.trans (h3.mono hW.size)⟩)
            obtain ⟨ne, hne⟩ : ∃ ne, (edg (gBlks (insAt cd) L) (gBlks (insAt cd) L).length []).length = ne := ⟨_, rfl⟩
            rw [hne] at HED1 HED2
            rw [hl0] at HED2 HEX2 v2
            obtain ⟨pl', hpl'⟩ : ∃ pl' : Nat, P'.length = pl' := ⟨_, rfl⟩
            rw [hpl'] at HED2 HEX2 v3
            clear hX8 bX8 kX8 sX8 hb7 hr8 hx8 hB' hP' hr' kg8 hgb2 p2 p3 p4 hF' hl0 hxs hne hpl' r0 r1 r2 r3 HBU2 HWN HEN2 HGN BXR gg1' gg2' pp1' pp2' HG
            go_region_held3 (fun w' => (∀ b o, b < X8.heap.size → w'.cell? ⟨b, o, none⟩ = X8.cell? ⟨b, o, none⟩) ∧ Below X8.heap.size X8 w') ((refine keepsV ?_; (repeat (first | (with_reducible assumption) | exact Below.refl _ _ | (with_reducible exact Ext.h _) | (with_reducible refine Below.drew ?_) | (with_reducible refine Below.alloc ?_ ?_ _) | (with_reducible refine Below.setCell ?_ ?_ _) | exact Nat.le_refl _ | exact (Ext.h _).size | (exact Below.size (by assumption)) | (simp; done) | (simp; omega)))))
              (first | (go_at_call 27; first | (with_reducible refine (HED2.out _ (by first | exact Below.drew (Below.refl _ _) | assumption)).mono ?_; rintro e' w1 ⟨A1, c1, rfl, hb1⟩) | (with_reducible refine (HED1.out _ (by first | exact Below.drew (Below.refl _ _) | assumption)).mono ?_; rintro e' w2 ⟨A2, c2, rfl, hb2⟩)) | (go_at_call 29; first | (with_reducible refine (HEX2.out _ (by first | exact Below.drew (Below.refl _ _) | assumption)).mono ?_; rintro e' w3 ⟨u1, rfl, hi1, hb3⟩) | (with_reducible refine (HEX1.out u1 _ (by first | exact Below.drew (Below.refl _ _) | assumption) hi1).mono ?_; rintro e' w4 ⟨u2, rfl, hi2, hi3, hb4⟩)) | (go_at_call 28; with_reducible refine (HIN.out _ _ _ (by assumption) (by assumption) (by assumption)).mono ?_; rintro e' w5 ⟨rfl, hb5⟩))
            all_goals
              go_wp2_with fail
              go_ret
              exact ⟨rfl, BR8.out.trans (by first | exact hb5.mono BR8.out.size)⟩

end Go.Proofs.YtfceodpdipniaaaDoor
