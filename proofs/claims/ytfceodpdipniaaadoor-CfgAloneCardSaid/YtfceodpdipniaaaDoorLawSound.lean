/-
  What is proved here: CfgSound returns true for every image and task, and changes nothing of its input.
-/
import Derived.Test.YtfceodpdipniaaaDoorCgSoundP
import Derived.Test.YtfceodpdipniaaaDoorCgOpen2
import Derived.Deep.RegionWith
import Derived.Test.YtfceodpdipniaaaDoorQPre
namespace Go.Proofs.YtfceodpdipniaaaDoor
open Go.RowKit
set_option linter.unusedVariables false
set_option linter.unusedSimpArgs false

theorem WordsN.below {w w' : World} {v : Value} {n : Nat} {cd : Nat → Int} (h : WordsN w v n cd) (hb : Below w.heap.size w w') : WordsN w' v n cd := by
  obtain ⟨A, cap, h1, h2, h3, h4⟩ := h.at_
  refine ⟨h.wd, A, cap, h1, h2, h3, fun h0 => ?_⟩
  obtain ⟨b, off, ha, hlt, hc⟩ := h4 h0
  exact ⟨b, off, ha, by have := hb.size; omega, fun i hi => (hb.cell (p := ⟨b, off + i, none⟩) hlt).trans (hc i hi)⟩
theorem gBlks_nx (c : Int → Ins) (L : List (Int × Int)) : ∀ x ∈ gBlks c L, x.nx.length ≤ 5000 := by
  intro x hx
  unfold gBlks at hx
  obtain ⟨k, hk, rfl⟩ := List.mem_map.1 hx
  have h1 := nxl_len L (succI (c (lastI L k)) (lastI L k))
  have h2 := succI_len (c (lastI L k)) (lastI L k)
  show (nextOf c L k).length ≤ 5000
  unfold nextOf
  omega

/-- What CfgSound asks of the instruction 'a' of block i. -/
structure InsOK (c : Int → Ins) (L : List (Int × Int)) (i : Nat) (lo hi : Int) (nx : List Int) (a : Int) : Prop where
  mid : a < hi - 1 → isBr (c a).op = false ∧ (c a).op ≠ 1 ∧ (c a).op ≠ 29
  inn : lo < a → (c a).op ≠ 28
  halt : a = hi - 1 → (c a).op = 1 → nx = []
  fall : a = hi - 1 → isBr (c a).op = false → (c a).op ≠ 1 → nx = [((i + 1 : Nat) : Int)] ∧ ∃ h : i + 1 < L.length, (L[i + 1]).1 = hi
theorem GInv.insOK {c : Int → Ins} {st en : Int} {D : List Int} {L : List (Int × Int)} (hL : blk c st D (en - st).toNat = L) (h : GInv c st en D L) {i : Nat} (hi : i < L.length) {a : Int} (h1 : (L[i]).1 ≤ a) (h2 : a < (L[i]).2) : InsOK c L i (L[i]).1 (L[i]).2 (nextOf c L i) a := by
  have h' : GInv c st en D (blk c st D (en - st).toNat) := by rw [hL]; exact h
  have hm : L[i] ∈ blk c st D (en - st).toNat := by rw [hL]; exact List.getElem_mem hi
  refine ⟨fun h3 => ?_, fun h3 => (h'.inn hm h3 h2).2.lock, fun h3 h4 => ?_, fun h3 h4 h5 => ?_⟩
  · have := (h'.inn hm (x := a + 1) (by omega) (by omega)).2
    have e : a + 1 - 1 = a := by omega
    have q1 := this.br
    have q2 := this.halt
    have q3 := this.unlock
    rw [e] at q1 q2 q3
    exact ⟨q1, q2, q3⟩
  · subst h3; exact GInv.halts hi h4
  · subst h3; exact h.falls hi h4 h5
theorem gcells {X wr : World} {c : Int → Ins} {L : List (Int × Int)} {bb boff bcap : Nat} (h : Blks X (.slice (some ⟨bb, boff, none⟩) L.length bcap) (gBlks c L)) (hb : Below X.heap.size X wr) {i : Nat} (hi : i < L.length) :
    ∃ nv, bb < X.heap.size ∧ wr.cell? ⟨bb, boff + i * 3, none⟩ = some (.int .i64 (L[i]).1) ∧ wr.cell? ⟨bb, boff + i * 3 + 1, none⟩ = some (.int .i64 (L[i]).2) ∧ wr.cell? ⟨bb, boff + i * 3 + 2, none⟩ = some nv ∧ Ints X nv (nextOf c L i) := by
  obtain ⟨A, cap, hv, _, _, h4⟩ := h
  simp only [Value.slice.injEq] at hv
  obtain ⟨hA, -, -⟩ := hv
  obtain ⟨b, off, hA', hlt, hc⟩ := h4 (by rw [gBlks_len]; omega)
  rw [← hA] at hA'
  cases hA'
  obtain ⟨c0, c1, nv, c2, hI⟩ := hc i _ (gBlks_at c L hi)
  exact ⟨nv, hlt, (hb.cell (p := ⟨bb, _, none⟩) hlt).trans c0, (hb.cell (p := ⟨bb, _, none⟩) hlt).trans c1, (hb.cell (p := ⟨bb, _, none⟩) hlt).trans c2, hI⟩

set_option maxHeartbeats 4000000 in
set_option maxRecDepth 20000 in
theorem sound_any (cv ev : Value) (sh lk : Int) (n : Nat) (cd : Nat → Int) (ents : List Ent) (task : Int) (w : World) (T : Tab w) (HW : WordsN w cv n cd) (HE : Ents w ev ents) :
    Calls Tryd.prog 5 #[.agg #[cv, ev, .int .i64 sh, .int .i64 lk], .int .i64 task] w fun e w' => e = .returned (.bool true) ∧ Below w.heap.size w w' := by
  obtain ⟨A, cap, hcv, hc1, hc2, -⟩ := HW.at_
  obtain ⟨EA, ecap, hev, he1, he2, -⟩ := HE.at_
  have h63 : ents.length ≤ 2 ^ 63 - 1 := by unfold maxLen at he2; omega
  have HWH := Lib.hid HW
  have HEH := Lib.hid HE
  have HT := Lib.hid T
  clear HW HE T
  subst hcv hev
  obtain ⟨V0, hV0⟩ : ∃ V0, w.alloc (.cells #[.slice A n cap, .slice EA ents.length ecap, .int .i64 sh, .int .i64 lk] 25) = V0 := ⟨_, rfl⟩
  have b0 : Below w.heap.size w V0 := hV0 ▸ (Below.refl _ _).alloc (Nat.le_refl _) _
  have s0 : w.heap.size < V0.heap.size := by rw [← hV0]; simp
  have k0 : V0.heap[w.heap.size]? = some (.cells #[.slice A n cap, .slice EA ents.length ecap, .int .i64 sh, .int .i64 lk] 25) := by rw [← hV0]; exact heap_alloc_new _ _
  have y0 : V0.cell? ⟨w.heap.size, 0, none⟩ = some (.slice A n cap) := by simp [World.cell?, k0]
  have y1 : V0.cell? ⟨w.heap.size, 1, none⟩ = some (.slice EA ents.length ecap) := by simp [World.cell?, k0]
  have y2 : V0.cell? ⟨w.heap.size, 2, none⟩ = some (.int .i64 sh) := by simp [World.cell?, k0]
  have y3 : V0.cell? ⟨w.heap.size, 3, none⟩ = some (.int .i64 lk) := by simp [World.cell?, k0]
  have B0 := Lib.hid b0
  have HAW := Lib.hid (Calls.ext (awake_any V0 (HT.out.below b0)))
  clear k0 b0
  go_enter Tryd.func5, Tryd.ntmps5
  go_upto_region 1 with fail
  clear hV0
  have HGR := Lib.hid (show ∀ y : Ext V0, Calls Tryd.prog 11 #[.agg #[.slice A n cap, .slice EA ents.length ecap, .int .i64 sh, .int .i64 lk]] y.w fun e w' => e = .returned (.int .i64 (greatI n ents)) ∧ ∃ z : Ext V0, z.w = w' from fun y => (great_any _ _ sh lk n cd ents y.w (HWH.out.below (Ext.below B0.out B0.out.size y)) (HEH.out.below (Ext.below B0.out B0.out.size y))).mono fun e w' ⟨h1, h2⟩ => ⟨h1, ⟨w', y.h.trans (h2.mono y.h.size)⟩, rfl⟩)
  by_cases hgt : 300 < n ∨ 4 < ents.length
  case pos =>
    have hg1 : greatI n ents = 1 := by unfold greatI; rw [if_pos hgt]
    rw [hg1] at HGR
    go_wp2_with (first | (go_at_call 10; refine HAW.out.mono ?_; rintro e w' ⟨rfl, y, rfl⟩) | (go_at_call 11; refine (HGR.out _).mono ?_; rintro e w' ⟨rfl, z, rfl⟩))
    go_ret
    exact ⟨rfl, Ext.below B0.out B0.out.size z⟩
  have hg0 : greatI n ents = 0 := by unfold greatI; rw [if_neg hgt]
  rw [hg0] at HGR
  have hn3 : n ≤ 300 := by omega
  have he4 : ents.length ≤ 4 := by omega
  clear hgt hg0
  have HBU := Lib.hid (show ∀ y : Ext V0, _ from fun y : Ext V0 => build_any _ _ sh lk n cd ents task y.w (HT.out.below (Ext.below B0.out B0.out.size y)) ((HWH.out.below (Ext.below B0.out B0.out.size y)).words (by omega)) (HEH.out.below (Ext.below B0.out B0.out.size y)))
  go_upto_region 5 with (first | (go_at_call 10; refine HAW.out.mono ?_; rintro e w' ⟨rfl, y, rfl⟩) | (go_at_call 11; refine (HGR.out _).mono ?_; rintro e w' ⟨rfl, z, rfl⟩))
  have zb := Ext.below B0.out B0.out.size z
  have ZB := Lib.hid zb
  have sz := zb.size
  have sz2 := z.h.size
  clear zb HAW HGR
  go_upto_region 6 with (go_at_call 12; refine (HBU.out z).mono ?_; rintro e W3 h; rcases h with ⟨_, rfl, hb3⟩ | ⟨_, _, rfl, hb3⟩ | ⟨_, k, en, D, bad, _, _, _, _, rfl, hb3⟩ | ⟨hGd, k, en, D, L, bv, pv, rfl, hen, hR, hL, rfl, ⟨bA, bcap, rfl, g1, g2, g3⟩, ⟨pA, pcap, rfl, p1, p2, p3⟩, hb3⟩)
  · go_wp2_with fail
    go_ret
    exact ⟨rfl, (ZB.out.trans (hb3.mono sz)).alloc (by have := hb3.size; omega) _⟩
  · go_wp2_with fail
    go_ret
    exact ⟨rfl, (ZB.out.trans (hb3.mono sz)).alloc (by have := hb3.size; omega) _⟩
  · go_wp2_with fail
    go_ret
    exact ⟨rfl, (ZB.out.trans (hb3.mono sz)).alloc (by have := hb3.size; omega) _⟩
  have hbd := hGd.ch.bounds en (List.mem_of_getElem? hen)
  have GI := Lib.hid (show GInv (insAt cd) en.st en.en D L from hL ▸ GInv.of (by omega) (by omega) hR)
  have hstD : en.st ∈ D := by rcases hR.s with h | h; exact h; cases h
  have HSD := Lib.hid hstD
  have HLL := Lib.hid hL
  have HGd := Lib.hid hGd
  have HEN := Lib.hid hen
  have HVG := Lib.hid (GI.out.valid hstD)
  have HRE := Lib.hid (GI.out.reached hL hstD)
  have hn0 : 0 < L.length := List.length_pos_iff.2 (GI.out.b.ne hstD (by omega))
  have hlen := gBlks_len (insAt cd) L
  have hLn : L.length ≤ 300 := by rw [← hL]; have := blk_len (insAt cd) en.st D (en.en - en.st).toNat; omega
  rw [hlen] at g1 g3 ⊢
  have hplen : (gPrev (insAt cd) L).length = L.length := by simp [gPrev]
  rw [hplen] at p1 p3 ⊢
  have HGB := Lib.hid (show Blks W3 (.slice bA L.length bcap) (gBlks (insAt cd) L) from ⟨bA, bcap, by rw [hlen], by rw [hlen]; exact g1, g2, by rw [hlen]; exact g3⟩)
  have HPB := Lib.hid (show Lls W3 (.slice pA L.length pcap) (gPrev (insAt cd) L) from ⟨pA, pcap, by rw [hplen], by rw [hplen]; exact p1, p2, by rw [hplen]; exact p3⟩)
  clear hR hL hGd hen hstD p3 hlen hplen HBU
  obtain ⟨bb, boff, rfl, hbb, hbc⟩ := g3 hn0
  obtain ⟨lo0, _, _, _, _⟩ := hbc 0 _ (gBlks_at (insAt cd) L hn0)
  rw [GI.out.first HSD.out hn0] at lo0
  simp only [Nat.zero_mul, Nat.add_zero] at lo0
  obtain ⟨X, hX⟩ : ∃ X, W3.alloc (.cells #[.slice (some ⟨bb, boff, none⟩) L.length bcap, .slice pA L.length pcap] 31) = X := ⟨_, rfl⟩
  have bX : Below W3.heap.size W3 X := hX ▸ (Below.refl _ _).alloc (Nat.le_refl _) _
  have kX : X.heap[W3.heap.size]? = some (.cells #[.slice (some ⟨bb, boff, none⟩) L.length bcap, .slice pA L.length pcap] 31) := hX ▸ heap_alloc_new _ _
  have sX : W3.heap.size < X.heap.size := by rw [← hX]; simp
  have s3 := hb3.size
  have BVX := Lib.hid (show Below V0.heap.size V0 X from z.h.trans ((hb3.mono sz2).trans (bX.mono (by omega))))
  have BX := Lib.hid (B0.out.trans (BVX.out.mono (by omega)))
  have KX := Lib.hid kX
  obtain ⟨e', eb, eoff, he', rfl, hebl, q0, q1, q2, q3⟩ := HEH.out.cells BX.out (j := k) ((List.getElem?_eq_some_iff.1 HEN.out).1)
  have ee : e' = en := by rw [HEN.out] at he'; exact (Option.some.inj he').symm
  subst ee
  have hk4 : k < ents.length := (List.getElem?_eq_some_iff.1 HEN.out).1
  have x0 : X.cell? ⟨w.heap.size, 0, none⟩ = some (.slice A n cap) := by rw [BVX.out.cell (p := ⟨w.heap.size, 0, none⟩) s0]; exact y0
  have x1 : X.cell? ⟨w.heap.size, 1, none⟩ = some (.slice (some ⟨eb, eoff, none⟩) ents.length ecap) := by rw [BVX.out.cell (p := ⟨w.heap.size, 1, none⟩) s0]; exact y1
  have r0 : X.cell? ⟨W3.heap.size, 0, none⟩ = some (.slice (some ⟨bb, boff, none⟩) L.length bcap) := by simp [World.cell?, kX]
  have r1 : X.cell? ⟨W3.heap.size, 1, none⟩ = some (.slice pA L.length pcap) := by simp [World.cell?, kX]
  have l0 : X.cell? ⟨bb, boff, none⟩ = some (.int .i64 e'.st) := by rw [bX.cell (p := ⟨bb, boff, none⟩) hbb]; exact lo0
  have GBX := Lib.hid (HGB.out.below bX)
  have PBX := Lib.hid (HPB.out.below bX)
  obtain ⟨qb, hqb⟩ : ∃ qb, W3.heap.size = qb := ⟨_, rfl⟩
  rw [hX]
  rw [hqb] at r0 r1 sX KX ⊢
  have sb1 : w.heap.size < X.heap.size := by have := BVX.out.size; omega
  have sb2 : eb < X.heap.size := by omega
  have sb3 : bb < X.heap.size := by omega
  clear hX bX kX hb3 hbc g3 lo0 he' HGB HPB y0 y1 y2 y3 ZB sz sz2 s3 z
  have HV' := Lib.hid (show ∀ W, Below X.heap.size X W → Calls Tryd.prog 19 #[.agg #[.slice (some ⟨bb, boff, none⟩) L.length bcap, .slice pA L.length pcap]] W fun e w' => e = .returned (.bool true) ∧ ∃ y : Ext X, y.w = w' from fun W hW => (valid_any' _ _ (gBlks (insAt cd) L) (gPrev (insAt cd) L) W (GBX.out.below hW) (PBX.out.below hW) (by rw [gBlks_len]; omega) (gBlks_nx _ _)).mono fun e w' ⟨⟨r, h1, h2⟩, h3⟩ => ⟨by rw [h1, h2.2 HVG.out], ⟨w', hW.trans (h3.mono hW.size)⟩, rfl⟩)
  have HB' := Lib.hid (show ∀ W, Below X.heap.size X W → Calls Tryd.prog 21 #[.agg #[.slice (some ⟨bb, boff, none⟩) L.length bcap, .slice pA L.length pcap]] W fun e w' => ∃ v, e = .returned v ∧ ∃ y : Ext X, y.w = w' ∧ Blks y.w v (gBlks (insAt cd) L) from fun W hW => (blocks_any _ _ (gBlks (insAt cd) L) W (GBX.out.below hW) (by rw [gBlks_len]; omega)).mono fun e w' ⟨⟨v, h1, h2⟩, h3⟩ => ⟨v, h1, ⟨w', hW.trans (h3.mono hW.size)⟩, rfl, h2⟩)
  have HR' := Lib.hid (show ∀ (v : Value) (y : Ext X), Blks y.w v (gBlks (insAt cd) L) → Calls Tryd.prog 22 #[v] y.w fun e w' => e = .returned (.bool true) ∧ ∃ y : Ext X, y.w = w' from fun v y hv => (reached_any v (gBlks (insAt cd) L) y.w hv (by rw [gBlks_len]; omega) (by rw [gBlks_len]; exact hn0) (by
      obtain ⟨zz, hz⟩ := HVG.out.ok
      exact okL_all hz)).mono fun e w' ⟨⟨r, h1, h2⟩, h3⟩ => ⟨by rw [h1, h2.2 HRE.out], ⟨w', y.h.trans (h3.mono y.h.size)⟩, rfl⟩)
  have d1 : decide ((k : Int) < 0) = false := decide_eq_false (by omega)
  have d2 : decide ((ents.length : Int) ≤ (k : Int)) = false := decide_eq_false (by omega)
  have d2' : decide (ents.length ≤ k) = false := decide_eq_false (by omega)
  go_upto_region 8 with fail
  go_cut [60] from 27 to 59 (fun a60 wx => a60 = .bool false ∧ Below X.heap.size X wx)
  case first =>
    refine wp_region_pre 10 (by kernel_rfl) (by kernel_rfl) ?_
    simp only [List.take_succ_cons, List.take_zero]
    go_wp2_with (first | (go_at_call 19; refine (HV'.out _ (by first | exact Below.drew (Below.refl _ _) | exact Ext.h _)).mono ?_; rintro e w' ⟨rfl, y2, rfl⟩) | (go_at_call 21; refine (HB'.out _ (by first | exact Below.drew (Below.refl _ _) | exact Ext.h _)).mono ?_; rintro e w' ⟨v3, rfl, y3, rfl, h3⟩) | (go_at_call 22; refine (HR'.out v3 y3 h3).mono ?_; rintro e w' ⟨rfl, y4, rfl⟩))
    refine PreK.normal ⟨fun w' => ∃ y : Ext X, w' = y.w, ⟨y4, rfl⟩, ?_⟩
    simp only [List.drop_succ_cons, List.drop_zero]
    repeat (go_big_quiet_step (fail))
    refine wpQuiet_nil ?_
    rintro _ ⟨x, rfl⟩
    go_wp2_with fail
    go_meet
    case rel => exact ⟨rfl, x.h⟩
  case rest =>
    obtain ⟨rfl, hBc⟩ := hcut
    have HBc := Lib.hid hBc
    have n0 : wc.cell? ⟨qb, 0, none⟩ = some (.slice (some ⟨bb, boff, none⟩) L.length bcap) := by rw [hBc.cell (p := ⟨qb, 0, none⟩) sX]; exact r0
    clear hBc HV' HB' HR' d1 d2 d2' l0 hbd
    have hbd := HGd.out.ch.bounds e' (List.mem_of_getElem? HEN.out)
    obtain ⟨A', cap', hv', _, _, hcd⟩ := HWH.out.at_
    cases hv'
    obtain ⟨cb, coff, rfl, hcb, hcc⟩ := hcd (by omega)
    have HCC := Lib.hid hcc
    clear hcc hcd
    go_upto_region 11 with fail
    clear n0
    go_loopw [8, 9, 10, 11, 12, 64] (fun a8 a9 a10 a11 a12 a64 wr => ∃ i : Nat, i ≤ L.length ∧ a64 = .int .i64 (i : Int) ∧ Below X.heap.size X wr) (fun _ _ _ _ _ a64 _ => L.length - (intOf a64).toNat)
    case atStart => exact ⟨0, Nat.zero_le _, rfl, HBc.out⟩
    case round =>
      obtain ⟨i, hi, rfl, hb⟩ := hrel
      have HB := Lib.hid hb
      have s6 := hb.size
      clear hb HBc
      by_cases hlt : i < L.length
      · obtain ⟨nv, _, c0, c1, c2, hIx⟩ := gcells GBX.out HB.out hlt
        have HOK := Lib.hid (fun (a : Int) h1 h2 => GI.out.insOK HLL.out hlt (a := a) h1 h2)
        have hlo := GI.out.b.lo _ (List.getElem_mem hlt)
        obtain ⟨lo, hlo'⟩ : ∃ lo, (L[i]).1 = lo := ⟨_, rfl⟩
        obtain ⟨hh, hhi'⟩ : ∃ hh, (L[i]).2 = hh := ⟨_, rfl⟩
        obtain ⟨nx, hnx'⟩ : ∃ nx, nextOf (insAt cd) L i = nx := ⟨_, rfl⟩
        rw [hlo'] at c0 HOK hlo
        rw [hhi'] at c1 HOK hlo
        rw [hnx'] at HOK hIx
        clear hlo' hhi' hnx'
        obtain ⟨NA, ncap, rfl, hn1, hn2⟩ := hIx.slice
        have HIX := Lib.hid hIx
        have dl : decide ((i : Int) < (L.length : Int)) = true := decide_eq_true (by omega)
        clear hIx
        obtain ⟨Y, hY⟩ : ∃ Y, wr.alloc (.cells #[.int .i64 lo, .int .i64 hh, .slice NA nx.length ncap] 51) = Y := ⟨_, rfl⟩
        have bY : Below wr.heap.size wr Y := hY ▸ (Below.refl _ _).alloc (Nat.le_refl _) _
        have kY : Y.heap[wr.heap.size]? = some (.cells #[.int .i64 lo, .int .i64 hh, .slice NA nx.length ncap] 51) := hY ▸ heap_alloc_new _ _
        have o0 : Y.cell? ⟨wr.heap.size, 0, none⟩ = some (.int .i64 lo) := by simp [World.cell?, kY]
        have o1 : Y.cell? ⟨wr.heap.size, 1, none⟩ = some (.int .i64 hh) := by simp [World.cell?, kY]
        have o2 : Y.cell? ⟨wr.heap.size, 2, none⟩ = some (.slice NA nx.length ncap) := by simp [World.cell?, kY]
        have hBY := HB.out.trans (bY.mono s6)
        have HBY := Lib.hid hBY
        have sY : wr.heap.size < Y.heap.size := by rw [← hY]; simp
        have sY2 := hBY.size
        go_upto_region 13 with fail
        clear hY c0 c1 c2 kY bY HB
        obtain ⟨q, hq⟩ : ∃ q, wr.heap.size = q := ⟨_, rfl⟩
        rw [hq] at o0 o1 o2 sY ⊢
        clear hq s6
        have v1 : Y.cell? ⟨w.heap.size, 1, none⟩ = some (.slice (some ⟨eb, eoff, none⟩) ents.length ecap) := by rw [hBY.cell (p := ⟨w.heap.size, 1, none⟩) sb1]; exact x1
        have v2 : Y.cell? ⟨eb, eoff + k * 4 + 1, none⟩ = some (.int .i64 e'.st) := by rw [hBY.cell (p := ⟨eb, _, none⟩) sb2]; exact q1
        have v3 : Y.cell? ⟨eb, eoff + k * 4 + 2, none⟩ = some (.int .i64 e'.en) := by rw [hBY.cell (p := ⟨eb, _, none⟩) sb2]; exact q2
        have g1' : decide (lo < e'.st) = false := decide_eq_false (by omega)
        have g2' : decide (e'.en < hh) = false := decide_eq_false (by omega)
        have t1 : w.heap.size < Y.heap.size := by omega
        have t2 : eb < Y.heap.size := by omega
        clear hBY
        go_cut [88] from 69 to 87 (fun a88 wx => a88 = .bool false ∧ Below Y.heap.size Y wx)
        case first =>
          refine wp_region_ext (by kernel_rfl) (by kernel_rfl) ?_
          repeat (go_big_quiet_step (fail))
          refine wpQuiet_nil ?_
          rintro _ ⟨x, rfl⟩
          go_wp2_with fail
          go_meet
          case rel => exact ⟨rfl, x.h⟩
        case rest =>
          obtain ⟨rfl, hBc⟩ := hcut
          have HBc := Lib.hid hBc
          have p0 : wc.cell? ⟨q, 0, none⟩ = some (.int .i64 lo) := by rw [hBc.cell (p := ⟨q, 0, none⟩) sY]; exact o0
          clear hBc v1 v2 v3 g1' g2'
          go_upto_region 16 with fail
          clear p0
          have sc := HBc.out.size
          go_loopw [10, 11, 12] (fun a10 a11 a12 wx => ∃ a : Nat, lo ≤ (a : Int) ∧ (a : Int) ≤ hh ∧ a10 = .int .i64 (a : Int) ∧ Below wc.heap.size wc wx) (fun a10 _ _ _ => (hh - intOf a10).toNat)
          case atStart => exact ⟨lo.toNat, by omega, by omega, by rw [Int.toNat_of_nonneg (by omega)], Below.refl _ _⟩
          case round =>
            obtain ⟨a, ha1, ha2, rfl, hb⟩ := hrel
            have s7 := hb.size
            have hYr := HBc.out.trans (hb.mono sc)
            have hXr := HBY.out.trans (hYr.mono sY2)
            have hwr := BX.out.trans (hXr.mono (by have := BX.out.size; omega))
            have HYR := Lib.hid hYr
            have HXR := Lib.hid hXr
            have HWR := Lib.hid hwr
            have HB := Lib.hid hb
            have p0 : wr.cell? ⟨q, 0, none⟩ = some (.int .i64 lo) := by rw [hYr.cell (p := ⟨q, 0, none⟩) sY]; exact o0
            have p1 : wr.cell? ⟨q, 1, none⟩ = some (.int .i64 hh) := by rw [hYr.cell (p := ⟨q, 1, none⟩) sY]; exact o1
            have p2 : wr.cell? ⟨q, 2, none⟩ = some (.slice NA nx.length ncap) := by rw [hYr.cell (p := ⟨q, 2, none⟩) sY]; exact o2
            by_cases hlt2 : (a : Int) < hh
            · have hok := HOK.out (a : Int) ha1 hlt2
              have hoki := HGd.out.ins e' (List.mem_of_getElem? HEN.out) a (by omega) (by omega)
              have han : a < n := by omega
              have u0 : wr.cell? ⟨w.heap.size, 0, none⟩ = some (.slice (some ⟨cb, coff, none⟩) n cap) := by rw [hXr.cell (p := ⟨w.heap.size, 0, none⟩) sb1]; exact x0
              have u1 : wr.cell? ⟨cb, coff + a, none⟩ = some (.int .u32 (cd a)) := by rw [hwr.cell (p := ⟨cb, _, none⟩) hcb]; exact HCC.out a han
              have hdec := hoki.dec
              have HDE := Lib.hid (decode_any (cd a) (HWH.out.wd a han).1 (HWH.out.wd a han).2 wr (HT.out.below hwr))
              obtain ⟨it, hit⟩ : ∃ it, insAt cd (a : Int) = it := ⟨_, rfl⟩
              have hdi : (decI (cd a)).1 = it := by rw [← hit]; simp [insAt]
              have hde : (decI (cd a)).2 = 0 := by simpa using hdec
              simp only [hdi, hde, Ins.val] at HDE
              obtain ⟨m1, m2, m3, m4⟩ := hok
              rw [hit] at m1 m2 m3 m4
              obtain ⟨op, ia, ib, ic, imm⟩ := it
              simp only at HDE m1 m2 m3 m4
              have HIB := Lib.hid (fun W : World => isBranch_any op W)
              obtain ⟨br, hbr⟩ : ∃ br, isBr op = br := ⟨_, rfl⟩
              rw [hbr] at HIB m1 m4
              have M1 := Lib.hid m1
              have M2 := Lib.hid m2
              have M3 := Lib.hid m3
              have M4 := Lib.hid m4
              have da : decide ((a : Int) < hh) = true := decide_eq_true hlt2
              clear hb hYr hXr hwr hoki hdec hit hdi hde m1 m2 m3 m4 hbr
              go_upto_region 19 with (go_at_call 23; refine HDE.out.mono ?_; rintro e W9 ⟨rfl, hb9⟩)
              obtain ⟨Z, hZ⟩ : ∃ Z, W9.alloc (.cells #[.int .u8 op, .int .i64 ia, .int .i64 ib, .int .i64 ic, .int .i64 imm] 53) = Z := ⟨_, rfl⟩
              have bZ : Below W9.heap.size W9 Z := hZ ▸ (Below.refl _ _).alloc (Nat.le_refl _) _
              have kZ : Z.heap[W9.heap.size]? = some (.cells #[.int .u8 op, .int .i64 ia, .int .i64 ib, .int .i64 ic, .int .i64 imm] 53) := hZ ▸ heap_alloc_new _ _
              have i0 : Z.cell? ⟨W9.heap.size, 0, none⟩ = some (.int .u8 op) := by simp [World.cell?, kZ]
              have hrZ : Below wr.heap.size wr Z := hb9.trans (bZ.mono hb9.size)
              have sZ : W9.heap.size < Z.heap.size := by rw [← hZ]; simp
              rw [hZ]
              obtain ⟨zb, hzb⟩ : ∃ zb, W9.heap.size = zb := ⟨_, rfl⟩
              rw [hzb] at i0 sZ ⊢
              have z0 : Z.cell? ⟨q, 0, none⟩ = some (.int .i64 lo) := by rw [hrZ.cell (p := ⟨q, 0, none⟩) (by show q < _; omega)]; exact p0
              have z1 : Z.cell? ⟨q, 1, none⟩ = some (.int .i64 hh) := by rw [hrZ.cell (p := ⟨q, 1, none⟩) (by show q < _; omega)]; exact p1
              have z2 : Z.cell? ⟨q, 2, none⟩ = some (.slice NA nx.length ncap) := by rw [hrZ.cell (p := ⟨q, 2, none⟩) (by show q < _; omega)]; exact p2
              have HBZ := Lib.hid (HB.out.trans (hrZ.mono s7))
              have hXZ := HXR.out.trans (hrZ.mono (by omega))
              have HXZ := Lib.hid hXZ
              have sZ2 := hXZ.size
              have sqZ : q < Z.heap.size := by have := hrZ.size; omega
              have wh : IntKind.i64.wrap (hh - 1) = hh - 1 := IntWalk.i64_in _ (by omega)
              clear hZ bZ kZ hb9 hzb hrZ HDE u0 u1 p0 p1 p2 HYR HWR HXR hXZ da
              go_cut [140] from 106 to 139 (fun a140 wx => a140 = .bool false ∧ wx = Z)
              case first =>
                rcases Classical.em ((a : Int) < hh - 1) with hA | hA
                · obtain ⟨rfl, hn1', hn2'⟩ := M1.out hA
                  have f1 : decide ((a : Int) < hh - 1) = true := decide_eq_true hA
                  have f2 : (op == 1) = false := beq_eq_false_iff_ne.2 hn1'
                  have f3 : (op == 29) = false := beq_eq_false_iff_ne.2 hn2'
                  rcases Classical.em (lo < (a : Int)) with hC | hC
                  · have f4 : decide (lo < (a : Int)) = true := decide_eq_true hC
                    have f5 : (op == 28) = false := beq_eq_false_iff_ne.2 (M2.out hC)
                    clear hA hC hn1' hn2'
                    go_wp2_with (go_at_call 24; refine (HIB.out _).mono ?_; rintro e w' ⟨rfl, rfl⟩)
                    go_meet
                    case rel => exact ⟨rfl, rfl⟩
                  · have f4 : decide (lo < (a : Int)) = false := decide_eq_false hC
                    clear hA hC hn1' hn2'
                    go_wp2_with (go_at_call 24; refine (HIB.out _).mono ?_; rintro e w' ⟨rfl, rfl⟩)
                    go_meet
                    case rel => exact ⟨rfl, rfl⟩
                · have f1 : decide ((a : Int) < hh - 1) = false := decide_eq_false hA
                  rcases Classical.em (lo < (a : Int)) with hC | hC
                  · have f4 : decide (lo < (a : Int)) = true := decide_eq_true hC
                    have f5 : (op == 28) = false := beq_eq_false_iff_ne.2 (M2.out hC)
                    clear hA hC
                    go_wp2_with fail
                    go_meet
                    case rel => exact ⟨rfl, rfl⟩
                  · have f4 : decide (lo < (a : Int)) = false := decide_eq_false hC
                    clear hA hC
                    go_wp2_with fail
                    go_meet
                    case rel => exact ⟨rfl, rfl⟩
              case rest =>
                obtain ⟨rfl, rfl⟩ := hcut
                rcases Classical.em ((a : Int) < hh - 1) with hA | hA
                · have f1 : decide ((a : Int) < hh - 1) = true := decide_eq_true hA
                  clear hA
                  go_wp2_with fail
                  go_roundw
                  case rel => exact ⟨a + 1, by omega, by omega, by go_num, HBZ.out⟩
                  case measure => simp [intOf]; omega
                have f1 : decide ((a : Int) < hh - 1) = false := decide_eq_false hA
                have hlast : (a : Int) = hh - 1 := by omega
                cases br
                case true =>
                  clear hA hlast
                  go_wp2_with (go_at_call 24; refine (HIB.out _).mono ?_; rintro e w' ⟨rfl, rfl⟩)
                  go_roundw
                  case rel => exact ⟨a + 1, by omega, by omega, by go_num, HBZ.out⟩
                  case measure => simp [intOf]; omega
                case false =>
                  by_cases hop : op = 1
                  · have f2 : (op == 1) = true := beq_iff_eq.2 hop
                    have hnx := M3.out hlast hop
                    have f3 : ((nx.length : Int) == 0) = true := by rw [hnx]; rfl
                    clear hA hlast hop hnx
                    go_wp2_with (go_at_call 24; refine (HIB.out _).mono ?_; rintro e w' ⟨rfl, rfl⟩)
                    go_roundw
                    case rel => exact ⟨a + 1, by omega, by omega, by go_num, HBZ.out⟩
                    case measure => simp [intOf]; omega
                  · have f2 : (op == 1) = false := beq_eq_false_iff_ne.2 hop
                    obtain ⟨hnx, hi1, hi2⟩ := M4.out hlast rfl hop
                    have f3 : ((nx.length : Int) == 1) = true := by rw [hnx]; rfl
                    have f3' : (nx.length == 1) = true := by rw [hnx]; rfl
                    have f3'' : decide (nx.length = 1) = true := by rw [hnx]; rfl
                    have f3q : ((nx.length : Int) != 1) = false := by rw [hnx]; rfl
                    have f3r : (nx.length != 1) = false := by rw [hnx]; rfl
                    have f3s : decide ((nx.length : Int) ≤ 0) = false := by rw [hnx]; rfl
                    obtain ⟨s, nb, noff, hs, rfl, hnb, x1'⟩ := HIX.out.at_ HXZ.out (j := 0) (by rw [hnx]; simp)
                    rw [hnx] at hs
                    have hs' : ((i + 1 : Nat) : Int) = s := by simpa using hs
                    rw [Nat.add_zero] at x1'
                    obtain ⟨nv2, _, e0, _, _, _⟩ := gcells GBX.out HXZ.out hi1
                    rw [hi2] at e0
                    obtain ⟨i1, hi1'⟩ : ∃ i1, i + 1 = i1 := ⟨_, rfl⟩
                    rw [hi1'] at hs' e0 hi1
                    subst hs'
                    have wk : IntKind.i64.wrap ((i : Int) + 1) = (i1 : Int) := by rw [IntWalk.i64_in _ (by omega)]; omega
                    have j0 : (0 : Int) < (nx.length : Int) := by rw [hnx]; simp
                    have r0' : wc.cell? ⟨qb, 0, none⟩ = some (.slice (some ⟨bb, boff, none⟩) L.length bcap) := by rw [HXZ.out.cell (p := ⟨qb, 0, none⟩) sX]; exact r0
                    have hnbZ : nb < wc.heap.size := by omega
                    have hbbZ : bb < wc.heap.size := by omega
                    have hqbZ : qb < wc.heap.size := by omega
                    clear hA hlast hop hnx hi2 hs hi1'
                    go_upto_region 25 with (go_at_call 24; refine (HIB.out _).mono ?_; rintro e w' ⟨rfl, rfl⟩)
                    refine wp_region_ext (by kernel_rfl) (by kernel_rfl) ?_
                    repeat (go_big_quiet_step (fail))
                    refine wpQuiet_nil ?_
                    rintro _ ⟨y, rfl⟩
                    have hyb := y.h
                    go_wp2_with fail
                    go_roundw
                    case rel => exact ⟨a + 1, by omega, by omega, by go_num, HBZ.out.trans (hyb.mono HBZ.out.size)⟩
                    case measure => simp [intOf]; omega
            · have da : decide ((a : Int) < hh) = false := decide_eq_false hlt2
              clear hb hYr hXr hwr
              go_wp2_with fail
              go_roundw
              case rel => exact ⟨i + 1, by omega, by go_num, HXR.out⟩
              case measure => simp [intOf]; omega
      · obtain rfl : i = L.length := by omega
        have dl : decide ((L.length : Int) < (L.length : Int)) = false := by simp
        go_wp2_with fail
        go_ret
        exact ⟨rfl, BX.out.trans (HB.out.mono (by have := BX.out.size; omega))⟩

end Go.Proofs.YtfceodpdipniaaaDoor
