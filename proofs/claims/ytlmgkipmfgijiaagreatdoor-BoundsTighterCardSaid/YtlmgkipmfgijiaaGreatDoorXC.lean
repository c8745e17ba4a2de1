/-
  What is proved here: parts lTi.
-/
import Derived.Test.YtlmgkipmfgijiaaGreatDoorXa
import Derived.Test.YtlmgkipmfgijiaaGreatDoorXB
import Derived.Test.YtlmgkipmfgijiaaGreatDoorXw
import Derived.Test.YtlmgkipmfgijiaaGreatDoorXs
import Derived.Test.YtlmgkipmfgijiaaGreatDoorXb
import Derived.BigRegion
import Derived.BigQuiet
import Derived.Deep.RegionHeld3
namespace Go.Proofs.YtlmgkipmfgijiaaGreatDoor
set_option linter.unusedVariables false
set_option linter.unusedSimpArgs false
set_option maxRecDepth 100000
set_option maxHeartbeats 8000000
section
open Go.RowKit
structure aab (y : Int) (n : Nat) (cd : Nat → Int) (j : Nat) (ws : List Int) : Prop where
 len : ws.length = n
 at_ : ∀ i, i < n → ws.getD i 0 = if i < j then wI y (cd i) else cd i
theorem aab.start (y : Int) (n : Nat) (cd : Nat → Int) : aab y n cd 0 ((List.range n).map cd) :=
 ⟨by simp, fun i hi => by simp [List.getD, hi]⟩
theorem aab.skip {y : Int} {n : Nat} {cd : Nat → Int} {j : Nat} {ws : List Int} (h : aab y n cd j ws) (hs : wI y (cd j) = cd j) : aab y n cd (j + 1) ws :=
 ⟨h.len, fun i hi => by
  rw [h.at_ i hi]
  by_cases h1 : i < j
  ·rw [if_pos h1, if_pos ahU]
  ·by_cases h2 : i = j
   ·subst h2
    rw [if_neg h1, if_pos ahU, hs]
   ·rw [if_neg h1, if_neg ahU]⟩
theorem aab.set {y : Int} {n : Nat} {cd : Nat → Int} {j : Nat} {ws : List Int} (h : aab y n cd j ws) (hj : j < n) {x : Int} (hx : wI y (cd j) = x) : aab y n cd (j + 1) (ws.set j x) :=
 ⟨by rw [List.length_set]; exact h.len, fun i hi => by
  by_cases h2 : i = j
  ·subst h2
   rw [if_pos ahU, hx]
   simp [List.getD, h.len, hj]
  ·have e : (ws.set j x).getD i 0 = ws.getD i 0 := by simp [List.getD, List.getElem?_set, Ne.symm h2]
   rw [e, h.at_ i hi]
   by_cases h1 : i < j
   ·rw [if_pos h1, if_pos ahU]
   ·rw [if_neg h1, if_neg ahU]⟩
theorem aab.done {y : Int} {n : Nat} {cd : Nat → Int} {ws : List Int} (h : aab y n cd n ws) : N7 y n cd (fun i => ws.getD i 0) := fun a ha => by
 show ws.getD a 0 = _
 rw [h.at_ a ha, if_pos ha]
theorem aab.Vz {y : Int} (hy : 0 ≤ y) {n : Nat} {cd : Nat → Int} {ws : List Int} (hw : ∀ i, i < n → 0 ≤ cd i ∧ cd i < 4294967296) (h : aab y n cd n ws) : ∀ x ∈ ws, 0 ≤ x ∧ x < 4294967296 := fun x hx => by
 obtain ⟨i, hi, rfl⟩ := List.mem_iff_getElem.1 hx
 have h1 := h.at_ i (by rw [← h.len]; exact hi)
 rw [show ws.getD i 0 = ws[i] by simp [List.getD, hi], if_pos (by rw [← h.len]; exact hi)] at h1
 rw [h1]
 exact V9 hy (hw i (by rw [← h.len]; exact hi))
theorem aat {y x : Int} (h : ¬ ((bk x).2 = 0 ∧ (bk x).1.op = 25 ∧ (bk x).1.aP + y ≤ 131071)) : wI y x = x := by
 unfold wI
 rw [if_neg h]
theorem aan (w : World) : Calls Tryz.prog 13 #[.agg #[.slice none 0 0, .slice none 0 0]] w fun e w' => e = .returned (.tuple #[.slice none 0 0, .int .i64 (-1), .int .i64 3]) ∧ Below w.heap.size w w' := by
 obtain ⟨V, hV⟩ : ∃ V, w.alloc (.cells #[.slice none 0 0, .slice none 0 0] 31) = V := ⟨_, rfl⟩
 have bV : Below w.heap.size w V := hV ▸ (Below.refl _ _).alloc (Nat.le_refl _) _
 have kV : V.heap[w.heap.size]? = some (.cells #[.slice none 0 0, .slice none 0 0] 31 (0, 0)) := hV ▸ heap_alloc_new _ _
 have c0 : V.cell? ⟨w.heap.size, 0, none⟩ = some (.slice none 0 0) := by simp [World.cell?, kV]
 have c1 : V.cell? ⟨w.heap.size, 1, none⟩ = some (.slice none 0 0) := by simp [World.cell?, kV]
 have lV := aB kV
 have lD := aiU (show Calls Tryz.prog 35 #[.agg #[.slice none 0 0, .slice none 0 0]] V fun e w' => e = .returned (.bool false) ∧ Below V.heap.size V w' from
  (jU (.slice none 0 0) (.slice none 0 0) [] [] V ⟨none, 0, rfl, Nat.le_refl _, by unfold maxLen; omega, fun h => by simp at h⟩ ⟨none, 0, rfl, Nat.le_refl _, by unfold maxLen; omega, fun h => by simp at h⟩ ahZ ahZ).mono fun e w' ⟨⟨r, h1, h2⟩, h3⟩ => by
   have hr : r = false := by
    cases r with
    | false => rfl
    | true => exact (h2.1 rfl).nil.elim
   rw [hr] at h1
   exact ⟨h1, h3⟩)
 have BV := aiU bV
 clear bV kV
 go_enter Tryz.func13, Tryz.ntmps13
 go_wp2_with (go_at_call 35; refine lD.out.mono ?_; rintro e W1 ⟨rfl, hb1⟩)
 go_ret3
 exact ⟨by first | rfl | assumption, BV.out.trans (hb1.mono BV.out.size)⟩
theorem aal (AZ : qW) (cv ev : Value) (sh lk : Int) (n : Nat) (cd : Nat → Int) (aC : List gR) (task : Int) (y : Int) (hy0 : 0 ≤ y) (hy1 : y < 256) (w : World) (T : gZ w) (HW : kA w cv n cd) (HE : nM w ev aC) :
  Calls Tryz.prog 6 #[.agg #[cv, ev, .int .i64 sh, .int .i64 lk], .int .i64 task, .int .u8 y] w fun e w' => e = .returned (.bool true) ∧ Below w.heap.size w w' := by
 obtain ⟨CA, cX, hcv, hc1, hc2, -⟩ := HW.at_
 obtain ⟨EA, dS, hev, -, -, -⟩ := HE.at_
 subst hcv hev
 obtain ⟨m, hm⟩ : ∃ m, aC.length = m := ⟨_, rfl⟩
 rw [hm] at HE ⊢
 obtain ⟨V, hV⟩ : ∃ V, w.alloc (.cells #[.slice CA n cX, .slice EA m dS, .int .i64 sh, .int .i64 lk] 25) = V := ⟨_, rfl⟩
 obtain ⟨q3, hq3⟩ : ∃ q, w.heap.size = q := ⟨_, rfl⟩
 have bV : Below w.heap.size w V := hV ▸ (Below.refl _ _).alloc (Nat.le_refl _) _
 have kV : V.heap[q3]? = some (.cells #[.slice CA n cX, .slice EA m dS, .int .i64 sh, .int .i64 lk] 25 (0, 0)) := by rw [← hq3]; exact hV ▸ heap_alloc_new _ _
 have HAW := aiU (Bj AZ V (T.below bV))
 have BV := aiU bV
 have KV := aiU kV
 have TV := aiU (T.below bV)
 have TW := aiU T
 have NP := aiU (HW.Bi bV)
 have Rj := aiU (HE.below bV)
 have Vg := aiU (And.intro hc1 hc2)
 have LV := aiU (aB kV)
 have HQ3 := aiU hq3
 clear bV kV T HW HE hc1 hc2 hm
 go_enter Tryz.func6, Tryz.ntmps6
 go_wp2_with fail
 refine HAW.out.mono ?_
 rintro e W1 ⟨rfl, hb1⟩
 have B1 := aiU hb1
 obtain ⟨a0, a1, a2, a3, a4⟩ := cK ((hb1.block q3 LV.out).trans KV.out)
 have Wq := aiU (Dr (.slice CA n cX) (.slice EA m dS) sh lk n cd aC W1 (NP.out.Bi hb1) (Rj.out.below hb1))
 have xk := aiU (BV.out.trans (hb1.mono BV.out.size))
 clear hb1 hV hq3
 go_wp2_with fail
 refine Wq.out.mono ?_
 rintro e W2 ⟨rfl, hb2⟩
 obtain ⟨c0, c1, c2, c3, c4⟩ : W2.cell? ⟨q3, 0, none⟩ = _ ∧ W2.cell? ⟨q3, 1, none⟩ = _ ∧ W2.cell? ⟨q3, 2, none⟩ = _ ∧ W2.cell? ⟨q3, 3, none⟩ = _ ∧ q3 < W2.heap.size := ⟨(hb2.cell (p := ⟨q3, 0, none⟩) a4).trans a0, (hb2.cell (p := ⟨q3, 1, none⟩) a4).trans a1, (hb2.cell (p := ⟨q3, 2, none⟩) a4).trans a2, (hb2.cell (p := ⟨q3, 3, none⟩) a4).trans a3, by have := hb2.size; omega⟩
 have B2 := aiU (B1.out.trans (hb2.mono B1.out.size))
 have BW2 := aiU (xk.out.trans (hb2.mono xk.out.size))
 clear hb2 a0 a1 a2 a3 a4
 by_cases hsm : vE n aC sh
 case neg =>
  obtain ⟨r, hr⟩ : ∃ r, oV n aC sh = r := ⟨_, rfl⟩
  have hr0 : r = 0 := by rw [← hr]; unfold oV; rw [if_neg hsm]
  rw [hr]
  subst hr0
  clear hr hsm
  go_wp2_with fail
  go_ret
  exact ⟨rfl, BW2.out⟩
 obtain ⟨r, hr⟩ : ∃ r, oV n aC sh = r := ⟨_, rfl⟩
 have hr0 : r = 1 := by rw [← hr]; unfold oV; rw [if_pos hsm]
 rw [hr]
 subst hr0
 have aeD := hsm.1
 have Um := aiU ((NP.out.Bi B2.out).words ahU)
 have Ro := aiU (Be (.slice CA n cX) (.slice EA m dS) sh lk n cd aC task W2 (TV.out.below B2.out) Um.out (Rj.out.below B2.out))
 clear hr hsm
 go_wp2_with fail
 refine Ro.out.mono ?_
 rintro e W3 ⟨h, hb3⟩
 have B23 := aiU hb3
 have Vq := aiU (BW2.out.trans (hb3.mono BW2.out.size))
 obtain ⟨d0, d1, d2, d3, d4⟩ : W3.cell? ⟨q3, 0, none⟩ = _ ∧ W3.cell? ⟨q3, 1, none⟩ = _ ∧ W3.cell? ⟨q3, 2, none⟩ = _ ∧ W3.cell? ⟨q3, 3, none⟩ = _ ∧ q3 < W3.heap.size := ⟨(hb3.cell (p := ⟨q3, 0, none⟩) c4).trans c0, (hb3.cell (p := ⟨q3, 1, none⟩) c4).trans c1, (hb3.cell (p := ⟨q3, 2, none⟩) c4).trans c2, (hb3.cell (p := ⟨q3, 3, none⟩) c4).trans c3, by have := hb3.size; omega⟩
 clear hb3 c0 c1 c2 c3 c4 Ro
 rcases h with ⟨-, hy⟩ | ⟨-, hno⟩
 case inr =>
  obtain ⟨at_, er, her, rfl⟩ := hno
  have der : (er != 0) = true := by simpa using her
  have FC := aiU aan
  clear her
  go_wp2_with (go_at_call 13; refine (FC.out _).mono ?_; rintro e W4 ⟨rfl, hb4⟩)
  go_ret
  have hB := Vq.out.alloc Vq.out.size (.cells #[.slice none 0 0, .slice none 0 0] 31)
  exact ⟨rfl, hB.trans (hb4.mono hB.size)⟩
 obtain ⟨k, en, G, P, GA, PA, gc, pc, rfl, hg, rfl, hGb, hPl, -⟩ := hy
 have Td := List.length_pos_iff.2 hg.val.ne
 have Yg := hg.len
 have hn0 : 0 < n := by omega
 obtain ⟨gn, hgn⟩ : ∃ m, G.length = m := ⟨_, rfl⟩
 obtain ⟨pn, yu⟩ : ∃ m, P.length = m := ⟨_, rfl⟩
 obtain ⟨b7, hb7⟩ : ∃ b, W3.heap.size = b := ⟨_, rfl⟩
 obtain ⟨X, hX⟩ : ∃ X, W3.alloc (.cells #[.slice GA gn gc, .slice PA pn pc] 31) = X := ⟨_, rfl⟩
 rw [hgn, yu]
 go_upto_region 6 with fail
 (try rw [hX])
 have bX : Below W3.heap.size W3 X := hX ▸ (Below.refl _ _).alloc (Nat.le_refl _) _
 have kX : X.heap[b7]? = some (.cells #[.slice GA gn gc, .slice PA pn pc] 31 (0, 0)) := by rw [← hb7, ← hX]; exact heap_alloc_new _ _
 (try rw [hb7])
 have HLF := aiU (Eb (.slice GA gn gc) (.slice PA pn pc) G P X (by rw [← hgn]; exact hGb.below bX) (by rw [← yu]; exact hPl.below bX) hg.val ahU)
 have KX := aiU kX
 have Ri := aiU (show fL X (.slice GA gn gc) G by rw [← hgn]; exact hGb.below bX)
 have xe := aiU (show mG X (.slice PA pn pc) P by rw [← yu]; exact hPl.below bX)
 have HG := aiU hg
 have eP := aiU hgn
 have af7 : gn ≤ n := by rw [← hgn]; exact Yg
 have x0 := (bX.cell (p := ⟨q3, 0, none⟩) d4).trans d0
 have x1 := (bX.cell (p := ⟨q3, 1, none⟩) d4).trans d1
 have x2 := (bX.cell (p := ⟨q3, 2, none⟩) d4).trans d2
 have x3 := (bX.cell (p := ⟨q3, 3, none⟩) d4).trans d3
 have l3 : q3 < X.heap.size := by have := bX.size; omega
 have l7 : b7 < X.heap.size := aB kX
 have n37 : q3 < b7 := by omega
 have g0 : X.cell? ⟨b7, 0, none⟩ = some (.slice GA gn gc) := by simp [World.cell?, kX]
 have g1 : X.cell? ⟨b7, 1, none⟩ = some (.slice PA pn pc) := by simp [World.cell?, kX]
 have B2X := aiU (B23.out.trans (bX.mono B23.out.size))
 have BWX := aiU (Vq.out.trans (bX.mono Vq.out.size))
 clear hX bX kX hb7 hGb hPl hg hgn yu d0 d1 d2 d3 d4 Td
 go_wp2_with fail
 refine HLF.out.mono ?_
 rintro e W4 ⟨⟨D, hT, h⟩, hb4⟩
 have BX4 := aiU hb4
 have BW4 := aiU (BWX.out.trans (hb4.mono BWX.out.size))
 rcases h with ⟨lv, L, rfl, hLp, Tp⟩ | ⟨tg, rfl, -⟩
 case inr =>
  go_wp2_with fail
  go_ret
  exact ⟨rfl, BW4.out⟩
 obtain ⟨LA, lc, hlv, lc1, lc2⟩ := hLp.slice
 subst hlv
 obtain ⟨ln, Eo⟩ : ∃ m, L.length = m := ⟨_, rfl⟩
 have Ki := aiU (show L.length ≤ G.length from Tp.len HG.out.val)
 have Kj := aiU (Tp.Ah aib HG.out.nx2)
 have HLP := aiU hLp
 have FC := aiU Eo
 rw [Eo] at lc1 HLP
 rw [Eo]
 have y0 := (hb4.cell (p := ⟨q3, 0, none⟩) l3).trans x0
 have y1 := (hb4.cell (p := ⟨q3, 1, none⟩) l3).trans x1
 have y2 := (hb4.cell (p := ⟨q3, 2, none⟩) l3).trans x2
 have y3 := (hb4.cell (p := ⟨q3, 3, none⟩) l3).trans x3
 have m3 : q3 < W4.heap.size := by have := hb4.size; omega
 have m7 : b7 < W4.heap.size := by have := hb4.size; omega
 have h0 := (hb4.cell (p := ⟨b7, 0, none⟩) l7).trans g0
 have h1 := (hb4.cell (p := ⟨b7, 1, none⟩) l7).trans g1
 have HH := aiU (And.intro h0 h1)
 clear hb4 hLp Tp hT Eo x0 x1 x2 x3 g0 g1 l3 l7 h0 h1
 go_upto_region 10 with fail
 obtain ⟨b13, aaC⟩ : ∃ b, W4.heap.size = b := ⟨_, rfl⟩
 obtain ⟨Y, hY⟩ : ∃ Y, W4.alloc (.cells #[.slice CA n cX, .slice EA m dS, .int .i64 sh, .int .i64 lk] 25) = Y := ⟨_, rfl⟩
 rw [hY]
 have bY : Below W4.heap.size W4 Y := hY ▸ (Below.refl _ _).alloc (Nat.le_refl _) _
 have kY : Y.heap[b13]? = some (.cells #[.slice CA n cX, .slice EA m dS, .int .i64 sh, .int .i64 lk] 25 (0, 0)) := by rw [← aaC, ← hY]; exact heap_alloc_new _ _
 rw [aaC]
 have l13 : b13 < Y.heap.size := aB kY
 have lz3 : q3 < Y.heap.size := by have := bY.size; omega
 have z0 := (bY.cell (p := ⟨q3, 0, none⟩) m3).trans y0
 have BH := aiU (B2X.out.trans ((BX4.out.trans (bY.mono BX4.out.size)).mono B2X.out.size))
 have BY := aiU bY
 obtain ⟨A', cap', hv', _, _, hcd⟩ := Um.out.at_
 cases hv'
 obtain ⟨cb, YN, rfl, hcb, hcc⟩ := hcd hn0
 have HCC := aiU hcc
 have n0 : Y.cell? ⟨b13, 0, none⟩ = some (.slice (some ⟨cb, YN, none⟩) n cX) := by simp [World.cell?, kY]
 have n0f : Y.frozen? ⟨b13, 0, none⟩ = false := by simp [World.frozen?, kY]
 have KY := aiU kY
 have aaF : (MH ((List.range n).map cd)).length = n * 1 := by simp [MH]
 have aaM := aiU (show ∀ j u, (MH ((List.range n).map cd))[j]? = some u → (Y.alloc (.cells #[] 70)).cell? ((⟨cb, YN, none⟩ : Addr).add j) = some u from fun j u hu => by
  have hj : j < n := by have := (List.getElem?_eq_some_iff.1 hu).1; omega
  rw [aaA, ((BH.out.alloc BH.out.size _).cell (p := ⟨cb, YN + j, none⟩) hcb), HCC.out j hj, ← hu]
  simp [MH, List.getElem?_range hj])
 have aaN := aiU (World.ownsRow_made (e := 70) (size := 1) Y #[] 0 (Nat.le_refl Y.heap.size) (Nat.zero_le _) rfl)
 obtain ⟨iU, hiU, hU0, hU1, yE⟩ := info_parts Sy
 clear hcc hcd kY bY hY
 go_upto_region 11 with (at_builtin; refine wpList_append_own_at _ rfl (.tmp 49) (.tmp 51) 22 rfl Y.heap.size 70 iU (.int .u32 0) 1 4 Tryz.underlying22 hiU hU0 hU1 yE rfl ahW (.slice (some ⟨Y.heap.size, 0, none⟩) 0 0) 0 [] rfl aaN.out ⟨cb, YN, none⟩ n cX (MH ((List.range n).map cd)) rfl aaF aaM.out (aay _) ahY ahU ahZ ?_; intro v' W' hown' hgrow _ j6; rw [Nat.zero_add, List.nil_append] at hown'; obtain ⟨gb, cp', rfl, hgb⟩ := aax hown' hn0; have hc0 := hgrow.cell (a := ⟨b13, 0, none⟩) (v := .slice (some ⟨cb, YN, none⟩) n cX) ah8 aiu; have hf0 : W'.frozen? ⟨b13, 0, none⟩ = false := by have h1 := hgrow.block b13 ah6 aiu; rw [heap_alloc_old _ _ l13, KY.out] at h1; simp [World.frozen?, h1])
 obtain ⟨Z, hZ⟩ : ∃ Z, W'.setCell ⟨b13, 0, none⟩ (.slice (some ⟨gb, 0, none⟩) n cp') = Z := ⟨_, rfl⟩
 rw [hZ]
 have aaJ := hgrow.size
 rw [World.size_alloc] at aaJ
 have hWb : ∀ b, b < Y.heap.size → W'.heap[b]? = Y.heap[b]? := fun b hb => by
  rw [hgrow.block b ah6 aiu, heap_alloc_old _ _ hb]
 have bW : Below Y.heap.size Y W' := ⟨hgrow.os, hgrow.tape, hgrow.output, by omega, hWb⟩
 have kW : W'.heap[b13]? = some (.cells #[.slice (some ⟨cb, YN, none⟩) n cX, .slice EA m dS, .int .i64 sh, .int .i64 lk] 25 (0, 0)) := by rw [hWb _ l13]; exact KY.out
 have KZ := aiU (show Z.heap[b13]? = some (.cells #[.slice (some ⟨gb, 0, none⟩) n cp', .slice EA m dS, .int .i64 sh, .int .i64 lk] 25 (0, 0)) by
  rw [← hZ, heap_setCell_same W' b13 0 _ _ _ kW]
  rfl)
 have b4Z : Below W4.heap.size W4 Z := by
  rw [← hZ]
  exact (BY.out.trans (bW.mono BY.out.size)).setCell (p := ⟨b13, 0, none⟩) (by show W4.heap.size ≤ b13; omega) _
 have Zw := aiU (show Z.ownsRow Y.heap.size 70 1 (.slice (some ⟨gb, 0, none⟩) n cp') n (MH ((List.range n).map cd)) by
  rw [← hZ]
  exact hown'.kept (aQ W' b13 0 _) (.inr (fun e' => absurd (show gb = b13 by simpa [Value.ownBlock] using e') ahU)))
 have aa2 : W4.heap.size ≤ gb := by omega
 have n13 : b13 ≠ gb := by omega
 have z13 : b13 < Z.heap.size := aB KZ.out
 have sgZ : gb < Z.heap.size := (Zw.out.lt gb rfl).2
 have HKZ := aiU (KpR.start (w := W4) (gb := gb) b4Z)
 have HZ0 := aiU (show Z.cell? ⟨q3, 0, none⟩ = some (.slice (some ⟨cb, YN, none⟩) n cX) ∧ Z.cell? ⟨q3, 1, none⟩ = some (.slice EA m dS) ∧ Z.cell? ⟨q3, 2, none⟩ = some (.int .i64 sh) ∧ Z.cell? ⟨q3, 3, none⟩ = some (.int .i64 lk) from ⟨(b4Z.cell (p := ⟨q3, 0, none⟩) m3).trans y0, (b4Z.cell (p := ⟨q3, 1, none⟩) m3).trans y1, (b4Z.cell (p := ⟨q3, 2, none⟩) m3).trans y2, (b4Z.cell (p := ⟨q3, 3, none⟩) m3).trans y3⟩)
 have HZ7 := aiU (show Z.cell? ⟨b7, 0, none⟩ = some (.slice GA gn gc) ∧ Z.cell? ⟨b7, 1, none⟩ = some (.slice PA pn pc) from ⟨(b4Z.cell (p := ⟨b7, 0, none⟩) m7).trans HH.out.1, (b4Z.cell (p := ⟨b7, 1, none⟩) m7).trans HH.out.2⟩)
 have l4Z := b4Z.size
 have TW4 := aiU (TW.out.below BW4.out)
 clear hZ aaJ hWb bW kW b4Z hown' hgrow j6 hc0 hf0 n0 n0f aaM aaN z0 aaF aaC y0 y1 y2 y3 hU0 hU1 yE hiU
 go_upto_region 12 with fail
 go_loopw [14] (fun a14 wr => ∃ (j : Nat) (ws : List Int), j ≤ n ∧ a14 = .int .i64 (j : Int) ∧ aab y n cd j ws ∧ wr.ownsRow Y.heap.size 70 1 (.slice (some ⟨gb, 0, none⟩) n cp') n (MH ws) ∧ KpR W4 Z wr gb) (fun a14 _ => n - (intOf a14).toNat)
 case atStart => exact ⟨0, _, Nat.zero_le _, rfl, aab.start y n cd, Zw.out, HKZ.out⟩
 case round =>
  obtain ⟨j, ws, hj, rfl, hal, how, hkp⟩ := hrel
  obtain ⟨w8, hw8⟩ : ∃ w8 : World, w8 = wr := ⟨_, rfl⟩
  subst hw8
  have HA := aiU hal
  have HO := aiU how
  have HK := aiU hkp
  have s8 := hkp.sz
  have k13 := (hkp.hp b13 z13 n13).trans KZ.out
  have o0 : w8.cell? ⟨b13, 0, none⟩ = some (.slice (some ⟨gb, 0, none⟩) n cp') := by simp [World.cell?, k13]
  have aaG : b13 < w8.heap.size := by omega
  have lgb : gb < w8.heap.size := (how.lt gb rfl).2
  have K13 := aiU k13
  clear hal how hkp k13
  by_cases hlt : j < n
  ·have dl : decide ((j : Int) < (n : Int)) = true := decide_eq_true ahU
   have dj : (j : Int) < (n : Int) := by omega
   have CJ := aiU (show (MH ws)[j]? = some (.int .u32 (cd j)) by
    have hlw : j < ws.length := by have := HA.out.len; omega
    have e : ws.getD j 0 = cd j := by rw [HA.out.at_ j hlt, if_neg ahU]
    rw [← e]
    simp [MH, List.getD, List.getElem?_eq_getElem hlw])
   have c0 : w8.cell? ⟨gb, j, none⟩ = some (.int .u32 (cd j)) := by
    rw [HO.out.cellAt j ahU]
    exact CJ.out
   have hcd := Um.out.wd j hlt
   have JK := aiU (kj (cd j) hcd.1 hcd.2 w8 (TW4.out.below HK.out.aD))
   have ZQ := aiU (sF (cd j) hcd.1)
   have HGD := aiU (show (bk (cd j)).2 = 0 → ∃ k, Good (bk (cd j)).1 k from fun h => by
    obtain ⟨k, h1, _⟩ := iG hcd.1 h
    exact ⟨k, h1⟩)
   obtain ⟨I, hI⟩ : ∃ I, (bk (cd j)).1 = I := ⟨_, rfl⟩
   obtain ⟨er, her⟩ : ∃ e, (bk (cd j)).2 = e := ⟨_, rfl⟩
   rw [hI, her] at JK HGD
   rw [hI] at ZQ
   obtain ⟨op, ia, ib, ic, im⟩ := I
   simp only [Ins.val] at JK
   simp only at ZQ
   have HI := aiU (And.intro hI her)
   clear hI her hcd
   go_upto_region 15 with (go_at_call 22; refine JK.out.mono ?_; rintro e W9 ⟨rfl, hb9⟩)
   obtain ⟨b15, aar⟩ : ∃ b, W9.heap.size = b := ⟨_, rfl⟩
   obtain ⟨U, hU⟩ : ∃ U, W9.alloc (.cells #[.int .u8 op, .int .i64 ia, .int .i64 ib, .int .i64 ic, .int .i64 im] 67) = U := ⟨_, rfl⟩
   rw [hU]
   have bU : Below W9.heap.size W9 U := hU ▸ (Below.refl _ _).alloc (Nat.le_refl _) _
   have kU : U.heap[b15]? = some (.cells #[.int .u8 op, .int .i64 ia, .int .i64 ib, .int .i64 ic, .int .i64 im] 67 (0, 0)) := by rw [← aar, ← hU]; exact heap_alloc_new _ _
   rw [aar]
   have b8U : Below w8.heap.size w8 U := hb9.trans (bU.mono hb9.size)
   have HKU := aiU (HK.out.below b8U)
   have HOU := aiU (ak HO.out b8U)
   have KU := aiU kU
   have L15 := aiU (show w8.heap.size ≤ b15 by rw [← aar]; exact hb9.size)
   obtain ⟨i0, i1, i2, i3, i4, l15⟩ := bP kU
   have w0 : IntKind.i64.wrap y = y := IntWalk.i64_in _ ahU
   have w1 : IntKind.i64.wrap (im + y) = im + y := IntWalk.i64_in _ (by have := ZQ.out; omega)
   have aaL := aiU ((b8U.block b13 aaG).trans K13.out)
   clear hU bU kU hb9 aar b8U c0 o0 JK HO HK
   by_cases aaf : er = 0 ∧ op = 25 ∧ im + y ≤ 131071
   case neg =>
    have Zk := aiU (HA.out.skip (aat (y := y) (x := cd j) (by rw [HI.out.1, HI.out.2]; exact aaf)))
    by_cases h1 : er = 0
    ·subst h1
     by_cases h2 : op = 25
     ·subst h2
      have e3 : decide (im + y ≤ 131071) = false := decide_eq_false (fun h => aaf ⟨rfl, rfl, h⟩)
      clear aaf
      go_wp2_with fail
      go_roundw
      case rel => exact ⟨j + 1, ws, by omega, by go_num, Zk.out, HOU.out, HKU.out⟩
      case measure => simp [intOf]; omega
     ·have e2 : (op == 25) = false := by simpa using h2
      clear aaf h2
      go_wp2_with fail
      go_roundw
      case rel => exact ⟨j + 1, ws, by omega, by go_num, Zk.out, HOU.out, HKU.out⟩
      case measure => simp [intOf]; omega
    ·have e1 : (er == 0) = false := by simpa using h1
     clear aaf h1
     go_wp2_with fail
     go_roundw
     case rel => exact ⟨j + 1, ws, by omega, by go_num, Zk.out, HOU.out, HKU.out⟩
     case measure => simp [intOf]; omega
   case pos =>
    obtain ⟨rfl, rfl, him⟩ := aaf
    have e3 : decide (im + y ≤ 131071) = true := decide_eq_true him
    have f4 : U.frozen? ⟨b15, 4, none⟩ = false := by simp [World.frozen?, KU.out]
    have HX := aiU (show wI y (cd j) = qz ⟨25, ia, ib, ic, im + y⟩ by
     unfold wI
     rw [HI.out.1, HI.out.2, if_pos ⟨rfl, rfl, him⟩]
     unfold fF
     rw [if_pos ⟨rfl, him⟩])
    have HEC := aiU (show encI ⟨25, ia, ib, ic, im + y⟩ = (qz ⟨25, ia, ib, ic, im + y⟩, 0) by
     obtain ⟨k, hk⟩ := HGD.out rfl
     have h := (pJ hy0 hk).enc
     unfold fF at h
     rw [if_pos ⟨rfl, him⟩] at h
     exact h)
    go_upto_region 17 with fail
    obtain ⟨U1, hU1⟩ : ∃ E, U.setCell ⟨b15, 4, none⟩ (.int .i64 (im + y)) = E := ⟨_, rfl⟩
    rw [hU1]
    have kU1 : U1.heap[b15]? = some (.cells #[.int .u8 25, .int .i64 ia, .int .i64 ib, .int .i64 ic, .int .i64 (im + y)] 67 (0, 0)) := by
     rw [← hU1, heap_setCell_same U b15 4 _ _ _ KU.out]
     rfl
    have N1 := aiU (show KpR W4 Z U1 gb by
     rw [← hU1]
     exact HKU.out.box (q := b15) (by have := L15.out; omega) (by have := L15.out; omega) 4 _)
    have HO1 := aiU (show U1.ownsRow Y.heap.size 70 1 (.slice (some ⟨gb, 0, none⟩) n cp') n (MH ws) by
     rw [← hU1]
     exact HOU.out.kept (aQ U b15 4 _) (.inr (fun e' => by
      have : gb = b15 := by simpa [Value.ownBlock] using e'
      have := L15.out
      omega)))
    have aaB : U1.heap[b13]? = some (.cells #[.slice (some ⟨gb, 0, none⟩) n cp', .slice EA m dS, .int .i64 sh, .int .i64 lk] 25 (0, 0)) := by
     rw [← hU1]
     exact (Below.heap_setCell _ _ _ _ (by show b13 ≠ b15; have := L15.out; omega)).trans aaL.out
    have m0 : U1.cell? ⟨b13, 0, none⟩ = some (.slice (some ⟨gb, 0, none⟩) n cp') := by simp [World.cell?, aaB]
    obtain ⟨p0, p1, p2, p3, p4, r15⟩ := bP kU1
    have r13 : b13 < U1.heap.size := aB aaB
    have rgb : gb < U1.heap.size := (HO1.out.lt gb rfl).2
    have g13 := n13
    have g15 : b15 ≠ gb := by have := L15.out; omega
    have Kk := aiU (show ∀ W, KpR W4 U1 W gb → Calls Tryz.prog 23 #[.agg #[.int .u8 25, .int .i64 ia, .int .i64 ib, .int .i64 ic, .int .i64 (im + y)]] W fun e w' => e = .returned (.tuple #[.int .u32 (qz ⟨25, ia, ib, ic, im + y⟩), .int .i64 0]) ∧ Below W.heap.size W w' from fun W h => by
     have h2 := sA ⟨25, ia, ib, ic, im + y⟩ (show (0 : Int) ≤ 25 by decide) W (TW4.out.below h.aD)
     rw [HEC.out] at h2
     exact h2)
    clear hU1 kU1 aaB i0 i1 i2 i3 i4 l15 f4 w0 w1 HKU HOU KU aaL e3
    refine wp_region_held_drew (S := fun w' => KpR W4 U1 w' gb) ahV ?_ (fun hHeld => ?_)
    ·exact (KpR.start N1.out.aD).drew
    have hk : KpR W4 U1 U1.drew gb := (KpR.start N1.out.aD).drew
    have HOD := aiU (show U1.drew.ownsRow Y.heap.size 70 1 (.slice (some ⟨gb, 0, none⟩) n cp') n (MH ws) from HO1.out)
    obtain ⟨D0, Pk⟩ : ∃ D, U1.drew = D := ⟨_, rfl⟩
    rw [Pk] at hk
    rw [Pk] at HOD
    rw [Pk] at hHeld ⊢
    clear Pk
    refine wpAnyH_take (i := 0) (oi := _) (v := ?_) rfl ahV ahV ahV (fun _ _ _ h => h) (Or.inl ⟨by rfl, ?_⟩) hHeld ?_
    rotate_left
    ·intro w' hSw
     clear hSw
     go_simp
     (try with_reducible rfl)
    (try simp only [aiV, aiW, aiX, Act.put, aiY, aiZ, ai0])
    refine wpAnyH_take (i := 1) (oi := _) (v := ?_) rfl ahV ahV ahV (fun _ _ _ h => h) (Or.inl ⟨by rfl, ?_⟩) hHeld ?_
    rotate_left
    ·intro w' hSw
     have s0 := (hSw.cell (o := 0) r13 g13).trans m0
     have t0 := (hSw.cell (o := 0) r15 g15).trans p0
     have t1 := (hSw.cell (o := 1) r15 g15).trans p1
     have t2 := (hSw.cell (o := 2) r15 g15).trans p2
     have t3 := (hSw.cell (o := 3) r15 g15).trans p3
     have t4 := (hSw.cell (o := 4) r15 g15).trans p4
     have u13 := Nat.lt_of_lt_of_le r13 hSw.sz
     have u15 := Nat.lt_of_lt_of_le r15 hSw.sz
     have ug := Nat.lt_of_lt_of_le rgb hSw.sz
     clear hSw
     go_simp
     (try with_reducible rfl)
    (try simp only [aiV, aiW, aiX, Act.put, aiY, aiZ, ai0])
    refine wpAnyH_take (i := 2) (oi := _) (v := ?_) rfl ahV ahV ahV (fun _ _ _ h => h) (Or.inl ⟨by rfl, ?_⟩) hHeld ?_
    rotate_left
    ·intro w' hSw
     clear hSw
     go_simp
     (try with_reducible rfl)
    (try simp only [aiV, aiW, aiX, Act.put, aiY, aiZ, ai0])
    refine wpAnyH_take (i := 3) (oi := _) (v := ?_) rfl ahV ahV ahV (fun _ _ _ h => h) (Or.inl ⟨by rfl, ?_⟩) hHeld ?_
    rotate_left
    ·intro w' hSw
     have s0 := (hSw.cell (o := 0) r13 g13).trans m0
     have t0 := (hSw.cell (o := 0) r15 g15).trans p0
     have t1 := (hSw.cell (o := 1) r15 g15).trans p1
     have t2 := (hSw.cell (o := 2) r15 g15).trans p2
     have t3 := (hSw.cell (o := 3) r15 g15).trans p3
     have t4 := (hSw.cell (o := 4) r15 g15).trans p4
     have u13 := Nat.lt_of_lt_of_le r13 hSw.sz
     have u15 := Nat.lt_of_lt_of_le r15 hSw.sz
     have ug := Nat.lt_of_lt_of_le rgb hSw.sz
     clear hSw
     go_simp
     (try with_reducible rfl)
    (try simp only [aiV, aiW, aiX, Act.put, aiY, aiZ, ai0])
    refine wpAnyH_ready (rs := [4]) ahV ahZ ?_
    refine AllReadyH.cons (o := _) rfl (fun K hK => ?_) AllReadyH.nil
    go_simp
    go_at_call 23
    refine (Kk.out _ hk).mono ?_
    rintro e D1 ⟨rfl, hb⟩
    have hk := hk.below hb
    have HO2 := aiU (ak HOD.out hb)
    clear hb
    refine hK.out _ _ hk (fun hHeld => ?_)
    clear hK K
    (try simp only [aiV, aiW, aiX, Act.put, aiY, aiZ, ai0])
    refine wpAnyH_take (i := 5) (oi := _) (v := ?_) rfl ahV ahV ahV (fun _ _ _ h => h) (Or.inl ⟨by rfl, ?_⟩) hHeld ?_
    rotate_left
    ·intro w' hSw
     clear hSw
     go_simp
     (try with_reducible rfl)
    (try simp only [aiV, aiW, aiX, Act.put, aiY, aiZ, ai0])
    refine wpAnyH_take (i := 6) (oi := _) (v := ?_) rfl ahV ahV ahV (fun _ _ _ h => h) (Or.inl ⟨by rfl, ?_⟩) hHeld ?_
    rotate_left
    ·intro w' hSw
     clear hSw
     go_simp
     (try with_reducible rfl)
    (try simp only [aiV, aiW, aiX, Act.put, aiY, aiZ, ai0])
    refine wpAnyH_take (i := 7) (oi := _) (v := ?_) rfl ahV ahV ahV (fun _ _ _ h => h) (Or.inl ⟨by rfl, ?_⟩) hHeld ?_
    rotate_left
    ·intro w' hSw
     clear hSw
     go_simp
     (try with_reducible rfl)
    (try simp only [aiV, aiW, aiX, Act.put, aiY, aiZ, ai0])
    refine wpAnyH_take (i := 8) (oi := _) (v := ?_) rfl ahV ahV ahV (fun _ _ _ h => h) (Or.inl ⟨by rfl, ?_⟩) hHeld ?_
    rotate_left
    ·intro w' hSw
     have s0 := (hSw.cell (o := 0) r13 g13).trans m0
     have t0 := (hSw.cell (o := 0) r15 g15).trans p0
     have t1 := (hSw.cell (o := 1) r15 g15).trans p1
     have t2 := (hSw.cell (o := 2) r15 g15).trans p2
     have t3 := (hSw.cell (o := 3) r15 g15).trans p3
     have t4 := (hSw.cell (o := 4) r15 g15).trans p4
     have u13 := Nat.lt_of_lt_of_le r13 hSw.sz
     have u15 := Nat.lt_of_lt_of_le r15 hSw.sz
     have ug := Nat.lt_of_lt_of_le rgb hSw.sz
     clear hSw
     go_simp
     (try with_reducible rfl)
    (try simp only [aiV, aiW, aiX, Act.put, aiY, aiZ, ai0])
    refine wpAnyH_ready (rs := [9]) ahV ahZ ?_
    refine AllReadyH.cons (o := _) rfl (fun K hK => ?_) AllReadyH.nil
    have c1 : D1.cell? ⟨gb, j, none⟩ = some (.int .u32 (cd j)) := by
     rw [HO2.out.cellAt j ahU]
     exact CJ.out
    have c1f : D1.frozen? ⟨gb, j, none⟩ = false := HO2.out.frozenAt j
    have lg1 : gb < D1.heap.size := (HO2.out.lt gb rfl).2
    go_simp
    have o1 := (HO2.out.stored j (.int .u32 (qz ⟨25, ia, ib, ic, im + y⟩))).1
    have hk := hk.set aa2 j (.int .u32 (qz ⟨25, ia, ib, ic, im + y⟩))
    rw [aaw] at o1
    obtain ⟨W10, aaI⟩ : ∃ E, D1.setCell ⟨gb, j, none⟩ (.int .u32 (qz ⟨25, ia, ib, ic, im + y⟩)) = E := ⟨_, rfl⟩
    rw [aaI] at o1 hk ⊢
    have OO := aiU o1
    have HKK := aiU hk
    clear c1 c1f lg1 o1 aaI
    refine hK.out _ _ hk (fun hHeld => ?_)
    clear hK K
    (try simp only [aiV, aiW, aiX, Act.put, aiY, aiZ, ai0])
    refine wpAnyH_done ahV ?_ _
    clear hHeld hk
    go_wp2_with fail
    go_roundw
    case rel => exact ⟨j + 1, _, by omega, by go_num, HA.out.set hlt HX.out, OO.out, N1.out.trans HKK.out⟩
    case measure => simp [intOf]; omega
  ·obtain rfl : n = j := by omega
   have dl : decide ((n : Int) < (n : Int)) = false := by simp
   have B48 := aiU HK.out.aD
   have HWN := aiU (show Words w8 (.slice (some ⟨gb, 0, none⟩) n cp') n (fun i => ws.getD i 0) by
    have hlen := HA.out.len
    have h := DC (ws := ws) (by rw [hlen]; exact HO.out) ahU (aab.Vz hy0 Um.out.wd HA.out)
    rw [hlen] at h
    exact h)
   have Rt := aiU HA.out.done
   obtain ⟨ce, hce⟩ : ∃ f : Nat → Int, (fun i => ws.getD i 0) = f := ⟨_, rfl⟩
   rw [hce] at HWN Rt
   obtain ⟨a0, a1, a2, a3⟩ := HZ0.out
   obtain ⟨g0, g1⟩ := HZ7.out
   obtain ⟨o0, o1, o2, o3, -⟩ := cK K13.out
   have n3 : q3 ≠ gb := by omega
   have n7 : b7 ≠ gb := by omega
   have l3Z : q3 < Z.heap.size := by omega
   have l7Z : b7 < Z.heap.size := by omega
   have a0 := (HK.out.cell (o := 0) l3Z n3).trans a0
   have a1 := (HK.out.cell (o := 1) l3Z n3).trans a1
   have a2 := (HK.out.cell (o := 2) l3Z n3).trans a2
   have a3 := (HK.out.cell (o := 3) l3Z n3).trans a3
   have g0 := (HK.out.cell (o := 0) l7Z n7).trans g0
   have g1 := (HK.out.cell (o := 1) l7Z n7).trans g1
   have l38 : q3 < w8.heap.size := by omega
   have l78 : b7 < w8.heap.size := by omega
   have HW8 := aiU ((Um.out.below (B2X.out.trans ((BX4.out.trans (B48.out.mono BX4.out.size)).mono B2X.out.size))))
   have HG8 := aiU (Ri.out.below (BX4.out.trans (B48.out.mono BX4.out.size)))
   have HP8 := aiU (xe.out.below (BX4.out.trans (B48.out.mono BX4.out.size)))
   have HCE := aiU (show ∀ (x : Lp) (r : Int), (gv n ce G P x r).2 = (gv n cd G P x r).2 ∧ (gv n cd G P x r).1 ≤ (gv n ce G P x r).1 from fun x r => Rt.out.bnd hy0 Um.out.wd (fun x hx => by have := HG.out.Vz x hx; have := HG.out.range; omega) x r)
   clear hce HO HA HK KZ HZ0 HZ7 o0 aaG lgb K13 Zw HKZ hlt hj
   obtain ⟨o0, o1, o2, o3, aap⟩ : w8.cell? ⟨b13, 0, none⟩ = some (.slice (some ⟨gb, 0, none⟩) n cp') ∧ w8.cell? ⟨b13, 1, none⟩ = some (.slice EA m dS) ∧ w8.cell? ⟨b13, 2, none⟩ = some (.int .i64 sh) ∧ w8.cell? ⟨b13, 3, none⟩ = some (.int .i64 lk) ∧ b13 < w8.heap.size := ⟨by assumption, o1, o2, o3, by omega⟩
   go_upto_region 19 with fail
   go_loopw [17] (fun a17 wr => ∃ i : Nat, i ≤ ln ∧ a17 = .int .i64 (i : Int) ∧ Below w8.heap.size w8 wr) (fun a17 _ => ln - (intOf a17).toNat)
   case atStart => exact ⟨0, by omega, rfl, Below.refl _ _⟩
   case round =>
    obtain ⟨i, hi, rfl, hb⟩ := hrel
    obtain ⟨w11, aa1⟩ : ∃ w11 : World, w11 = wr := ⟨_, rfl⟩
    subst aa1
    have HB := aiU hb
    have s11 := hb.size
    clear hb
    by_cases hli : i < ln
    ·have dl2 : decide ((i : Int) < (ln : Int)) = true := decide_eq_true ahU
     have di : (i : Int) < (ln : Int) := by omega
     obtain ⟨pb, po, x, A1, m1, cp1, A2, m2, cp2, p, rfl, hpl, hx, c0, c1, c2, c3, oy, ox⟩ := tv.at_ HLP.out (B48.out.trans (HB.out.mono B48.out.size)) (k := i) (by rw [FC.out]; exact hli)
     have HX2 := aiU (List.mem_of_getElem? hx)
     have HI1 := aiU oy
     have ZR := aiU ox
     have hcl := Pq (f := gv n cd G P x) (g := gv n ce G P x) (fun r => HCE.out x r) gY
     have Rl := aiU (show ∀ (W : World) (C : Value) (f : Nat → Int), Below w8.heap.size w8 W → Words W C n f → Calls Tryz.prog 17 #[.agg #[C, .slice EA m dS, .int .i64 sh, .int .i64 lk], .agg #[.slice GA gn gc, .slice PA pn pc], .agg #[.int .i64 x.h, .slice A1 m1 cp1, .slice A2 m2 cp2, .int .i64 p]] W fun e w' => e = .returned (YL (ko (gv n f G P x) gY)) ∧ Below W.heap.size W w' from fun W C f hb hw =>
      qj C (.slice EA m dS) (.slice GA gn gc) (.slice PA pn pc) sh lk n f G P W (TW4.out.below (B48.out.trans (hb.mono B48.out.size))) hw (HG8.out.below hb) (HP8.out.below hb) aib (fun x hx => by have := HG.out.nx2 x hx; omega) x p _ _ (HI1.out.below (B48.out.trans (hb.mono B48.out.size))) (ZR.out.below (B48.out.trans (hb.mono B48.out.size))) (by have := Kj.out x HX2.out; omega) (fun _ => HG.out.YY aib))
     obtain ⟨C1, hC1⟩ : ∃ C, ko (gv n cd G P x) gY = C := ⟨_, rfl⟩
     obtain ⟨C2, hC2⟩ : ∃ C, ko (gv n ce G P x) gY = C := ⟨_, rfl⟩
     have Z7 := aiU (show ∀ u : Ext w11, Calls Tryz.prog 17 #[.agg #[.slice (some ⟨cb, YN, none⟩) n cX, .slice EA m dS, .int .i64 sh, .int .i64 lk], .agg #[.slice GA gn gc, .slice PA pn pc], .agg #[.int .i64 x.h, .slice A1 m1 cp1, .slice A2 m2 cp2, .int .i64 p]] u.w fun e w' => e = .returned (YL C1) ∧ Below u.w.heap.size u.w w' from fun u => by
      have h := Rl.out u.w _ cd (HB.out.trans (u.h.mono s11)) (HW8.out.below (HB.out.trans (u.h.mono s11)))
      rw [hC1] at h
      exact h)
     have zF := aiU (show ∀ W, Below w8.heap.size w8 W → Calls Tryz.prog 17 #[.agg #[.slice (some ⟨gb, 0, none⟩) n cp', .slice EA m dS, .int .i64 sh, .int .i64 lk], .agg #[.slice GA gn gc, .slice PA pn pc], .agg #[.int .i64 x.h, .slice A1 m1 cp1, .slice A2 m2 cp2, .int .i64 p]] W fun e w' => e = .returned (YL C2) ∧ Below W.heap.size W w' from fun W hb => by
      have h := Rl.out W _ ce hb (HWN.out.below hb)
      rw [hC2] at h
      exact h)
     rw [hC1, hC2] at hcl
     obtain ⟨r1, v1, k1⟩ := C1
     obtain ⟨r2, v2, k2⟩ := C2
     obtain ⟨e1, e2, e3⟩ := hcl
     simp only at e1 e2 e3
     subst e1 e2
     simp only [YL] at Z7 zF
     have dn1 : (k2 != k2) = false := by simp
     have dn2 : (r2 != r2) = false := by simp
     have dn3 : decide (v2 < v1) = false := decide_eq_false ahU
     have f0 := (HB.out.cell (p := ⟨q3, 0, none⟩) l38).trans a0
     have f1 := (HB.out.cell (p := ⟨q3, 1, none⟩) l38).trans a1
     have f2 := (HB.out.cell (p := ⟨q3, 2, none⟩) l38).trans a2
     have f3 := (HB.out.cell (p := ⟨q3, 3, none⟩) l38).trans a3
     have h0 := (HB.out.cell (p := ⟨b7, 0, none⟩) l78).trans g0
     have h1 := (HB.out.cell (p := ⟨b7, 1, none⟩) l78).trans g1
     have l3w : q3 < w11.heap.size := by omega
     have l7w : b7 < w11.heap.size := by omega
     have lpw : pb < w11.heap.size := by have := B48.out.size; omega
     have C03 := aiU (And.intro c0 (And.intro c1 (And.intro c2 c3)))
     clear hC1 hC2 hx oy ox Rl
     go_wp2_with fail
     refine aj ahV ahV ?_
     repeat (go_big_quiet_step ((go_at_call 17; with_reducible exact Calls.ax (Z7.out _))))
     refine wpQuiet_nil ?_
     rintro _ ⟨u1, rfl⟩
     obtain ⟨W12, aaH⟩ : ∃ E : World, u1.w = E := ⟨_, rfl⟩
     have hx1 := u1.h
     rw [aaH] at hx1 ⊢
     have aak := aiU (HB.out.trans (hx1.mono s11))
     have s12 := aak.out.size
     have k0 := (aak.out.cell (p := ⟨b13, 0, none⟩) aap).trans o0
     have k1' := (aak.out.cell (p := ⟨b13, 1, none⟩) aap).trans o1
     have QD := (aak.out.cell (p := ⟨b13, 2, none⟩) aap).trans o2
     have k3 := (aak.out.cell (p := ⟨b13, 3, none⟩) aap).trans o3
     have j0 := (aak.out.cell (p := ⟨b7, 0, none⟩) l78).trans g0
     have j1 := (aak.out.cell (p := ⟨b7, 1, none⟩) l78).trans g1
     have v0' := (hx1.cell (p := ⟨pb, po + i * 4, none⟩) lpw).trans C03.out.1
     have v1' := (hx1.cell (p := ⟨pb, po + i * 4 + 1, none⟩) lpw).trans C03.out.2.1
     have v2' := (hx1.cell (p := ⟨pb, po + i * 4 + 2, none⟩) lpw).trans C03.out.2.2.1
     have v3' := (hx1.cell (p := ⟨pb, po + i * 4 + 3, none⟩) lpw).trans C03.out.2.2.2
     have afD : b13 < W12.heap.size := by omega
     have l7x : b7 < W12.heap.size := by omega
     have lpx : pb < W12.heap.size := by have := hx1.size; omega
     have HC3 := aiU (show ∀ u : Ext W12, Calls Tryz.prog 17 #[.agg #[.slice (some ⟨gb, 0, none⟩) n cp', .slice EA m dS, .int .i64 sh, .int .i64 lk], .agg #[.slice GA gn gc, .slice PA pn pc], .agg #[.int .i64 x.h, .slice A1 m1 cp1, .slice A2 m2 cp2, .int .i64 p]] u.w fun e w' => e = .returned (.tuple #[.int .i64 r2, .int .i64 v2, .bool k2]) ∧ Below u.w.heap.size u.w w' from fun u => zF.out u.w (aak.out.trans (u.h.mono s12)))
     clear aaH hx1 c0 c1 c2 c3 f0 f1 f2 f3 h0 h1 Z7 zF
     go_wp2_with fail
     refine aj ahV ahV ?_
     repeat (go_big_quiet_step ((go_at_call 17; with_reducible exact Calls.ax (HC3.out _))))
     refine wpQuiet_nil ?_
     rintro _ ⟨u2, rfl⟩
     go_wp2_with fail
     go_roundw
     case rel => exact ⟨i + 1, by omega, by go_num, aak.out.trans (u2.h.mono s12)⟩
     case measure => simp [intOf]; omega
    ·obtain rfl : ln = i := by omega
     have dl2 : decide ((ln : Int) < (ln : Int)) = false := by simp
     go_wp2_with fail
     go_ret
     exact ⟨rfl, BW4.out.trans ((B48.out.trans (HB.out.mono B48.out.size)).mono BW4.out.size)⟩
end
end Go.Proofs.YtlmgkipmfgijiaaGreatDoor
