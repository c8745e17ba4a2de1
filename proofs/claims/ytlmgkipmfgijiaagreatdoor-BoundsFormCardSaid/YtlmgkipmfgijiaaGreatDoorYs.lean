/-
  What is proved here: parts dAw, dAw2, dLw, lBad.
-/
import Derived.Test.YtlmgkipmfgijiaaGreatDoorYa
import Derived.Test.YtlmgkipmfgijiaaGreatDoorYr
import Derived.Test.YtlmgkipmfgijiaaGreatDoorYb
import Derived.Laws.EntriesVeiled
namespace Go.Proofs.YtlmgkipmfgijiaaGreatDoor
set_option linter.unusedVariables false
set_option linter.unusedSimpArgs false
set_option maxRecDepth 100000
set_option maxHeartbeats 8000000
section
open Go.RowKit
def uX (n : Nat) (aD : List jJ) (sh : Int) : Prop := n ≤ 90 ∧ aD.length ≤ 4 ∧ sh ≤ 64
instance (n : Nat) (aD : List jJ) (sh : Int) : Decidable (uX n aD sh) := by unfold uX; infer_instance
def oH (n : Nat) (aD : List jJ) (sh : Int) : Int := if uX n aD sh then 1 else 0
theorem CS (cv ev : Value) (sh lk : Int) (n : Nat) (cd : Nat → Int) (aD : List jJ) (w : World) (HW : jY w cv n cd) (HE : nj w ev aD) :
  Calls Tryz.prog 11 #[.agg #[cv, ev, .int .i64 sh, .int .i64 lk]] w fun e w' => e = .returned (.int .i64 (oH n aD sh)) ∧ Below w.heap.size w w' := by
 obtain ⟨A, cap, rfl, hc1, hc2, -⟩ := HW.at_
 obtain ⟨EA, dP, rfl, he1, he2, -⟩ := HE.at_
 have h63 : aD.length ≤ 2 ^ 63 - 1 := by unfold maxLen at he2; omega
 have h64 : n ≤ 2 ^ 63 - 1 := by unfold maxLen at hc2; omega
 obtain ⟨V, hV⟩ : ∃ V, w.alloc (.cells #[.slice A n cap, .slice EA aD.length dP, .int .i64 sh, .int .i64 lk] 25) = V := ⟨_, rfl⟩
 have k0 : V.heap[w.heap.size]? = some (.cells #[.slice A n cap, .slice EA aD.length dP, .int .i64 sh, .int .i64 lk] 25 (0, 0)) := hV ▸ heap_alloc_new _ _
 obtain ⟨y0, y1, y2, y3, y4⟩ := cJ k0
 have BV := ahM (show Below w.heap.size w V from hV ▸ (Below.refl _ _).alloc (Nat.le_refl _) _)
 obtain ⟨m, hm⟩ : ∃ m, aD.length = m := ⟨_, rfl⟩
 obtain ⟨r, hr⟩ : ∃ r, oH n aD sh = r := ⟨_, rfl⟩
 rw [hr]
 have HR := ahM (show r = if n ≤ 90 ∧ m ≤ 4 ∧ sh ≤ 64 then 1 else 0 by rw [← hr, ← hm]; rfl)
 rw [hm] at y1 h63 hV he1
 rw [hm]
 clear k0 HW HE hr hm he2 hc2
 go_enter Tryz.func11, Tryz.ntmps11
 by_cases h1 : n ≤ 90
 ·have d1 : decide (90 < (n : Int)) = false := decide_eq_false agO
  have d1' : decide (90 < n) = false := decide_eq_false agO
  by_cases h2 : m ≤ 4
  ·have d2 : decide (4 < (m : Int)) = false := decide_eq_false agO
   have d2' : decide (4 < m) = false := decide_eq_false agO
   by_cases h3 : sh ≤ 64
   ·have d3 : decide (64 < sh) = false := decide_eq_false agO
    have HF := ahM (show r = 1 by rw [HR.out, if_pos ⟨h1, h2, h3⟩])
    clear h1 h2 h3
    go_wp2_with fail
    go_ret
    exact ⟨by rw [HF.out]; rfl, BV.out⟩
   ·have d3 : decide (64 < sh) = true := decide_eq_true agO
    have HF := ahM (show r = 0 by rw [HR.out, if_neg (fun h => h3 h.2.2)])
    clear h1 h2 h3
    go_wp2_with fail
    go_ret
    exact ⟨by rw [HF.out]; rfl, BV.out⟩
  ·have d2 : decide (4 < (m : Int)) = true := decide_eq_true agO
   have d2' : decide (4 < m) = true := decide_eq_true agO
   have HF := ahM (show r = 0 by rw [HR.out, if_neg (fun h => h2 h.2.1)])
   clear h1 h2
   go_wp2_with fail
   go_ret
   exact ⟨by rw [HF.out]; rfl, BV.out⟩
 ·have d1 : decide (90 < (n : Int)) = true := decide_eq_true agO
  have d1' : decide (90 < n) = true := decide_eq_true agO
  have HF := ahM (show r = 0 by rw [HR.out, if_neg (fun h => h1 h.1)])
  clear h1
  go_wp2_with fail
  go_ret
  exact ⟨by rw [HF.out]; rfl, BV.out⟩
theorem Hs {w : World} {B : Nat} {A : Option Addr} {cap : Nat} (h : w.ownsRow B 70 1 (.slice A 6 cap) 6 (LC (ME.map fun i => (encI i).1))) : Words w (.slice A 6 cap) 6 cE :=
 C5 (ws := XK) h agQ Sw
theorem Ox {w : World} {e : Ending} (h : I3 w 6 cE [⟨iX, 0, 6, 0⟩] 0 0 0 e) : ∃ (A A' LA AY IA DA : Option Addr) (c c' lc rc ic dn dc : Nat), e = .returned (.tuple #[.agg #[.slice A 3 c, .slice A' 3 c'], .slice LA 1 lc, .agg #[.slice AY 3 rc, .slice IA 3 ic, .slice DA dn dc], .bool true]) ∧ fF w (.slice A 3 c) cL ∧ l9 w (.slice A' 3 c') yz ∧ sI w (.slice LA 1 lc) [qH] ∧ s8 w (.slice AY 3 rc) [true, true, true] ∧ 3 ≤ ic ∧ ic ≤ maxLen := by
 obtain ⟨k, en, G, P, bv, pv, lv, rv, iv, dv, D, L, s, hk, hg, hA, he⟩ := h
 obtain rfl : k = 0 := by omega
 obtain rfl : (⟨iX, 0, 6, 0⟩ : jJ) = en := by have := hg.he; simpa using this
 have ho := Oj hg.out
 injection ho with e1 e2
 subst e1 e2
 have hs := Hw hA.ends
 subst hs
 have hL := Hu hA.loops
 subst hL
 obtain ⟨A, c, hb, -, -⟩ := hA.Ie.slice
 obtain ⟨A', c', hp, -, -⟩ := hA.lls.slice
 obtain ⟨LA, lc, hl, -, -⟩ := hA.LJ.slice
 obtain ⟨AY, rc, hr, -, -, -⟩ := id hA.Bc
 obtain ⟨IA, ic, hi, hi1, hi2⟩ := hA.bu
 obtain ⟨DA, dn, dc, hd⟩ := hA.dvs
 have hb : bv = .slice A 3 c := hb
 have hp : pv = .slice A' 3 c' := hp
 have hl : lv = .slice LA 1 lc := hl
 have hr : rv = .slice AY 3 rc := hr
 have hi : iv = .slice IA 3 ic := hi
 subst hb hp hl hr hi hd
 exact ⟨A, A', LA, AY, IA, DA, c, c', lc, rc, ic, dn, dc, he, hA.Ie, hA.lls, hA.LJ, hA.Bc, hi1, hi2⟩
theorem Hv : oC 6 cE [⟨iX, 0, 6, 0⟩] 0 0 0 ⟨iX, 0, 6, 0⟩ cL yz := by
 refine ⟨rfl, KJ, ?_⟩
 have hR : fW (au cE) 0 6 [0, 1, 2, 3, 4, 5] [] (-1) := by
  refine ⟨by decide, fun a ha => (AH a).2 ha, by simp, fun a ha t ht h1 h2 => .inl ?_, .inl agT, .inl ⟨rfl, fun a ha => BL a ha⟩⟩
  simp; omega
 have h := Out.ok (c := au cE) (st := 0) (en := 6) _ hR
 rw [show ((6 : Int) - 0).toNat = 6 from rfl, H7, MD, MC] at h
 exact h
theorem Oo : yK 6 cE [⟨iX, 0, 6, 0⟩] 0 0 0 := ⟨0, _, cL, yz, rfl, Hv, fun D _ => KN D⟩
end
section
open Go.RowKit
theorem AO (AZ : qK) (w : World) (T : gL w) : Calls Tryz.prog 10 #[] w fun e w' => e = .returned (.bool true) ∧ Below w.heap.size w w' := by
 obtain ⟨X, hX⟩ : ∃ X, w.alloc (.cells (ku ME).toArray 67) = X := ⟨_, rfl⟩
 have bX : Below w.heap.size w X := hX ▸ (Below.refl _ _).alloc (Nat.le_refl _) _
 have kX : X.heap[w.heap.size]? = some (.cells (ku ME).toArray 67 (0, 0)) := hX ▸ heap_alloc_new _ _
 have P7 := ahM (show SZ X (.slice (some ⟨w.heap.size, 0, none⟩) 6 6) ME from ⟨_, 6, rfl, Nat.le_refl _, by unfold maxLen; omega, fun _ => ⟨w.heap.size, 0, rfl, aB kX, fun i x hx => by
  have c : ∀ j, j < 5 → X.cell? ⟨w.heap.size, 0 + i * 5 + j, none⟩ = (EI x)[j]? := fun j hj => by
   rw [Nat.zero_add]
   simp only [World.cell?, kX]
   rw [← vw ME i j x hx hj]
   simp
  exact ⟨c 0 agO, c 1 agO, c 2 agO, c 3 agO, c 4 agO⟩⟩⟩)
 have TX := ahM (T.below bX)
 have BX := ahM bX
 clear T bX kX
 have hX' : w.alloc (.cells #[.int .u8 14, .int .i64 10, .int .i64 0, .int .i64 0, .int .i64 0, .int .u8 25, .int .i64 10, .int .i64 0, .int .i64 0, .int .i64 4, .int .u8 15, .int .i64 10, .int .i64 10, .int .i64 0, .int .i64 1, .int .u8 15, .int .i64 5, .int .i64 10, .int .i64 0, .int .i64 (-4), .int .u8 23, .int .i64 5, .int .i64 0, .int .i64 0, .int .i64 (-4), .int .u8 1, .int .i64 0, .int .i64 0, .int .i64 0, .int .i64 0] 67) = X := hX
 clear hX
 go_enter Tryz.func10, Tryz.ntmps10
 go_wp2_with fail
 refine (Er _ ME X TX.out P7.out agQ agQ).mono ?_
 rintro e W1 ⟨⟨cv, ev, A, cap, rfl, hcv, hrow, hent⟩, hb1⟩
 have hcv : cv = .slice A 6 cap := hcv
 subst hcv
 have hrow : W1.ownsRow X.heap.size 70 1 (.slice A 6 cap) 6 (LC (ME.map fun i => (encI i).1)) := hrow
 have HW := Hs hrow
 have hent : nj W1 ev [⟨iX, 0, 6, 0⟩] := hent
 obtain ⟨EA, dP, hev, -, -, -⟩ := hent.at_
 have hev : ev = .slice EA 1 dP := hev
 subst hev
 clear hX'
 go_wp2_with fail
 obtain ⟨V, hV⟩ : ∃ V, W1.alloc (.cells #[.slice A 6 cap, .slice EA 1 dP, .int .i64 0, .int .i64 0] 25) = V := ⟨_, rfl⟩
 obtain ⟨b1, N4⟩ : ∃ b, W1.heap.size = b := ⟨_, rfl⟩
 have bV : Below W1.heap.size W1 V := hV ▸ (Below.refl _ _).alloc (Nat.le_refl _) _
 have kV : V.heap[b1]? = some (.cells #[.slice A 6 cap, .slice EA 1 dP, .int .i64 0, .int .i64 0] 25 (0, 0)) := by rw [← N4]; exact hV ▸ heap_alloc_new _ _
 obtain ⟨y0, y1, y2, y3, y4⟩ := cJ kV
 have XO : Below X.heap.size X V := hb1.trans (bV.mono hb1.size)
 have BV := ahM (BX.out.trans (XO.mono BX.out.size))
 have MN := ahM (HW.below bV)
 have Qa := ahM (hent.below bV)
 have TV := ahM (TX.out.below XO)
 rw [hV, N4]
 clear hrow HW hent hb1 bV kV XO P7
 refine (Cc AZ _ _ 0 0 6 cE [⟨iX, 0, 6, 0⟩] 0 V TV.out MN.out agO Qa.out).mono ?_
 rintro e W2 ⟨h, hb2⟩
 rcases h with ⟨-, hy⟩ | ⟨hn, -⟩
 case inr => exact absurd Oo hn
 obtain ⟨GA, PA, LA, AY, IA, DA, gc, pc, lc, rc, ic, dn, dc, rfl, hG, hP, hL, hR, hi1, hi2⟩ := Ox hy
 have HG := ahM hG
 have HP := ahM hP
 have HL := ahM hL
 have HR := ahM hR
 have HI := ahM (And.intro hi1 hi2)
 have B2 := ahM hb2
 have s2 := hb2.size
 clear hy hG hP hL hR hi1 hi2 hb2 hV N4
 go_upto_region 3 with fail
 obtain ⟨Y, hY, k2, k4, bY, sY⟩ := iU W2 #[.slice GA 3 gc, .slice PA 3 pc] #[.slice AY 3 rc, .slice IA 3 ic, .slice DA dn dc] 31 59
 rw [hY]
 obtain ⟨q2, hq2⟩ : ∃ q, W2.heap.size = q := ⟨_, rfl⟩
 obtain ⟨q4, hq4⟩ : ∃ q, q2 + 1 = q := ⟨_, rfl⟩
 rw [hq2, hq4] at k4
 rw [hq2] at k2
 rw [hq2, hq4]
 have lq2 : q2 < Y.heap.size := aB k2
 have lq4 : q4 < Y.heap.size := aB k4
 have g0 : Y.cell? ⟨q2, 0, none⟩ = some (.slice GA 3 gc) := by simp [World.cell?, k2]
 have g1 : Y.cell? ⟨q2, 1, none⟩ = some (.slice PA 3 pc) := by simp [World.cell?, k2]
 have r0 : Y.cell? ⟨q4, 0, none⟩ = some (.slice AY 3 rc) := by simp [World.cell?, k4]
 have r1 : Y.cell? ⟨q4, 1, none⟩ = some (.slice IA 3 ic) := by simp [World.cell?, k4]
 have r2 : Y.cell? ⟨q4, 2, none⟩ = some (.slice DA dn dc) := by simp [World.cell?, k4]
 have Ig : Below V.heap.size V Y := B2.out.trans (bY.mono B2.out.size)
 have z0 := (Ig.cell (p := ⟨b1, 0, none⟩) y4).trans y0
 have z1 := (Ig.cell (p := ⟨b1, 1, none⟩) y4).trans y1
 have z2 := (Ig.cell (p := ⟨b1, 2, none⟩) y4).trans y2
 have z3 := (Ig.cell (p := ⟨b1, 3, none⟩) y4).trans y3
 have z4 : b1 < Y.heap.size := by have := Ig.size; omega
 have BY := ahM (BV.out.trans (Ig.mono BV.out.size))
 have HLY := ahM (HL.out.below bY)
 have HFD := ahM (uN (.slice A 6 cap) (.slice EA 1 dP) _ _ 0 0 6 cE cL yz Y (TV.out.below Ig) (MN.out.below Ig) (HG.out.below bY) (HP.out.below bY) agQ agQ [qH] _ (HL.out.below bY) agQ agQ [true, true, true] _ (.slice IA 3 ic) (.slice DA dn dc) (HR.out.below bY) 3 ⟨IA, ic, rfl, HI.out⟩ (fun _ => BO))
 have Qc := ahM (show ∀ (W : World) (v1 v2 : Value) (p : Int), Below Y.heap.size Y W → Ints W v1 [1] → Ints W v2 [1] → Calls Tryz.prog 17 #[.agg #[.slice A 6 cap, .slice EA 1 dP, .int .i64 0, .int .i64 0], .agg #[.slice GA 3 gc, .slice PA 3 pc], .agg #[.int .i64 1, v1, v2, .int .i64 p]] W fun e w' => e = .returned (.tuple #[.int .i64 10, .int .i64 4, .bool true]) ∧ Below W.heap.size W w' from fun W v1 v2 p hb h1 h2 => by
  have h := pW (.slice A 6 cap) (.slice EA 1 dP) _ _ 0 0 6 cE cL yz W ((TV.out.below Ig).below hb) ((MN.out.below Ig).below hb) ((HG.out.below bY).below hb) ((HP.out.below bY).below hb) agQ agQ qH p v1 v2 h1 h2 agQ (fun _ => BO)
  rw [Ot] at h
  exact h)
 have pF := ahM (show oy 6 cE cL yz [qH] [true, true, true] 3 from ⟨yy, Hy, rfl, rfl, fun x hx => by
  obtain rfl : x = qH := by simpa using hx
  exact Ht⟩)
 clear hY k2 k4 bY sY hq2 hq4 Ig y0 y1 y2 y3 y4
 go_wp2_with fail
 refine HFD.out.mono ?_
 rintro e W3 ⟨hF, hb3⟩
 have hv := hF.yes pF.out
 rw [Oq] at hv
 obtain ⟨ov, rfl, WM⟩ := hv
 obtain ⟨oA, oc, WO, ho1, ho2⟩ := WM.slice
 have WO : ov = .slice oA 1 oc := WO
 subst WO
 obtain ⟨t, ob, oo, ht, hoA, jR, o1⟩ := (show Ints W3 (.slice oA ([4] : List Int).length oc) [4] from WM).at_ (Below.refl _ _) (j := 0) agQ
 subst hoA
 have ht : t = 4 := by simpa using ht.symm
 subst ht
 have ho1 : 1 ≤ oc := ho1
 rw [Nat.add_zero] at o1
 obtain ⟨lb, lo, x, A1, m1, cp1, A2, m2, cp2, p, N9, hlb, hx, l0, l1, l2, l3, h1, h2⟩ := HLY.out.at_ hb3 (k := 0) agQ
 have hx : x = qH := by simpa using hx.symm
 subst hx N9
 have l0 : W3.cell? ⟨lb, lo, none⟩ = some (.int .i64 1) := l0
 have l1 : W3.cell? ⟨lb, lo + 1, none⟩ = some (.slice A1 m1 cp1) := l1
 have l2 : W3.cell? ⟨lb, lo + 2, none⟩ = some (.slice A2 m2 cp2) := l2
 have l3 : W3.cell? ⟨lb, lo + 3, none⟩ = some (.int .i64 p) := l3
 have Qz : lb < W3.heap.size := by have := hb3.size; omega
 have g0' := (hb3.cell (p := ⟨q2, 0, none⟩) lq2).trans g0
 have g1' := (hb3.cell (p := ⟨q2, 1, none⟩) lq2).trans g1
 have z0' := (hb3.cell (p := ⟨b1, 0, none⟩) z4).trans z0
 have z1' := (hb3.cell (p := ⟨b1, 1, none⟩) z4).trans z1
 have Zm := (hb3.cell (p := ⟨b1, 2, none⟩) z4).trans z2
 have z3' := (hb3.cell (p := ⟨b1, 3, none⟩) z4).trans z3
 have s3 := hb3.size
 have ac0 : q2 < W3.heap.size := by omega
 have z4' : b1 < W3.heap.size := by omega
 have B3 := ahM (BY.out.trans (hb3.mono BY.out.size))
 have TU := ahM (show ∀ x : Ext W3, Calls Tryz.prog 17 #[.agg #[.slice A 6 cap, .slice EA 1 dP, .int .i64 0, .int .i64 0], .agg #[.slice GA 3 gc, .slice PA 3 pc], .agg #[.int .i64 1, .slice A1 m1 cp1, .slice A2 m2 cp2, .int .i64 p]] x.w fun e w' => e = .returned (.tuple #[.int .i64 10, .int .i64 4, .bool true]) ∧ Below x.w.heap.size x.w w' from fun x => Qc.out x.w _ _ p (hb3.trans (x.h.mono hb3.size)) ((h1.below hb3).below x.h) ((h2.below hb3).below x.h))
 have OB := ahM o1
 clear hF WM hx h1 h2 hb3 g0 g1 r0 r1 r2 z0 z1 z2 z3 HFD
 go_upto_region 6 with fail
 refine aj agP agP ?_
 repeat (go_big_quiet_step ((go_at_call 17; exact Calls.ax (TU.out _))))
 refine wpQuiet_nil ?_
 rintro _ ⟨x1, rfl⟩
 have o2 := (x1.h.cell (p := ⟨ob, oo, none⟩) jR).trans OB.out
 have o3 : ob < x1.w.heap.size := by have := x1.h.size; omega
 have BF := ahM (B3.out.trans (x1.h.mono B3.out.size))
 go_wp2_with fail
 go_ret
 exact ⟨rfl, BF.out⟩
end
section
open Go.RowKit
theorem I3.parts {w : World} {n : Nat} {cd : Nat → Int} {aD : List jJ} {sh lk task : Int} {e : Ending} (h : I3 w n cd aD sh lk task e) : ∃ (k : Nat) (en : jJ) (G : List aZ) (P : List (List Int)) (D : List Int) (L : List Lp) (s : AS) (GA PA LA AY IA DA : Option Addr) (gc pc lc rc ic dn dc : Nat), task = (k : Int) ∧ oC n cd aD sh lk k en G P ∧ Uk w cd G P (.slice GA G.length gc) (.slice PA P.length pc) (.slice LA L.length lc) (.slice AY G.length rc) (.slice IA G.length ic) (.slice DA dn dc) D L s ∧ e = .returned (.tuple #[.agg #[.slice GA G.length gc, .slice PA P.length pc], .slice LA L.length lc, .agg #[.slice AY G.length rc, .slice IA G.length ic, .slice DA dn dc], .bool true]) ∧ G.length ≤ ic ∧ ic ≤ maxLen := by
 obtain ⟨k, en, G, P, bv, pv, lv, rv, iv, dv, D, L, s, hk, hg, hA, he⟩ := h
 obtain ⟨A, c, hb, -, -⟩ := hA.Ie.slice
 obtain ⟨A', c', hp, -, -⟩ := hA.lls.slice
 obtain ⟨LA, lc, hl, -, -⟩ := hA.LJ.slice
 obtain ⟨AY, rc, hr, -, -, -⟩ := id hA.Bc
 obtain ⟨IA, ic, hi, hi1, hi2⟩ := hA.bu
 obtain ⟨DA, dn, dc, hd⟩ := hA.dvs
 rw [hA.l1] at hr
 rw [hA.l2] at hi hi1
 subst hb hp hl hr hi hd
 exact ⟨k, en, G, P, D, L, s, A, A', LA, AY, IA, DA, c, c', lc, rc, ic, dn, dc, hk, hg, hA, he, hi1, hi2⟩
theorem G2 {G : List aZ} (h2 : ∀ x ∈ G, x.nx.length ≤ 2) (k : Nat) : (jC G k []).length ≤ 2 * k := by
 unfold jC
 simp only [List.map_nil, List.append_nil]
 induction k with
 | zero => simp
 | succ k ih =>
  rw [List.range_succ, List.flatMap_append, List.length_append]
  have h : (G.getD k ⟨0, 0, []⟩).nx.length ≤ 2 := by
   by_cases hk : k < G.length
   ·rw [show G.getD k ⟨0, 0, []⟩ = G[k] by simp [List.getD, List.getElem?_eq_getElem hk]]
    exact h2 _ (List.getElem_mem hk)
   ·rw [show G.getD k ⟨0, 0, []⟩ = ⟨0, 0, []⟩ by simp [List.getD, List.getElem?_eq_none (by omega : G.length ≤ k)]]
    simp
  simp only [List.flatMap_cons, List.flatMap_nil, List.append_nil, List.length_map]
  omega
theorem iR.zL {G : List aZ} {P : List (List Int)} {ord : List Nat} {pos : Nat → Nat} {D : List Int} {L : List Lp} (h : iR P ord pos (jC G G.length []) D L) (hn : G.length ≤ 5000) (h2 : ∀ x ∈ G, x.nx.length ≤ 2) : ∀ x ∈ L, x.la.length ≤ 10000 := fun x hx => by
 rw [(h.each x hx).1]
 have h1 := xK ord pos (jC G G.length []) x.h.toNat
 have h3 := G2 h2 G.length
 simp only [bT, List.length_map]
 omega
theorem iR.hd {G : List aZ} {P : List (List Int)} {ord : List Nat} {pos : Nat → Nat} {D : List Int} {L : List Lp} (h : iR P ord pos (jC G G.length []) D L) (hV : cm G P) : ∀ x ∈ L, 0 ≤ x.h ∧ x.h < (G.length : Int) := fun x hx => by
 have h1 := (h.mem x.h).1 (List.mem_map.2 ⟨x, hx, rfl⟩)
 refine ⟨h1.1, ?_⟩
 cases hl : fV ord pos (jC G G.length []) x.h.toNat with
 | nil => exact absurd hl h1.2
 | cons a l =>
  have ha : a ∈ fV ord pos (jC G G.length []) x.h.toNat := by rw [hl]; simp
  unfold fV at ha
  obtain ⟨e, he, _⟩ := List.mem_map.1 ha
  obtain ⟨h3, h4⟩ := List.mem_filter.1 he
  obtain ⟨p, q, rfl, _, hq, _⟩ := vN hV h3
  have h5 := of_decide_eq_true h4
  have : (q : Int).toNat = x.h.toNat := h5.2.2
  omega
theorem iR.len {G : List aZ} {P : List (List Int)} {ord : List Nat} {pos : Nat → Nat} {D : List Int} {L : List Lp} (h : iR P ord pos (jC G G.length []) D L) (hV : cm G P) : L.length ≤ G.length := by
 have h1 := h.hd hV
 have h2 : (L.map fun x => x.h.toNat).Nodup := by
  have h3 := h.MG
  rw [List.pairwise_map] at h3
  unfold List.Nodup
  rw [List.pairwise_map]
  refine h3.imp_of_mem fun {a b} ha hb hab => ?_
  have := h1 a ha
  have := h1 b hb
  omega
 have h4 := fc (n := G.length) h2 (fun x hx => by
  obtain ⟨y, hy, rfl⟩ := List.mem_map.1 hx
  have := h1 y hy
  omega)
 simpa using h4
theorem Eb {f : Int → Int × Bool} (h : ∀ r, (f r).2 = false) : qg f gI = (0, 0, false) := by
 unfold gI
 simp [qg, h]
theorem BS {n : Nat} {cd : Nat → Int} {G : List aZ} {P : List (List Int)} {x : Lp} (h : ¬ (cm G P ∧ jK n cd G)) (r : Int) : iM n cd G P x r = (0, false) := by
 unfold iM
 rw [if_neg (fun k => h ⟨k.1, k.2.1⟩)]
theorem cm.nil {P : List (List Int)} (h : cm [] P) : False := h.ne rfl
end
section
open Go.RowKit
structure SR (w : World) (A : Option Addr) (m : Nat) (L : List Lp) (Q : List Qp) : Prop where
 len : Q.length = L.length
 lm : L.length = m
 each : ∀ (k : Nat) (q : Qp), Q[k]? = some q → ∃ x : Lp, L[k]? = some x ∧ q.h = x.h ∧ Ints w q.bv x.bl ∧ Ints w q.lv x.la
 cell : ∀ b off, A = some ⟨b, off, none⟩ → 0 < m → b < w.heap.size ∧ ∀ j u, (j8 Q)[j]? = some u → w.cell? ⟨b, off + j, none⟩ = some u
theorem qz (Q : List Qp) : (j8 Q).length = Q.length * 4 := by
 induction Q with
 | nil => rfl
 | cons x l ih =>
  have e : j8 (x :: l) = oz x ++ j8 l := by simp [j8]
  rw [e, List.length_append, ih, List.length_cons]
  simp [oz]
  omega
theorem sI.qof {w : World} {A : Option Addr} {m cap : Nat} {L : List Lp} (h : sI w (.slice A m cap) L) : ∃ Q, SR w A m L Q ∧ (0 < m → ∃ b off, A = some ⟨b, off, none⟩) := by
 obtain ⟨A', cap', e, _, _, h4⟩ := h
 cases e
 by_cases h0 : 0 < L.length
 ·obtain ⟨b, off, rfl, hlt, hc⟩ := h4 h0
  obtain ⟨Q, hQl, hQ⟩ := vr (P := fun k (q : Qp) => ∃ x : Lp, L[k]? = some x ∧ q.h = x.h ∧ Ints w q.bv x.bl ∧ Ints w q.lv x.la ∧ ∀ j u, (oz q)[j]? = some u → w.cell? ⟨b, off + k * 4 + j, none⟩ = some u) L.length (fun i hi => by
   obtain ⟨h1, ⟨v, h2, h3⟩, ⟨u, h5, h6⟩, p, h7⟩ := hc i _ (List.getElem?_eq_getElem hi)
   refine ⟨⟨(L[i]).h, v, u, p⟩, L[i], List.getElem?_eq_getElem hi, rfl, h3, h6, fun j u' hu => ?_⟩
   match j, hu with
   | 0, hu => simp [oz] at hu; subst hu; exact h1
   | 1, hu => simp [oz] at hu; subst hu; exact h2
   | 2, hu => simp [oz] at hu; subst hu; exact h5
   | 3, hu => simp [oz] at hu; subst hu; exact h7
   | j + 4, hu => simp [oz] at hu)
  refine ⟨Q, ⟨hQl, rfl, fun k q hq => ?_, fun b' off' e _ => ?_⟩, fun _ => ⟨b, off, rfl⟩⟩
  ·obtain ⟨x, h1, h2, h3, h5, _⟩ := hQ k q hq
   exact ⟨x, h1, h2, h3, h5⟩
  ·cases e
   refine ⟨hlt, fun j u hu => ?_⟩
   have hj := (List.getElem?_eq_some_iff.1 hu).1
   rw [qz] at hj
   have hk : j / 4 < Q.length := by omega
   obtain ⟨x, _, _, _, _, h6⟩ := hQ (j / 4) _ (List.getElem?_eq_getElem hk)
   have h7 := ru Q (j / 4) (j % 4) _ (List.getElem?_eq_getElem hk) agO
   have e : j / 4 * 4 + j % 4 = j := by omega
   rw [e, hu] at h7
   have h8 := h6 (j % 4) u h7.symm
   rw [show off + j / 4 * 4 + j % 4 = off + j by omega] at h8
   exact h8
 ·have hL : L = [] := List.length_eq_zero_iff.1 agO
  subst hL
  exact ⟨[], ⟨rfl, rfl, fun k q hq => by simp at hq, fun _ _ _ h => absurd h (Nat.lt_irrefl _)⟩, fun h => absurd h (Nat.lt_irrefl _)⟩
theorem SR.ones {w : World} {A : Option Addr} {m : Nat} {L : List Lp} {Q : List Qp} (h : SR w A m L Q) : ∀ u ∈ j8 Q, u.oneCell' = true := by
 intro u hu
 unfold j8 at hu
 obtain ⟨q, hq, hu⟩ := List.mem_flatMap.1 hu
 obtain ⟨k, hk⟩ := List.mem_iff_getElem?.1 hq
 obtain ⟨x, _, _, h1, h2⟩ := h.each k q hk
 obtain ⟨A1, c1, e1, -, -⟩ := h1.slice
 obtain ⟨A2, c2, e2, -, -⟩ := h2.slice
 simp only [oz, List.mem_cons, List.not_mem_nil, or_false] at hu
 rcases hu with rfl | rfl | rfl | rfl
 ·rfl
 ·rw [e1]; rfl
 ·rw [e2]; rfl
 ·rfl
theorem B9 {w W : World} {B : Nat} {v : Value} {A : Option Addr} {m : Nat} {L : List Lp} {Q : List Qp} {g : Int} (h : SR w A m L Q) (hb : Below w.heap.size w W) (hrow : W.ownsRow B 46 4 v (m + 1) (j8 Q ++ [.int .i64 g, .slice none 0 0, .slice none 0 0, .int .i64 (-1)])) :
  ∃ BA bc, v = .slice BA (m + 1) bc ∧ (m + 1 ≤ bc ∧ bc ≤ 2 ^ 63 - 1) ∧ sI W (.slice BA (m + 1) bc) (L ++ [⟨g, [], []⟩]) := by
 have hlm := h.lm
 have Py := h.len
 have e : j8 Q ++ [.int .i64 g, .slice none 0 0, .slice none 0 0, .int .i64 (-1)] = j8 (Q ++ [⟨g, .slice none 0 0, .slice none 0 0, -1⟩]) := by simp [j8, oz]
 rw [e] at hrow
 rcases hrow.2 with ⟨rfl, h0⟩ | ⟨q, cap, cur, rfl, h1, h2, h3, h4, _, _⟩
 ·omega
 ·refine ⟨_, cap, rfl, ⟨h3, dY h4⟩, ⟨_, cap, by rw [List.length_append, List.length_singleton, hlm], by rw [List.length_append, List.length_singleton, hlm]; exact h3, h4, fun _ => ⟨q, 0, rfl, (Array.getElem?_eq_some_iff.1 h2).1, fun k x hx => ?_⟩⟩⟩
  have hk := (List.getElem?_eq_some_iff.1 hx).1
  rw [List.length_append, List.length_singleton, hlm] at hk
  obtain ⟨y, hy⟩ : ∃ y, (Q ++ [⟨g, .slice none 0 0, .slice none 0 0, -1⟩])[k]? = some y := ⟨_, List.getElem?_eq_getElem (by rw [List.length_append, List.length_singleton, Py, hlm]; exact hk)⟩
  have c : ∀ j, j < 4 → W.cell? ⟨q, 0 + k * 4 + j, none⟩ = (oz y)[j]? := fun j hj => by
   rw [Nat.zero_add, hrow.cellAt _ agO, ru _ k j y hy hj]
  have c0 := c 0 agO
  rw [Nat.add_zero] at c0
  have hp : y.h = x.h ∧ Ints W y.bv x.bl ∧ Ints W y.lv x.la := by
   by_cases hkm : k < Q.length
   ·rw [List.getElem?_append_left hkm] at hy
    rw [List.getElem?_append_left agO] at hx
    obtain ⟨x', e1, e2, e3, e4⟩ := h.each k y hy
    rw [hx] at e1
    cases e1
    exact ⟨e2, e3.below hb, e4.below hb⟩
   ·have hk2 : k = Q.length := by omega
    subst hk2
    rw [List.getElem?_append_right (Nat.le_refl _), Nat.sub_self] at hy
    rw [Py, List.getElem?_append_right (Nat.le_refl _), Nat.sub_self] at hx
    simp at hx hy
    subst hx hy
    exact ⟨rfl, jA _, jA _⟩
  exact ⟨by rw [c0, ← hp.1]; rfl, ⟨_, c 1 agO, hp.2.1⟩, ⟨_, c 2 agO, hp.2.2⟩, _, c 3 agO⟩
end
end Go.Proofs.YtlmgkipmfgijiaaGreatDoor
