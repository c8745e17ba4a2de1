/-
  What is proved here: parts dAw, dAw2, dLw.
-/
import Derived.Test.YtlmgkipmfgijiaaGreatDoorXa
import Derived.Test.YtlmgkipmfgijiaaGreatDoorXr
import Derived.Test.YtlmgkipmfgijiaaGreatDoorXb
import Derived.Laws.EntriesVeiled
namespace Go.Proofs.YtlmgkipmfgijiaaGreatDoor
set_option linter.unusedVariables false
set_option linter.unusedSimpArgs false
set_option maxRecDepth 100000
set_option maxHeartbeats 8000000
section
open Go.RowKit
def vE (n : Nat) (aC : List gR) (sh : Int) : Prop := n ≤ 90 ∧ aC.length ≤ 4 ∧ sh ≤ 64
instance (n : Nat) (aC : List gR) (sh : Int) : Decidable (vE n aC sh) := by unfold vE; infer_instance
def oV (n : Nat) (aC : List gR) (sh : Int) : Int := if vE n aC sh then 1 else 0
theorem Dr (cv ev : Value) (sh lk : Int) (n : Nat) (cd : Nat → Int) (aC : List gR) (w : World) (HW : kA w cv n cd) (HE : nM w ev aC) :
  Calls Tryz.prog 11 #[.agg #[cv, ev, .int .i64 sh, .int .i64 lk]] w fun e w' => e = .returned (.int .i64 (oV n aC sh)) ∧ Below w.heap.size w w' := by
 obtain ⟨A, cap, rfl, hc1, hc2, -⟩ := HW.at_
 obtain ⟨EA, dS, rfl, he1, he2, -⟩ := HE.at_
 have h63 : aC.length ≤ 2 ^ 63 - 1 := by unfold maxLen at he2; omega
 have h64 : n ≤ 2 ^ 63 - 1 := by unfold maxLen at hc2; omega
 obtain ⟨V, hV⟩ : ∃ V, w.alloc (.cells #[.slice A n cap, .slice EA aC.length dS, .int .i64 sh, .int .i64 lk] 25) = V := ⟨_, rfl⟩
 have k0 : V.heap[w.heap.size]? = some (.cells #[.slice A n cap, .slice EA aC.length dS, .int .i64 sh, .int .i64 lk] 25 (0, 0)) := hV ▸ heap_alloc_new _ _
 obtain ⟨y0, y1, y2, y3, y4⟩ := cK k0
 have BV := aiU (show Below w.heap.size w V from hV ▸ (Below.refl _ _).alloc (Nat.le_refl _) _)
 obtain ⟨m, hm⟩ : ∃ m, aC.length = m := ⟨_, rfl⟩
 obtain ⟨r, hr⟩ : ∃ r, oV n aC sh = r := ⟨_, rfl⟩
 rw [hr]
 have HR := aiU (show r = if n ≤ 90 ∧ m ≤ 4 ∧ sh ≤ 64 then 1 else 0 by rw [← hr, ← hm]; rfl)
 rw [hm] at y1 h63 hV he1
 rw [hm]
 clear k0 HW HE hr hm he2 hc2
 go_enter Tryz.func11, Tryz.ntmps11
 by_cases h1 : n ≤ 90
 ·have d1 : decide (90 < (n : Int)) = false := decide_eq_false ahU
  have d1' : decide (90 < n) = false := decide_eq_false ahU
  by_cases h2 : m ≤ 4
  ·have d2 : decide (4 < (m : Int)) = false := decide_eq_false ahU
   have d2' : decide (4 < m) = false := decide_eq_false ahU
   by_cases h3 : sh ≤ 64
   ·have d3 : decide (64 < sh) = false := decide_eq_false ahU
    have HF := aiU (show r = 1 by rw [HR.out, if_pos ⟨h1, h2, h3⟩])
    clear h1 h2 h3
    go_wp2_with fail
    go_ret
    exact ⟨by rw [HF.out]; rfl, BV.out⟩
   ·have d3 : decide (64 < sh) = true := decide_eq_true ahU
    have HF := aiU (show r = 0 by rw [HR.out, if_neg (fun h => h3 h.2.2)])
    clear h1 h2 h3
    go_wp2_with fail
    go_ret
    exact ⟨by rw [HF.out]; rfl, BV.out⟩
  ·have d2 : decide (4 < (m : Int)) = true := decide_eq_true ahU
   have d2' : decide (4 < m) = true := decide_eq_true ahU
   have HF := aiU (show r = 0 by rw [HR.out, if_neg (fun h => h2 h.2.1)])
   clear h1 h2
   go_wp2_with fail
   go_ret
   exact ⟨by rw [HF.out]; rfl, BV.out⟩
 ·have d1 : decide (90 < (n : Int)) = true := decide_eq_true ahU
  have d1' : decide (90 < n) = true := decide_eq_true ahU
  have HF := aiU (show r = 0 by rw [HR.out, if_neg (fun h => h1 h.1)])
  clear h1
  go_wp2_with fail
  go_ret
  exact ⟨by rw [HF.out]; rfl, BV.out⟩
theorem I3 {w : World} {B : Nat} {A : Option Addr} {cap : Nat} (h : w.ownsRow B 70 1 (.slice A 6 cap) 6 (MH (ND.map fun i => (encI i).1))) : Words w (.slice A 6 cap) 6 cG :=
 DC (ws := YR) h ahW TP
theorem PN {w : World} {e : Ending} (h : JS w 6 cG [⟨jl, 0, 6, 0⟩] 0 0 0 e) : ∃ (A A' LA Bv IA DA : Option Addr) (c c' lc rc ic dn dc : Nat), e = .returned (.tuple #[.agg #[.slice A 3 c, .slice A' 3 c'], .slice LA 1 lc, .agg #[.slice Bv 3 rc, .slice IA 3 ic, .slice DA dn dc], .bool true]) ∧ fL w (.slice A 3 c) cN ∧ mG w (.slice A' 3 c') yT ∧ tv w (.slice LA 1 lc) [qT] ∧ tP w (.slice Bv 3 rc) [true, true, true] ∧ 3 ≤ ic ∧ ic ≤ maxLen := by
 obtain ⟨k, en, G, P, bv, pv, lv, rv, iv, dv, D, L, s, hk, hg, hA, he⟩ := h
 obtain rfl : k = 0 := by omega
 obtain rfl : (⟨jl, 0, 6, 0⟩ : gR) = en := by have := hg.he; simpa using this
 have ho := Pz hg.out
 injection ho with e1 e2
 subst e1 e2
 have hs := I8 hA.ends
 subst hs
 have hL := I6 hA.loops
 subst hL
 obtain ⟨A, c, hb, -, -⟩ := hA.Jk.slice
 obtain ⟨A', c', hp, -, -⟩ := hA.lls.slice
 obtain ⟨LA, lc, hl, -, -⟩ := hA.MN.slice
 obtain ⟨Bv, rc, hr, -, -, -⟩ := id hA.BP
 obtain ⟨IA, ic, hi, hi1, hi2⟩ := hA.bC
 obtain ⟨DA, dn, dc, hd⟩ := hA.dvs
 have hb : bv = .slice A 3 c := hb
 have hp : pv = .slice A' 3 c' := hp
 have hl : lv = .slice LA 1 lc := hl
 have hr : rv = .slice Bv 3 rc := hr
 have hi : iv = .slice IA 3 ic := hi
 subst hb hp hl hr hi hd
 exact ⟨A, A', LA, Bv, IA, DA, c, c', lc, rc, ic, dn, dc, he, hA.Jk, hA.lls, hA.MN, hA.BP, hi1, hi2⟩
theorem I7 : kN 6 cG [⟨jl, 0, 6, 0⟩] 0 0 0 ⟨jl, 0, 6, 0⟩ cN yT := by
 refine ⟨rfl, Mc, ?_⟩
 have hR : fQ (au cG) 0 6 [0, 1, 2, 3, 4, 5] [] (-1) := by
  refine ⟨by decide, fun a ha => (Bf a).2 ha, by simp, fun a ha t ht h1 h2 => .inl ?_, .inl ahZ, .inl ⟨rfl, fun a ha => Cy a ha⟩⟩
  simp; omega
 have h := Out.ok (c := au cG) (st := 0) (en := 6) _ hR
 rw [show ((6 : Int) - 0).toNat = 6 from rfl, Jd, NC, NB] at h
 exact h
theorem PD : uk 6 cG [⟨jl, 0, 6, 0⟩] 0 0 0 := ⟨0, _, cN, yT, rfl, I7, fun D _ => Me D⟩
end
section
open Go.RowKit
theorem Bj (AZ : qW) (w : World) (T : gZ w) : Calls Tryz.prog 10 #[] w fun e w' => e = .returned (.bool true) ∧ Below w.heap.size w w' := by
 obtain ⟨X, hX⟩ : ∃ X, w.alloc (.cells (kT ND).toArray 67) = X := ⟨_, rfl⟩
 have bX : Below w.heap.size w X := hX ▸ (Below.refl _ _).alloc (Nat.le_refl _) _
 have kX : X.heap[w.heap.size]? = some (.cells (kT ND).toArray 67 (0, 0)) := hX ▸ heap_alloc_new _ _
 have Rf := aiU (show Uh X (.slice (some ⟨w.heap.size, 0, none⟩) 6 6) ND from ⟨_, 6, rfl, Nat.le_refl _, by unfold maxLen; omega, fun _ => ⟨w.heap.size, 0, rfl, aB kX, fun i x hx => by
  have c : ∀ j, j < 5 → X.cell? ⟨w.heap.size, 0 + i * 5 + j, none⟩ = (Fk x)[j]? := fun j hj => by
   rw [Nat.zero_add]
   simp only [World.cell?, kX]
   rw [← vQ ND i j x hx hj]
   simp
  exact ⟨c 0 ahU, c 1 ahU, c 2 ahU, c 3 ahU, c 4 ahU⟩⟩⟩)
 have TX := aiU (T.below bX)
 have BX := aiU bX
 clear T bX kX
 have hX' : w.alloc (.cells #[.int .u8 14, .int .i64 10, .int .i64 0, .int .i64 0, .int .i64 0, .int .u8 25, .int .i64 10, .int .i64 0, .int .i64 0, .int .i64 4, .int .u8 15, .int .i64 10, .int .i64 10, .int .i64 0, .int .i64 1, .int .u8 15, .int .i64 5, .int .i64 10, .int .i64 0, .int .i64 (-4), .int .u8 23, .int .i64 5, .int .i64 0, .int .i64 0, .int .i64 (-4), .int .u8 1, .int .i64 0, .int .i64 0, .int .i64 0, .int .i64 0] 67) = X := hX
 clear hX
 go_enter Tryz.func10, Tryz.ntmps10
 go_wp2_with fail
 refine (E0 _ ND X TX.out Rf.out ahW ahW).mono ?_
 rintro e W1 ⟨⟨cv, ev, A, cap, rfl, hcv, hrow, hent⟩, hb1⟩
 have hcv : cv = .slice A 6 cap := hcv
 subst hcv
 have hrow : W1.ownsRow X.heap.size 70 1 (.slice A 6 cap) 6 (MH (ND.map fun i => (encI i).1)) := hrow
 have HW := I3 hrow
 have hent : nM W1 ev [⟨jl, 0, 6, 0⟩] := hent
 obtain ⟨EA, dS, hev, -, -, -⟩ := hent.at_
 have hev : ev = .slice EA 1 dS := hev
 subst hev
 clear hX'
 go_wp2_with fail
 obtain ⟨V, hV⟩ : ∃ V, W1.alloc (.cells #[.slice A 6 cap, .slice EA 1 dS, .int .i64 0, .int .i64 0] 25) = V := ⟨_, rfl⟩
 obtain ⟨b1, Pa⟩ : ∃ b, W1.heap.size = b := ⟨_, rfl⟩
 have bV : Below W1.heap.size W1 V := hV ▸ (Below.refl _ _).alloc (Nat.le_refl _) _
 have kV : V.heap[b1]? = some (.cells #[.slice A 6 cap, .slice EA 1 dS, .int .i64 0, .int .i64 0] 25 (0, 0)) := by rw [← Pa]; exact hV ▸ heap_alloc_new _ _
 obtain ⟨y0, y1, y2, y3, y4⟩ := cK kV
 have YV : Below X.heap.size X V := hb1.trans (bV.mono hb1.size)
 have BV := aiU (BX.out.trans (YV.mono BX.out.size))
 have NP := aiU (HW.below bV)
 have Rj := aiU (hent.below bV)
 have TV := aiU (TX.out.below YV)
 rw [hV, Pa]
 clear hrow HW hent hb1 bV kV YV Rf
 refine (CN AZ _ _ 0 0 6 cG [⟨jl, 0, 6, 0⟩] 0 V TV.out NP.out ahU Rj.out).mono ?_
 rintro e W2 ⟨h, hb2⟩
 rcases h with ⟨-, hy⟩ | ⟨hn, -⟩
 case inr => exact absurd PD hn
 obtain ⟨GA, PA, LA, Bv, IA, DA, gc, pc, lc, rc, ic, dn, dc, rfl, hG, hP, hL, hR, hi1, hi2⟩ := PN hy
 have HG := aiU hG
 have HP := aiU hP
 have HL := aiU hL
 have HR := aiU hR
 have HI := aiU (And.intro hi1 hi2)
 have B2 := aiU hb2
 have s2 := hb2.size
 clear hy hG hP hL hR hi1 hi2 hb2 hV Pa
 go_upto_region 3 with fail
 obtain ⟨Y, hY, k2, k4, bY, sY⟩ := ji W2 #[.slice GA 3 gc, .slice PA 3 pc] #[.slice Bv 3 rc, .slice IA 3 ic, .slice DA dn dc] 31 59
 rw [hY]
 obtain ⟨q2, hq2⟩ : ∃ q, W2.heap.size = q := ⟨_, rfl⟩
 obtain ⟨q4, hq4⟩ : ∃ q, q2 + 1 = q := ⟨_, rfl⟩
 rw [hq2, hq4] at k4
 rw [hq2] at k2
 rw [hq2, hq4]
 have lq2 : q2 < Y.heap.size := aB k2
 have lq4 : q4 < Y.heap.size := aB k4
 have g0 : Y.cell? ⟨q2, 0, none⟩ = some (.slice GA 3 gc) := by simp [World.cell?, k2]
 have g1 : Y.cell? ⟨q2, 1, none⟩ = some (.slice PA 3 pc) := by simp [World.cell?, k2]
 have r0 : Y.cell? ⟨q4, 0, none⟩ = some (.slice Bv 3 rc) := by simp [World.cell?, k4]
 have r1 : Y.cell? ⟨q4, 1, none⟩ = some (.slice IA 3 ic) := by simp [World.cell?, k4]
 have r2 : Y.cell? ⟨q4, 2, none⟩ = some (.slice DA dn dc) := by simp [World.cell?, k4]
 have Jl : Below V.heap.size V Y := B2.out.trans (bY.mono B2.out.size)
 have z0 := (Jl.cell (p := ⟨b1, 0, none⟩) y4).trans y0
 have z1 := (Jl.cell (p := ⟨b1, 1, none⟩) y4).trans y1
 have z2 := (Jl.cell (p := ⟨b1, 2, none⟩) y4).trans y2
 have z3 := (Jl.cell (p := ⟨b1, 3, none⟩) y4).trans y3
 have z4 : b1 < Y.heap.size := by have := Jl.size; omega
 have BY := aiU (BV.out.trans (Jl.mono BV.out.size))
 have HLY := aiU (HL.out.below bY)
 have HFD := aiU (vp (.slice A 6 cap) (.slice EA 1 dS) _ _ 0 0 6 cG cN yT Y (TV.out.below Jl) (NP.out.below Jl) (HG.out.below bY) (HP.out.below bY) ahW ahW [qT] _ (HL.out.below bY) ahW ahW [true, true, true] _ (.slice IA 3 ic) (.slice DA dn dc) (HR.out.below bY) 3 ⟨IA, ic, rfl, HI.out⟩ (fun _ => Cz))
 have Rl := aiU (show ∀ (W : World) (v1 v2 : Value) (p : Int), Below Y.heap.size Y W → Ints W v1 [1] → Ints W v2 [1] → Calls Tryz.prog 17 #[.agg #[.slice A 6 cap, .slice EA 1 dS, .int .i64 0, .int .i64 0], .agg #[.slice GA 3 gc, .slice PA 3 pc], .agg #[.int .i64 1, v1, v2, .int .i64 p]] W fun e w' => e = .returned (.tuple #[.int .i64 10, .int .i64 4, .bool true]) ∧ Below W.heap.size W w' from fun W v1 v2 p hb h1 h2 => by
  have h := qj (.slice A 6 cap) (.slice EA 1 dS) _ _ 0 0 6 cG cN yT W ((TV.out.below Jl).below hb) ((NP.out.below Jl).below hb) ((HG.out.below bY).below hb) ((HP.out.below bY).below hb) ahW ahW qT p v1 v2 h1 h2 ahW (fun _ => Cz)
  rw [PG] at h
  exact h)
 have pQ := aiU (show oN 6 cG cN yT [qT] [true, true, true] 3 from ⟨yS, Ja, rfl, rfl, fun x hx => by
  obtain rfl : x = qT := by simpa using hx
  exact I5⟩)
 clear hY k2 k4 bY sY hq2 hq4 Jl y0 y1 y2 y3 y4
 go_wp2_with fail
 refine HFD.out.mono ?_
 rintro e W3 ⟨hF, hb3⟩
 have hv := hF.yes pQ.out
 rw [PE] at hv
 obtain ⟨ov, rfl, X0⟩ := hv
 obtain ⟨oA, oc, X5, ho1, ho2⟩ := X0.slice
 have X5 : ov = .slice oA 1 oc := X5
 subst X5
 obtain ⟨t, ob, oo, ht, hoA, j6, o1⟩ := (show Ints W3 (.slice oA ([4] : List Int).length oc) [4] from X0).at_ (Below.refl _ _) (j := 0) ahW
 subst hoA
 have ht : t = 4 := by simpa using ht.symm
 subst ht
 have ho1 : 1 ≤ oc := ho1
 rw [Nat.add_zero] at o1
 obtain ⟨lb, lo, x, A1, m1, cp1, A2, m2, cp2, p, Pj, hlb, hx, l0, l1, l2, l3, h1, h2⟩ := HLY.out.at_ hb3 (k := 0) ahW
 have hx : x = qT := by simpa using hx.symm
 subst hx Pj
 have l0 : W3.cell? ⟨lb, lo, none⟩ = some (.int .i64 1) := l0
 have l1 : W3.cell? ⟨lb, lo + 1, none⟩ = some (.slice A1 m1 cp1) := l1
 have l2 : W3.cell? ⟨lb, lo + 2, none⟩ = some (.slice A2 m2 cp2) := l2
 have l3 : W3.cell? ⟨lb, lo + 3, none⟩ = some (.int .i64 p) := l3
 have RN : lb < W3.heap.size := by have := hb3.size; omega
 have g0' := (hb3.cell (p := ⟨q2, 0, none⟩) lq2).trans g0
 have g1' := (hb3.cell (p := ⟨q2, 1, none⟩) lq2).trans g1
 have z0' := (hb3.cell (p := ⟨b1, 0, none⟩) z4).trans z0
 have z1' := (hb3.cell (p := ⟨b1, 1, none⟩) z4).trans z1
 have z2' := (hb3.cell (p := ⟨b1, 2, none⟩) z4).trans z2
 have z3' := (hb3.cell (p := ⟨b1, 3, none⟩) z4).trans z3
 have s3 := hb3.size
 have ad6 : q2 < W3.heap.size := by omega
 have z4' : b1 < W3.heap.size := by omega
 have B3 := aiU (BY.out.trans (hb3.mono BY.out.size))
 have Vb := aiU (show ∀ x : Ext W3, Calls Tryz.prog 17 #[.agg #[.slice A 6 cap, .slice EA 1 dS, .int .i64 0, .int .i64 0], .agg #[.slice GA 3 gc, .slice PA 3 pc], .agg #[.int .i64 1, .slice A1 m1 cp1, .slice A2 m2 cp2, .int .i64 p]] x.w fun e w' => e = .returned (.tuple #[.int .i64 10, .int .i64 4, .bool true]) ∧ Below x.w.heap.size x.w w' from fun x => Rl.out x.w _ _ p (hb3.trans (x.h.mono hb3.size)) ((h1.below hb3).below x.h) ((h2.below hb3).below x.h))
 have OB := aiU o1
 clear hF X0 hx h1 h2 hb3 g0 g1 r0 r1 r2 z0 z1 z2 z3 HFD
 go_upto_region 6 with fail
 refine aj ahV ahV ?_
 repeat (go_big_quiet_step ((go_at_call 17; exact Calls.ax (Vb.out _))))
 refine wpQuiet_nil ?_
 rintro _ ⟨x1, rfl⟩
 have o2 := (x1.h.cell (p := ⟨ob, oo, none⟩) j6).trans OB.out
 have o3 : ob < x1.w.heap.size := by have := x1.h.size; omega
 have BF := aiU (B3.out.trans (x1.h.mono B3.out.size))
 go_wp2_with fail
 go_ret
 exact ⟨rfl, BF.out⟩
end
section
open Go.RowKit
theorem JS.parts {w : World} {n : Nat} {cd : Nat → Int} {aC : List gR} {sh lk task : Int} {e : Ending} (h : JS w n cd aC sh lk task e) : ∃ (k : Nat) (en : gR) (G : List aU) (P : List (List Int)) (D : List Int) (L : List Lp) (s : AS) (GA PA LA Bv IA DA : Option Addr) (gc pc lc rc ic dn dc : Nat), task = (k : Int) ∧ kN n cd aC sh lk k en G P ∧ Vs w cd G P (.slice GA G.length gc) (.slice PA P.length pc) (.slice LA L.length lc) (.slice Bv G.length rc) (.slice IA G.length ic) (.slice DA dn dc) D L s ∧ e = .returned (.tuple #[.agg #[.slice GA G.length gc, .slice PA P.length pc], .slice LA L.length lc, .agg #[.slice Bv G.length rc, .slice IA G.length ic, .slice DA dn dc], .bool true]) ∧ G.length ≤ ic ∧ ic ≤ maxLen := by
 obtain ⟨k, en, G, P, bv, pv, lv, rv, iv, dv, D, L, s, hk, hg, hA, he⟩ := h
 obtain ⟨A, c, hb, -, -⟩ := hA.Jk.slice
 obtain ⟨A', c', hp, -, -⟩ := hA.lls.slice
 obtain ⟨LA, lc, hl, -, -⟩ := hA.MN.slice
 obtain ⟨Bv, rc, hr, -, -, -⟩ := id hA.BP
 obtain ⟨IA, ic, hi, hi1, hi2⟩ := hA.bC
 obtain ⟨DA, dn, dc, hd⟩ := hA.dvs
 rw [hA.l1] at hr
 rw [hA.l2] at hi hi1
 subst hb hp hl hr hi hd
 exact ⟨k, en, G, P, D, L, s, A, A', LA, Bv, IA, DA, c, c', lc, rc, ic, dn, dc, hk, hg, hA, he, hi1, hi2⟩
theorem Iz {G : List aU} (h2 : ∀ x ∈ G, x.nx.length ≤ 2) (k : Nat) : (jb G k []).length ≤ 2 * k := by
 unfold jb
 simp only [List.map_nil, List.append_nil]
 induction k with
 | zero => simp
 | succ k ih =>
  rw [List.range_succ, List.flatMap_append, List.length_append]
  have h : (G.getD k ⟨0, 0, []⟩).nx.length ≤ 2 := by
   by_cases hk : k < G.length
   ·rw [show G.getD k ⟨0, 0, []⟩ = G[k] by simp [List.getD, List.getElem?_eq_getElem hk]]
    exact h2 _ (List.getElem_mem hk)
   ·rw [show G.getD k ⟨0, 0, []⟩ = ⟨0, 0, []⟩ by simp [List.getD, List.getElem?_eq_none (by omega : G.length ≤ k)]]
    simp
  simp only [List.flatMap_cons, List.flatMap_nil, List.append_nil, List.length_map]
  omega
theorem fl.Ah {G : List aU} {P : List (List Int)} {ord : List Nat} {pos : Nat → Nat} {D : List Int} {L : List Lp} (h : fl P ord pos (jb G G.length []) D L) (hn : G.length ≤ 5000) (h2 : ∀ x ∈ G, x.nx.length ≤ 2) : ∀ x ∈ L, x.la.length ≤ 10000 := fun x hx => by
 rw [(h.each x hx).1]
 have h1 := yf ord pos (jb G G.length []) x.h.toNat
 have h3 := Iz h2 G.length
 simp only [cm, List.length_map]
 omega
theorem fl.hd {G : List aU} {P : List (List Int)} {ord : List Nat} {pos : Nat → Nat} {D : List Int} {L : List Lp} (h : fl P ord pos (jb G G.length []) D L) (hV : bQ G P) : ∀ x ∈ L, 0 ≤ x.h ∧ x.h < (G.length : Int) := fun x hx => by
 have h1 := (h.mem x.h).1 (List.mem_map.2 ⟨x, hx, rfl⟩)
 refine ⟨h1.1, ?_⟩
 cases hl : gh ord pos (jb G G.length []) x.h.toNat with
 | nil => exact absurd hl h1.2
 | cons a l =>
  have ha : a ∈ gh ord pos (jb G G.length []) x.h.toNat := by rw [hl]; simp
  unfold gh at ha
  obtain ⟨e, he, _⟩ := List.mem_map.1 ha
  obtain ⟨h3, h4⟩ := List.mem_filter.1 he
  obtain ⟨p, q, rfl, _, hq, _⟩ := wu hV h3
  have h5 := of_decide_eq_true h4
  have : (q : Int).toNat = x.h.toNat := h5.2.2
  omega
theorem fl.len {G : List aU} {P : List (List Int)} {ord : List Nat} {pos : Nat → Nat} {D : List Int} {L : List Lp} (h : fl P ord pos (jb G G.length []) D L) (hV : bQ G P) : L.length ≤ G.length := by
 have h1 := h.hd hV
 have h2 : (L.map fun x => x.h.toNat).Nodup := by
  have h3 := h.Fq
  rw [List.pairwise_map] at h3
  unfold List.Nodup
  rw [List.pairwise_map]
  refine h3.imp_of_mem fun {a b} ha hb hab => ?_
  have := h1 a ha
  have := h1 b hb
  omega
 have h4 := fy (n := G.length) h2 (fun x hx => by
  obtain ⟨y, hy, rfl⟩ := List.mem_map.1 hx
  have := h1 y hy
  omega)
 simpa using h4
theorem EH {f : Int → Int × Bool} (h : ∀ r, (f r).2 = false) : ko f gY = (0, 0, false) := by
 unfold gY
 simp [ko, h]
theorem CE {n : Nat} {cd : Nat → Int} {G : List aU} {P : List (List Int)} {x : Lp} (h : ¬ (bQ G P ∧ fD n cd G)) (r : Int) : gv n cd G P x r = (0, false) := by
 unfold gv
 rw [if_neg (fun k => h ⟨k.1, k.2.1⟩)]
theorem bQ.nil {P : List (List Int)} (h : bQ [] P) : False := h.ne rfl
end
end Go.Proofs.YtlmgkipmfgijiaaGreatDoor
