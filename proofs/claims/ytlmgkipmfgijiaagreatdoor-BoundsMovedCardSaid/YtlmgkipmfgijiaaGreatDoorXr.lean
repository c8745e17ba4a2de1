/-
  What is proved here: parts dAnz.
-/
import Derived.Test.YtlmgkipmfgijiaaGreatDoorXa
import Derived.Test.YtlmgkipmfgijiaaGreatDoorXq
import Derived.Test.YtlmgkipmfgijiaaGreatDoorXf
import Derived.Test.YtlmgkipmfgijiaaGreatDoorXb
import Derived.Laws.CopyOwn
import Derived.Deep.RegionHeld3
namespace Go.Proofs.YtlmgkipmfgijiaaGreatDoor
set_option linter.unusedVariables false
set_option linter.unusedSimpArgs false
set_option maxRecDepth 100000
set_option maxHeartbeats 8000000
section
open Go.RowKit
theorem jX {P : Program} {fn : Func} {a u b v : Tmp} {ty tz : TypeId} (h : fn.results = #[.cell a ty, .tmp u, .cell b tz, .tmp v]) (tmps : Array Value) (w : World) (p q : Nat) (cs ds : List Value) (d d' : TypeDesc) (ha : tmps.getD a undef = .pointer (some ⟨p, 0, none⟩)) (hc : w.rangeAt p 0 cs) (hb : tmps.getD b undef = .pointer (some ⟨q, 0, none⟩)) (hd' : w.rangeAt q 0 ds)
  (hu : P.underlying ty = some d) (hd : d.isRow = true) (hi : (P.info? ty).map (·.size) = some cs.length) (hu' : P.underlying tz = some d') (hdd : d'.isRow = true) (hi' : (P.info? tz).map (·.size) = some ds.length) : (results fn tmps).run P w = .ok (.tuple #[.agg cs.toArray, tmps.getD u undef, .agg ds.toArray, tmps.getD v undef]) w := by
 have h1 := run_loadVar_mid (P := P) w p 0 ty cs d hc hu hd hi
 have h2 := run_loadVar_mid (P := P) w q 0 tz ds d' hd' hu' hdd hi'
 simp only [results, h]
 simp only [List.mapM_toArray, List.mapM_cons, List.mapM_nil, ha, hb, Sem.run_bind, Sem.run_pure, iR, Result.andThen_ok, h1, h2, Sem.run_map, pure_bind, bind_pure]
 simp [h1, h2, iR]
theorem F0 {w F : World} {q4 q6 : Nat} {a b c d e : Value} {T U : TypeId} {z : Value} (h4 : w.heap[q4]? = some (.cells #[z, z] T (0, 0))) (h6 : w.heap[q6]? = some (.cells #[z, z, z] U (0, 0))) (hne : q4 ≠ q6)
  (hF : F = ((((w.setCell ⟨q4, 0, none⟩ a).setCell ⟨q4, 1, none⟩ b).setCell ⟨q6, 0, none⟩ c).setCell ⟨q6, 1, none⟩ d).setCell ⟨q6, 2, none⟩ e) :
  F.heap[q4]? = some (.cells #[a, b] T (0, 0)) ∧ F.heap[q6]? = some (.cells #[c, d, e] U (0, 0)) ∧ (∀ p, ¬ (p = q4 ∨ p = q6) → F.heap[p]? = w.heap[p]?) ∧ w.heap.size ≤ F.heap.size ∧ (∀ (B : Nat) (V : World), Below B V w → B ≤ q4 → B ≤ q6 → Below B V F) := by
 have a1 := heap_setCell_same w q4 0 _ _ a h4
 have a2 := heap_setCell_same _ q4 1 _ _ b a1
 have c0 : ((w.setCell ⟨q4, 0, none⟩ a).setCell ⟨q4, 1, none⟩ b).heap[q6]? = _ := (Below.heap_setCell _ _ _ _ (Ne.symm hne)).trans ((Below.heap_setCell _ _ _ _ (Ne.symm hne)).trans h6)
 have c1 := heap_setCell_same _ q6 0 _ _ c c0
 have c2 := heap_setCell_same _ q6 1 _ _ d c1
 have c3 := heap_setCell_same _ q6 2 _ _ e c2
 subst hF
 refine ⟨?_, ?_, fun p hp => ?_, by simp, fun B V h h4 h6 => ?_⟩
 ·rw [Below.heap_setCell _ _ _ _ (by show q4 ≠ q6; exact hne), Below.heap_setCell _ _ _ _ (by show q4 ≠ q6; exact hne), Below.heap_setCell _ _ _ _ (by show q4 ≠ q6; exact hne)]
  exact a2
 ·exact c3
 ·have p4 : p ≠ q4 := fun e => hp (.inl e)
  have p6 : p ≠ q6 := fun e => hp (.inr e)
  rw [Below.heap_setCell _ _ _ _ (by show p ≠ q6; exact p6), Below.heap_setCell _ _ _ _ (by show p ≠ q6; exact p6), Below.heap_setCell _ _ _ _ (by show p ≠ q6; exact p6), Below.heap_setCell _ _ _ _ (by show p ≠ q4; exact p4), Below.heap_setCell _ _ _ _ (by show p ≠ q4; exact p4)]
 ·exact (((((h.setCell (p := ⟨q4, 0, none⟩) h4 _).setCell (p := ⟨q4, 1, none⟩) h4 _).setCell (p := ⟨q6, 0, none⟩) h6 _).setCell (p := ⟨q6, 1, none⟩) h6 _).setCell (p := ⟨q6, 2, none⟩) h6 _)
structure Vs (w : World) (cd : Nat → Int) (G : List aU) (P : List (List Int)) (bv pv lv rv iv dv : Value) (D : List Int) (L : List Lp) (s : AS) : Prop where
 Jk : fL w bv G
 lls : mG w pv P
 MN : tv w lv L
 tree : eO G D
 loops : fl P (dK G.length (cM G)) (fO G.length (cM G)) (jb G G.length []) D L
 ends : Ends (aR cd G) (cg G.length) s
 BP : tP w rv s.reach
 bC : ∃ A cap, iv = .slice A s.bC.length cap ∧ s.bC.length ≤ cap ∧ cap ≤ maxLen
 l1 : s.reach.length = G.length
 l2 : s.bC.length = G.length
 dvs : ∃ A n c, dv = .slice A n c
def Ei (v : Value) : Prop := ∃ A n c, v = Value.slice A n c
def uk (n : Nat) (cd : Nat → Int) (aC : List gR) (sh lk task : Int) : Prop := ∃ (k : Nat) (en : gR) (G : List aU) (P : List (List Int)), task = (k : Int) ∧ kN n cd aC sh lk k en G P ∧ ∀ D, eO G D → gu (dK G.length (cM G)) (fO G.length (cM G)) D (jb G G.length [])
def JS (w : World) (n : Nat) (cd : Nat → Int) (aC : List gR) (sh lk task : Int) (e : Ending) : Prop := ∃ (k : Nat) (en : gR) (G : List aU) (P : List (List Int)) (bv pv lv rv iv dv : Value) (D : List Int) (L : List Lp) (s : AS), task = (k : Int) ∧ kN n cd aC sh lk k en G P ∧ Vs w cd G P bv pv lv rv iv dv D L s ∧ e = .returned (.tuple #[.agg #[bv, pv], lv, .agg #[rv, iv, dv], .bool true])
def aaq (e : Ending) : Prop := ∃ bv pv lv rv iv dv : Value, (Ei bv ∧ Ei pv ∧ Ei lv ∧ Ei rv ∧ Ei iv ∧ Ei dv) ∧ e = .returned (.tuple #[.agg #[bv, pv], lv, .agg #[rv, iv, dv], .bool false])
theorem eO.len {G : List aU} {D : List Int} (h : eO G D) : D.length = G.length := h.ti.len
theorem uk.tree {n : Nat} {cd : Nat → Int} {aC : List gR} {sh lk : Int} {k : Nat} {en : gR} {G : List aU} {P : List (List Int)} {D : List Int} (h : uk n cd aC sh lk (k : Int)) (g : kN n cd aC sh lk k en G P) (hn : G.length ≤ 5000) (t : eO G D) : gu (dK G.length (cM G)) (fO G.length (cM G)) D (jb G G.length []) := by
 obtain ⟨k', YH, G', P', e1, g', h'⟩ := h
 obtain rfl : k = k' := by omega
 have h1 := g.he
 rw [g'.he] at h1
 cases h1
 obtain ⟨rfl, rfl⟩ := g.same g'.out
 exact h' D t
theorem CN (AZ : qW) (cv ev : Value) (sh lk : Int) (n : Nat) (cd : Nat → Int) (aC : List gR) (task : Int) (w : World) (T : gZ w) (HW : Words w cv n cd) (hn : n ≤ 1000) (HE : nM w ev aC) :
  Calls Tryz.prog 19 #[.agg #[cv, ev, .int .i64 sh, .int .i64 lk], .int .i64 task] w fun e w' => ((uk n cd aC sh lk task ∧ JS w' n cd aC sh lk task e) ∨ (¬ uk n cd aC sh lk task ∧ aaq e)) ∧ Below w.heap.size w w' := by
 obtain ⟨V, hV, k0, k1, k2, bV, sV⟩ := dP w #[cv, ev, .int .i64 sh, .int .i64 lk] #[.slice none 0 0, .slice none 0 0] #[.slice none 0 0, .slice none 0 0, .slice none 0 0] 25 31 59
 have RR : V.heap.size = w.heap.size + 1 + 1 + 1 := by rw [← hV]; simp
 obtain ⟨y0, y1, y2, y3, y4⟩ := cK k0
 have Ro := aiU (Be cv ev sh lk n cd aC task V (T.below bV) (HW.below bV) (HE.below bV))
 have BV := aiU bV
 have SV := aiU RR
 have K0 := aiU k0
 have K1 := aiU k1
 have K2 := aiU k2
 have NP := aiU (HW.below bV)
 have TV := aiU (T.below bV)
 have Un := aiU HW.wd
 have HN := aiU hn
 clear bV sV RR k0 k1 k2 T HW HE hn
 go_enter Tryz.func19, Tryz.ntmps19
 go_wp2_with fail
 refine Ro.out.mono ?_
 rintro e W1 ⟨h, hb1⟩
 have B1 := aiU hb1
 have x0 := (hb1.cell (p := ⟨w.heap.size, 0, none⟩) y4).trans y0
 have x1 := (hb1.cell (p := ⟨w.heap.size, 1, none⟩) y4).trans y1
 have x2 := (hb1.cell (p := ⟨w.heap.size, 2, none⟩) y4).trans y2
 have x3 := (hb1.cell (p := ⟨w.heap.size, 3, none⟩) y4).trans y3
 have x4 : w.heap.size < W1.heap.size := by have := hb1.size; omega
 have Zb := aiU ((hb1.block _ aiv).trans K1.out)
 have Za := aiU ((hb1.block _ aiv).trans K2.out)
 have S1 := aiU (show w.heap.size + 1 + 1 < W1.heap.size by have := hb1.size; have := SV.out; omega)
 have xk := aiU (BV.out.trans (hb1.mono BV.out.size))
 clear hb1 y0 y1 y2 y3 y4 hV Ro
 rcases h with ⟨hh, k, en, G, P, GA, PA, aY, aX, hk, hg, rfl, hG, hP, VT⟩ | ⟨hno, at_, er, her, rfl⟩
 case inr =>
  have der : (er != 0) = true := by simp [her]
  have N0 := aiU (show ¬ uk n cd aC sh lk task from fun ⟨k, en, G, P, e1, g, _⟩ => hno ⟨k, en, G, P, e1, g⟩)
  clear hno her
  have K1' := aiU (show (W1.alloc (.cells #[.slice none 0 0, .slice none 0 0] 31)).heap[w.heap.size + 1]? = some (.cells #[.slice none 0 0, .slice none 0 0] 31 (0, 0)) by rw [heap_alloc_old _ _ aiw]; exact Zb.out)
  have K2' := aiU (show (W1.alloc (.cells #[.slice none 0 0, .slice none 0 0] 31)).heap[w.heap.size + 1 + 1]? = some (.cells #[.slice none 0 0, .slice none 0 0, .slice none 0 0] 59 (0, 0)) by rw [heap_alloc_old _ _ aiw]; exact Za.out)
  have BU := aiU (show Below w.heap.size w (W1.alloc (.cells #[.slice none 0 0, .slice none 0 0] 31)) from xk.out.alloc xk.out.size _)
  go_wp2_with (first | (refine wpList_store_row rfl 31 (.tmp 4) (.tmp 25) rfl (w.heap.size + 1) #[.slice none 0 0, .slice none 0 0] rfl rfl 31 _ K1'.out ahV rfl ahX ?_) | (refine wpList_store_row rfl 59 (.tmp 6) (.tmp 26) rfl (w.heap.size + 1 + 1) #[.slice none 0 0, .slice none 0 0, .slice none 0 0] rfl rfl 59 _ ((setRow_other _ _ _ _ ahU).trans K2'.out) ahV rfl ahX ?_))
  refine bodyPost_ret (jX (P := Tryz.prog) Tryz.results19 _ _ (w.heap.size + 1) (w.heap.size + 1 + 1) [.slice none 0 0, .slice none 0 0] [.slice none 0 0, .slice none 0 0, .slice none 0 0] _ _ rfl (aM ((setRow_other _ _ _ _ ahU).trans (setRow_heap _ _ _ _ _ _ K1'.out))) rfl (aM (setRow_heap _ _ _ _ _ _ ((setRow_other _ _ _ _ ahU).trans K2'.out))) Tryz.underlying31 rfl ahV Tryz.underlying59 rfl ahV) rfl ⟨.inr ⟨N0.out, _, _, _, _, _, _, ⟨⟨_, _, _, rfl⟩, ⟨_, _, _, rfl⟩, ⟨_, _, _, rfl⟩, ⟨_, _, _, rfl⟩, ⟨_, _, _, rfl⟩, ⟨_, _, _, rfl⟩⟩, rfl⟩, below_setRow (below_setRow BU.out ahU _) ahU _⟩
 have Tq : G.length ≤ 1000 := by have := hg.len; have := HN.out; omega
 have Ri := aiU hg
 have jg := aiU hg.val
 have Fc := aiU (List.length_pos_iff.2 hg.val.ne)
 have UZ := aiU (hg.gok Un.out)
 have HK := aiU hk
 have NG := aiU VT
 obtain ⟨gn, hgn⟩ : ∃ m, G.length = m := ⟨_, rfl⟩
 obtain ⟨pn, yu⟩ : ∃ m, P.length = m := ⟨_, rfl⟩
 rw [hgn, yu]
 rw [hgn] at hG Tq
 rw [yu] at hP
 rw [hgn, yu] at NG
 have eP := aiU hgn
 obtain ⟨U, hU⟩ : ∃ U, W1.alloc (.cells #[.slice GA gn aY, .slice PA pn aX] 31) = U := ⟨_, rfl⟩
 obtain ⟨b8, hb8⟩ : ∃ b, W1.heap.size = b := ⟨_, rfl⟩
 have bU : Below W1.heap.size W1 U := hU ▸ (Below.refl _ _).alloc (Nat.le_refl _) _
 have kU : U.heap[b8]? = some (.cells #[.slice GA gn aY, .slice PA pn aX] 31 (0, 0)) := by rw [← hb8]; exact hU ▸ heap_alloc_new _ _
 have u0 : U.cell? ⟨b8, 0, none⟩ = some (.slice GA gn aY) := by simp [World.cell?, kU]
 have u1 : U.cell? ⟨b8, 1, none⟩ = some (.slice PA pn aX) := by simp [World.cell?, kU]
 have u2 : b8 < U.heap.size := aB kU
 have HGU := aiU (hG.below bU)
 have HPU := aiU (hP.below bU)
 have BU1 := aiU bU
 have Qu := aiU ((Eb _ _ G P U (hG.below bU) (hP.below bU) hg.val (by rw [hgn]; omega)).mono fun e w' h => (show ∃ (D : List Int) (lA : Option Addr) (ln lc : Nat) (tg er : Int) (MK : Bool), e = .returned (.tuple #[.slice lA ln lc, .int .i64 tg, .int .i64 er]) ∧ (er == 0) = MK ∧ eO G D ∧ (MK = true → ∃ L, tv w' (.slice lA ln lc) L ∧ fl P (dK G.length (cM G)) (fO G.length (cM G)) (jb G G.length []) D L) ∧ (MK = false → ¬ gu (dK G.length (cM G)) (fO G.length (cM G)) D (jb G G.length [])) ∧ Below U.heap.size U w' from by
  obtain ⟨⟨D, hT, h1⟩, h2⟩ := h
  rcases h1 with ⟨lv, L, rfl, hL, Tp⟩ | ⟨tg, rfl, hne⟩
  ·obtain ⟨lA, lc, rfl, -, -⟩ := hL.slice
   exact ⟨D, lA, _, lc, _, _, true, rfl, rfl, hT, fun _ => ⟨L, hL, Tp⟩, fun h => (by cases h), h2⟩
  ·exact ⟨D, _, _, _, tg, _, false, rfl, rfl, hT, fun h => (by cases h), fun _ => hne, h2⟩))
 clear kU bU hG hP hg hk VT hgn yu hh
 go_wp2_with fail
 refine Qu.out.mono ?_
 rintro e W2 ⟨D, lA, ln, lc, tg, er, MK, rfl, hok, hT, hyes, hno, hb2⟩
 have HT := aiU hT
 have tG := aiU hyes
 have mZ := aiU hno
 have B2 := aiU (BU1.out.trans (hb2.mono BU1.out.size))
 have BU2 := aiU hb2
 have s2 := B2.out.size
 have v0 := (hb2.cell (p := ⟨b8, 0, none⟩) u2).trans u0
 have v1 := (hb2.cell (p := ⟨b8, 1, none⟩) u2).trans u1
 have v2 : b8 < W2.heap.size := by have := hb2.size; omega
 have i0 := (B2.out.cell (p := ⟨w.heap.size, 0, none⟩) x4).trans x0
 have i1 := (B2.out.cell (p := ⟨w.heap.size, 1, none⟩) x4).trans x1
 have i2 := (B2.out.cell (p := ⟨w.heap.size, 2, none⟩) x4).trans x2
 have i3 := (B2.out.cell (p := ⟨w.heap.size, 3, none⟩) x4).trans x3
 have i4 : w.heap.size < W2.heap.size := by omega
 have B12 := aiU (B1.out.trans (B2.out.mono B1.out.size))
 have HAZ := aiU (AZ cv ev _ _ sh lk n cd G P W2 (TV.out.below B12.out) (NP.out.below B12.out) (HGU.out.below hb2) (HPU.out.below hb2) jg.out Fc.out (by rw [eP.out]; exact Tq) UZ.out)
 clear hT hyes hno hb2 u0 u1 u2 x0 x1 x2 x3 x4 Qu hU
 go_wp2_with fail
 refine HAZ.out.mono ?_
 rintro e W3 ⟨⟨s, rv, iv, dv, hE, rfl, hR, hD, hN⟩, hb3⟩
 have FX := PX (n := n) Fc.out UZ.out hE
 have Kk := aiU hE
 obtain ⟨zo, jG, Fl, hr1, hr2, hr3⟩ := hR.YT.1
 obtain ⟨IA, fG, hiv, hi1, hi2⟩ := hR.YT.2
 obtain ⟨DA, nH, hdv, -, -, -⟩ := hD
 have hl1 := FX.qu.l1
 have hl2 := FX.qu.l2
 have JG := aiU (And.intro hl1 hl2)
 have Ws := hR.YT.1
 obtain ⟨dn, hdn⟩ : ∃ d, (fJ (aR cd G) s G.length).length = d := ⟨_, rfl⟩
 rw [hdn] at hdv
 rw [hl1, eP.out] at Fl hr1
 rw [hl2, eP.out] at hiv hi1
 subst Fl hiv hdv
 have Ux := aiU Ws
 have ZR := aiU (And.intro hi1 hi2)
 have XS := ep hr2
 have yy := ep hi2
 obtain ⟨Y, hY⟩ : ∃ Y, W3.alloc (.cells #[.slice zo gn jG, .slice IA gn fG, .slice DA dn nH] 59) = Y := ⟨_, rfl⟩
 obtain ⟨b14, O8⟩ : ∃ b, W3.heap.size = b := ⟨_, rfl⟩
 have bY : Below W3.heap.size W3 Y := hY ▸ (Below.refl _ _).alloc (Nat.le_refl _) _
 have kY : Y.heap[b14]? = some (.cells #[.slice zo gn jG, .slice IA gn fG, .slice DA dn nH] 59 (0, 0)) := by rw [← O8]; exact hY ▸ heap_alloc_new _ _
 have PV : Below W2.heap.size W2 Y := hb3.trans (bY.mono hb3.size)
 have y0 : Y.cell? ⟨b14, 0, none⟩ = some (.slice zo gn jG) := by simp [World.cell?, kY]
 have y1 : Y.cell? ⟨b14, 1, none⟩ = some (.slice IA gn fG) := by simp [World.cell?, kY]
 have y2 : Y.cell? ⟨b14, 2, none⟩ = some (.slice DA dn nH) := by simp [World.cell?, kY]
 have y3 : b14 < Y.heap.size := aB kY
 have z0 := (PV.cell (p := ⟨b8, 0, none⟩) v2).trans v0
 have z1 := (PV.cell (p := ⟨b8, 1, none⟩) v2).trans v1
 have z2 : b8 < Y.heap.size := by have := PV.size; omega
 have BY := aiU (B2.out.trans (PV.mono B2.out.size))
 have BUY := aiU (BU2.out.trans (PV.mono BU2.out.size))
 have BH := aiU PV
 have S3 := aiU hb3.size
 have HRY := aiU (Ux.out.below bY)
 clear hE hR hN hb3 FX hr3 Ws kY PV bY v0 v1 v2 i0 i1 i2 i3 i4 HAZ hl1 hl2 hdn hr2 hi2
 go_upto_region 6 with fail
 have zH := aiU (show Y.drew.heap[w.heap.size + 1]? = some (.cells #[.slice none 0 0, .slice none 0 0] 31 (0, 0)) ∧ Y.drew.heap[w.heap.size + 1 + 1]? = some (.cells #[.slice none 0 0, .slice none 0 0, .slice none 0 0] 59 (0, 0)) from
  ⟨(BY.out.block _ aiw).trans Zb.out, (BY.out.block _ aiw).trans Za.out⟩)
 have HS := aiU (show ∀ (F : World), F = ((((Y.drew.setCell ⟨w.heap.size + 1, 0, none⟩ (.slice GA gn aY)).setCell ⟨w.heap.size + 1, 1, none⟩ (.slice PA pn aX)).setCell ⟨w.heap.size + 1 + 1, 0, none⟩ (.slice zo gn jG)).setCell ⟨w.heap.size + 1 + 1, 1, none⟩ (.slice IA gn fG)).setCell ⟨w.heap.size + 1 + 1, 2, none⟩ (.slice DA dn nH) → Below w.heap.size w F ∧ (F.heap[w.heap.size + 1]? = some (.cells #[.slice GA gn aY, .slice PA pn aX] 31 (0, 0)) ∧ F.heap[w.heap.size + 1 + 1]? = some (.cells #[.slice zo gn jG, .slice IA gn fG, .slice DA dn nH] 59 (0, 0))) ∧ (MK = true → JS F n cd aC sh lk task (.returned (.tuple #[.agg #[.slice GA gn aY, .slice PA pn aX], .slice lA ln lc, .agg #[.slice zo gn jG, .slice IA gn fG, .slice DA dn nH], .bool true]))) from fun F hF => by
  obtain ⟨f1, f2⟩ := zH.out
  have hd : Below Y.heap.size Y Y.drew := Below.drew (Below.refl _ _)
  have hb : Below w.heap.size w Y.drew := xk.out.trans ((BY.out.trans (hd.mono BY.out.size)).mono xk.out.size)
  obtain ⟨t1, t2, t3, t4, t5⟩ := F0 f1 f2 ahU hF
  refine ⟨t5 _ _ hb ahU ahU, ⟨t1, t2⟩, fun ho => ?_⟩
  obtain ⟨L, hL, Tp⟩ := tG.out ho
  have hpt : Pt Y.drew F (fun q => q = w.heap.size + 1 ∨ q = w.heap.size + 1 + 1) := by
   refine ⟨fun q hq o v hv => ?_, fun p hp => t3 p hp, t4⟩
   ·rcases hq with rfl | rfl
    ·simp only [World.cell?, f1] at hv
     match o, hv with
     | 0, hv => simp at hv; exact ⟨_, _, _, hv.symm⟩
     | 1, hv => simp at hv; exact ⟨_, _, _, hv.symm⟩
     | o + 2, hv => simp at hv
    ·simp only [World.cell?, f2] at hv
     match o, hv with
     | 0, hv => simp at hv; exact ⟨_, _, _, hv.symm⟩
     | 1, hv => simp at hv; exact ⟨_, _, _, hv.symm⟩
     | 2, hv => simp at hv; exact ⟨_, _, _, hv.symm⟩
     | o + 3, hv => simp at hv
  have hux := BUY.out.trans (hd.mono BUY.out.size)
  have h2x := BH.out.trans (hd.mono BH.out.size)
  refine ⟨k, en, G, P, _, _, _, _, _, _, D, L, s, HK.out, Ri.out, ⟨(HGU.out.below hux).pt hpt, (HPU.out.below hux).pt hpt (fun p hp hq => ?_), (hL.below h2x).pt hpt, HT.out, Tp, Kk.out, (HRY.out.below hd).pt hpt, ⟨IA, fG, by rw [JG.out.2, eP.out], by rw [JG.out.2, eP.out]; exact ZR.out.1, ZR.out.2⟩, JG.out.1, JG.out.2, ⟨_, _, _, rfl⟩⟩, rfl⟩
  have := NG.out.2 p hp
  have := SV.out
  rcases hq with rfl | rfl <;> omega)
 have N0 := aiU (show MK = false → ¬ uk n cd aC sh lk task from fun h hc => by
  rw [HK.out] at hc
  exact mZ.out h (hc.tree Ri.out aib HT.out))
 have HYC := aiU (show MK = true → uk n cd aC sh lk task from fun h => by
  obtain ⟨L, hL, Tp⟩ := tG.out h
  refine ⟨k, en, G, P, HK.out, Ri.out, fun D' h' => ?_⟩
  rw [← eO.eq jg.out aib h', eO.eq jg.out aib HT.out]
  exact Tp.ok)
 have g4 : Y.heap[w.heap.size + 1]? = some (.cells #[.slice none 0 0, .slice none 0 0] 31 (0, 0)) := by
  exact (BY.out.block _ aiw).trans Zb.out
 have g6 : Y.heap[w.heap.size + 1 + 1]? = some (.cells #[.slice none 0 0, .slice none 0 0, .slice none 0 0] 59 (0, 0)) := by
  exact (BY.out.block _ aiw).trans Za.out
 have a0 : Y.cell? ⟨w.heap.size + 1, 0, none⟩ = some (.slice none 0 0) := by simp [World.cell?, g4]
 have a1 : Y.cell? ⟨w.heap.size + 1, 1, none⟩ = some (.slice none 0 0) := by simp [World.cell?, g4]
 have a2 : Y.frozen? ⟨w.heap.size + 1, 0, none⟩ = false := by simp [World.frozen?, g4]
 have a3 : Y.frozen? ⟨w.heap.size + 1, 1, none⟩ = false := by simp [World.frozen?, g4]
 have c0 : Y.cell? ⟨w.heap.size + 1 + 1, 0, none⟩ = some (.slice none 0 0) := by simp [World.cell?, g6]
 have c1 : Y.cell? ⟨w.heap.size + 1 + 1, 1, none⟩ = some (.slice none 0 0) := by simp [World.cell?, g6]
 have c2 : Y.cell? ⟨w.heap.size + 1 + 1, 2, none⟩ = some (.slice none 0 0) := by simp [World.cell?, g6]
 have c3 : Y.frozen? ⟨w.heap.size + 1 + 1, 0, none⟩ = false := by simp [World.frozen?, g6]
 have c4 : Y.frozen? ⟨w.heap.size + 1 + 1, 1, none⟩ = false := by simp [World.frozen?, g6]
 have c5 : Y.frozen? ⟨w.heap.size + 1 + 1, 2, none⟩ = false := by simp [World.frozen?, g6]
 have n1 : w.heap.size + 1 ≠ w.heap.size + 1 + 1 := by omega
 have n2 : b8 ≠ w.heap.size + 1 := by have := S1.out; omega
 have n3 : b8 ≠ w.heap.size + 1 + 1 := by have := S1.out; omega
 have n4 : b14 ≠ w.heap.size + 1 := by have := S1.out; have := S3.out; omega
 have n5 : b14 ≠ w.heap.size + 1 + 1 := by have := S1.out; have := S3.out; omega
 have n1' := n1.symm
 have n2' := n2.symm
 have n3' := n3.symm
 have n4' := n4.symm
 have n5' := n5.symm
 have l4 : w.heap.size + 1 < Y.heap.size := aB g4
 have l6 : w.heap.size + 1 + 1 < Y.heap.size := aB g6
 clear g4 g6 zH HRY BH BUY BY Kk JG Ux ZR tG mZ
 rcases MK with _ | _
 ·refine wp_region_noPanic ?_
  refine wp_region_held_drew (S := fun w' => w'.cell? ⟨b8, 0, none⟩ = some (.slice GA gn aY) ∧ w'.cell? ⟨b8, 1, none⟩ = some (.slice PA pn aX) ∧ w'.cell? ⟨b14, 0, none⟩ = some (.slice zo gn jG) ∧ w'.cell? ⟨b14, 1, none⟩ = some (.slice IA gn fG) ∧ w'.cell? ⟨b14, 2, none⟩ = some (.slice DA dn nH)) ahV ?_ (fun hHeld => ?_)
  ·go_keep
  refine wpAnyH_take (i := 0) (oi := _) (v := ?_) rfl ahV ahV ahV (fun _ _ _ h => h) (Or.inl ⟨by rfl, ?_⟩) hHeld ?_
  rotate_left
  ·intro w hSw
   (try dsimp only at hSw)
   go_simp
   (try with_reducible rfl)
  (try simp only [aiV, aiW, aiX, Act.put, aiY, aiZ, ai0])
  refine wpAnyH_take (i := 1) (oi := _) (v := ?_) rfl ahV ahV ahV (fun _ _ _ h => h) (Or.inl ⟨by rfl, ?_⟩) hHeld ?_
  rotate_left
  ·intro w hSw
   (try dsimp only at hSw)
   go_simp
   (try with_reducible rfl)
  (try simp only [aiV, aiW, aiX, Act.put, aiY, aiZ, ai0])
  refine wpAnyH_take (i := 2) (oi := _) (v := ?_) rfl ahV ahV ahV (fun _ _ _ h => h) (Or.inl ⟨by rfl, ?_⟩) hHeld ?_
  rotate_left
  ·intro w hSw
   (try dsimp only at hSw)
   go_simp
   (try with_reducible rfl)
  (try simp only [aiV, aiW, aiX, Act.put, aiY, aiZ, ai0])
  refine wpAnyH_take (i := 3) (oi := _) (v := ?_) rfl ahV ahV ahV (fun _ _ _ h => h) (Or.inl ⟨by rfl, ?_⟩) hHeld ?_
  rotate_left
  ·intro w hSw
   (try dsimp only at hSw)
   go_simp
   (try with_reducible rfl)
  (try simp only [aiV, aiW, aiX, Act.put, aiY, aiZ, ai0])
  refine wpAnyH_take (i := 4) (oi := _) (v := ?_) rfl ahV ahV ahV (fun _ _ _ h => h) (Or.inl ⟨by rfl, ?_⟩) hHeld ?_
  rotate_left
  ·intro w hSw
   (try dsimp only at hSw)
   go_simp
   (try with_reducible rfl)
  (try simp only [aiV, aiW, aiX, Act.put, aiY, aiZ, ai0])
  refine wpAnyH_take (i := 5) (oi := _) (v := ?_) rfl ahV ahV ahV (fun _ _ _ h => h) (Or.inl ⟨by rfl, ?_⟩) hHeld ?_
  rotate_left
  ·intro w hSw
   (try dsimp only at hSw)
   go_simp
   (try with_reducible rfl)
  (try simp only [aiV, aiW, aiX, Act.put, aiY, aiZ, ai0])
  refine wpAnyH_take (i := 6) (oi := _) (v := undef) rfl ahV ahV ahV (fun _ _ _ h => h) (Or.inr ⟨by rfl, rfl⟩) hHeld ?_
  (try simp only [aiV, aiW, aiX, Act.put, aiY, aiZ, ai0])
  refine wpAnyH_take (i := 7) (oi := _) (v := undef) rfl ahV ahV ahV (fun _ _ _ h => h) (Or.inr ⟨by rfl, rfl⟩) hHeld ?_
  (try simp only [aiV, aiW, aiX, Act.put, aiY, aiZ, ai0])
  refine wpAnyH_take (i := 8) (oi := _) (v := ?_) rfl ahV ahV ahV (fun _ _ _ h => h) (Or.inl ⟨by rfl, ?_⟩) hHeld ?_
  rotate_left
  ·intro w hSw
   (try dsimp only at hSw)
   go_simp
   (try with_reducible rfl)
  (try simp only [aiV, aiW, aiX, Act.put, aiY, aiZ, ai0])
  refine wpAnyH_take (i := 9) (oi := _) (v := ?_) rfl ahV ahV ahV (fun _ _ _ h => h) (Or.inl ⟨by rfl, ?_⟩) hHeld ?_
  rotate_left
  ·intro w hSw
   (try dsimp only at hSw)
   go_simp
   (try with_reducible rfl)
  (try simp only [aiV, aiW, aiX, Act.put, aiY, aiZ, ai0])
  refine wpAnyH_take (i := 10) (oi := _) (v := undef) rfl ahV ahV ahV (fun _ _ _ h => h) (Or.inr ⟨by rfl, rfl⟩) hHeld ?_
  (try simp only [aiV, aiW, aiX, Act.put, aiY, aiZ, ai0])
  refine wpAnyH_take (i := 11) (oi := _) (v := undef) rfl ahV ahV ahV (fun _ _ _ h => h) (Or.inr ⟨by rfl, rfl⟩) hHeld ?_
  (try simp only [aiV, aiW, aiX, Act.put, aiY, aiZ, ai0])
  refine wpAnyH_take (i := 12) (oi := _) (v := undef) rfl ahV ahV ahV (fun _ _ _ h => h) (Or.inr ⟨by rfl, rfl⟩) hHeld ?_
  (try simp only [aiV, aiW, aiX, Act.put, aiY, aiZ, ai0])
  refine wpAnyH_take (i := 13) (oi := _) (v := undef) rfl ahV ahV ahV (fun _ _ _ h => h) (Or.inr ⟨by rfl, rfl⟩) hHeld ?_
  (try simp only [aiV, aiW, aiX, Act.put, aiY, aiZ, ai0])
  refine wpAnyH_take (i := 14) (oi := _) (v := undef) rfl ahV ahV ahV (fun _ _ _ h => h) (Or.inr ⟨by rfl, rfl⟩) hHeld ?_
  (try simp only [aiV, aiW, aiX, Act.put, aiY, aiZ, ai0])
  refine wpAnyH_take (i := 15) (oi := _) (v := undef) rfl ahV ahV ahV (fun _ _ _ h => h) (Or.inr ⟨by rfl, rfl⟩) hHeld ?_
  (try simp only [aiV, aiW, aiX, Act.put, aiY, aiZ, ai0])
  refine wpAnyH_take (i := 16) (oi := _) (v := undef) rfl ahV ahV ahV (fun _ _ _ h => h) (Or.inr ⟨by rfl, rfl⟩) hHeld ?_
  (try simp only [aiV, aiW, aiX, Act.put, aiY, aiZ, ai0])
  refine wpAnyH_take (i := 17) (oi := _) (v := ?_) rfl ahV ahV ahV (fun _ _ _ h => h) (Or.inl ⟨by rfl, ?_⟩) hHeld ?_
  rotate_left
  ·intro w hSw
   (try dsimp only at hSw)
   go_simp
   (try with_reducible rfl)
  (try simp only [aiV, aiW, aiX, Act.put, aiY, aiZ, ai0])
  refine wpAnyH_take (i := 18) (oi := _) (v := ?_) rfl ahV ahV ahV (fun _ _ _ h => h) (Or.inl ⟨by rfl, ?_⟩) hHeld ?_
  rotate_left
  ·intro w hSw
   (try dsimp only at hSw)
   go_simp
   (try with_reducible rfl)
  (try simp only [aiV, aiW, aiX, Act.put, aiY, aiZ, ai0])
  refine wpAnyH_take (i := 19) (oi := _) (v := undef) rfl ahV ahV ahV (fun _ _ _ h => h) (Or.inr ⟨by rfl, rfl⟩) hHeld ?_
  (try simp only [aiV, aiW, aiX, Act.put, aiY, aiZ, ai0])
  refine wpAnyH_take (i := 20) (oi := _) (v := undef) rfl ahV ahV ahV (fun _ _ _ h => h) (Or.inr ⟨by rfl, rfl⟩) hHeld ?_
  (try simp only [aiV, aiW, aiX, Act.put, aiY, aiZ, ai0])
  refine wpAnyH_take (i := 21) (oi := _) (v := undef) rfl ahV ahV ahV (fun _ _ _ h => h) (Or.inr ⟨by rfl, rfl⟩) hHeld ?_
  (try simp only [aiV, aiW, aiX, Act.put, aiY, aiZ, ai0])
  refine wpAnyH_take (i := 22) (oi := _) (v := undef) rfl ahV ahV ahV (fun _ _ _ h => h) (Or.inr ⟨by rfl, rfl⟩) hHeld ?_
  (try simp only [aiV, aiW, aiX, Act.put, aiY, aiZ, ai0])
  refine wpAnyH_take (i := 23) (oi := _) (v := undef) rfl ahV ahV ahV (fun _ _ _ h => h) (Or.inr ⟨by rfl, rfl⟩) hHeld ?_
  (try simp only [aiV, aiW, aiX, Act.put, aiY, aiZ, ai0])
  refine wpAnyH_take (i := 24) (oi := _) (v := undef) rfl ahV ahV ahV (fun _ _ _ h => h) (Or.inr ⟨by rfl, rfl⟩) hHeld ?_
  (try simp only [aiV, aiW, aiX, Act.put, aiY, aiZ, ai0])
  refine wpAnyH_take (i := 25) (oi := _) (v := undef) rfl ahV ahV ahV (fun _ _ _ h => h) (Or.inr ⟨by rfl, rfl⟩) hHeld ?_
  (try simp only [aiV, aiW, aiX, Act.put, aiY, aiZ, ai0])
  refine wpAnyH_take (i := 26) (oi := _) (v := ?_) rfl ahV ahV ahV (fun _ _ _ h => h) (Or.inl ⟨by rfl, ?_⟩) hHeld ?_
  rotate_left
  ·intro w hSw
   (try dsimp only at hSw)
   go_simp
   (try with_reducible rfl)
  (try simp only [aiV, aiW, aiX, Act.put, aiY, aiZ, ai0])
  refine wpAnyH_ready (rs := [27]) ahV ahZ ?_
  refine AllReadyH.cons (o := _) rfl (fun K hK => ?_) AllReadyH.nil
  go_simp
  refine hK.out _ _ ?_ (fun hHeld => ?_)
  ·go_keep
  clear hK K
  (try simp only [aiV, aiW, aiX, Act.put, aiY, aiZ, ai0])
  refine wpAnyH_take (i := 28) (oi := _) (v := ?_) rfl ahV ahV ahV (fun _ _ _ h => h) (Or.inl ⟨by rfl, ?_⟩) hHeld ?_
  rotate_left
  ·intro w hSw
   (try dsimp only at hSw)
   go_simp
   (try with_reducible rfl)
  (try simp only [aiV, aiW, aiX, Act.put, aiY, aiZ, ai0])
  refine wpAnyH_ready (rs := [29]) ahV ahZ ?_
  refine AllReadyH.cons (o := _) rfl (fun K hK => ?_) AllReadyH.nil
  go_simp
  refine hK.out _ _ ?_ (fun hHeld => ?_)
  ·go_keep
  clear hK K
  (try simp only [aiV, aiW, aiX, Act.put, aiY, aiZ, ai0])
  refine wpAnyH_take (i := 30) (oi := _) (v := ?_) rfl ahV ahV ahV (fun _ _ _ h => h) (Or.inl ⟨by rfl, ?_⟩) hHeld ?_
  rotate_left
  ·intro w hSw
   (try dsimp only at hSw)
   go_simp
   (try with_reducible rfl)
  (try simp only [aiV, aiW, aiX, Act.put, aiY, aiZ, ai0])
  refine wpAnyH_done ahV ?_ _
  refine NoPanic.normal ?_
  go_wp2_with fail
  have NW := HS.out _ rfl
  refine bodyPost_ret (jX (P := Tryz.prog) Tryz.results19 _ _ (w.heap.size + 1) (w.heap.size + 1 + 1) [.slice GA gn aY, .slice PA pn aX] [.slice zo gn jG, .slice IA gn fG, .slice DA dn nH] _ _ rfl (aM NW.2.1.1) rfl (aM NW.2.1.2) Tryz.underlying31 rfl ahV Tryz.underlying59 rfl ahV) rfl ?_
  exact ⟨.inr ⟨N0.out aiy, .slice GA gn aY, .slice PA pn aX, .slice lA ln lc, .slice zo gn jG, .slice IA gn fG, .slice DA dn nH, ⟨⟨_, _, _, rfl⟩, ⟨_, _, _, rfl⟩, ⟨_, _, _, rfl⟩, ⟨_, _, _, rfl⟩, ⟨_, _, _, rfl⟩, ⟨_, _, _, rfl⟩⟩, rfl⟩, NW.1⟩
 ·refine wp_region_noPanic ?_
  refine wp_region_held_drew (S := fun w' => w'.cell? ⟨b8, 0, none⟩ = some (.slice GA gn aY) ∧ w'.cell? ⟨b8, 1, none⟩ = some (.slice PA pn aX) ∧ w'.cell? ⟨b14, 0, none⟩ = some (.slice zo gn jG) ∧ w'.cell? ⟨b14, 1, none⟩ = some (.slice IA gn fG) ∧ w'.cell? ⟨b14, 2, none⟩ = some (.slice DA dn nH)) ahV ?_ (fun hHeld => ?_)
  ·go_keep
  refine wpAnyH_take (i := 0) (oi := _) (v := ?_) rfl ahV ahV ahV (fun _ _ _ h => h) (Or.inl ⟨by rfl, ?_⟩) hHeld ?_
  rotate_left
  ·intro w hSw
   (try dsimp only at hSw)
   go_simp
   (try with_reducible rfl)
  (try simp only [aiV, aiW, aiX, Act.put, aiY, aiZ, ai0])
  refine wpAnyH_take (i := 1) (oi := _) (v := ?_) rfl ahV ahV ahV (fun _ _ _ h => h) (Or.inl ⟨by rfl, ?_⟩) hHeld ?_
  rotate_left
  ·intro w hSw
   (try dsimp only at hSw)
   go_simp
   (try with_reducible rfl)
  (try simp only [aiV, aiW, aiX, Act.put, aiY, aiZ, ai0])
  refine wpAnyH_take (i := 2) (oi := _) (v := ?_) rfl ahV ahV ahV (fun _ _ _ h => h) (Or.inl ⟨by rfl, ?_⟩) hHeld ?_
  rotate_left
  ·intro w hSw
   (try dsimp only at hSw)
   go_simp
   (try with_reducible rfl)
  (try simp only [aiV, aiW, aiX, Act.put, aiY, aiZ, ai0])
  refine wpAnyH_take (i := 3) (oi := _) (v := ?_) rfl ahV ahV ahV (fun _ _ _ h => h) (Or.inl ⟨by rfl, ?_⟩) hHeld ?_
  rotate_left
  ·intro w hSw
   (try dsimp only at hSw)
   go_simp
   (try with_reducible rfl)
  (try simp only [aiV, aiW, aiX, Act.put, aiY, aiZ, ai0])
  refine wpAnyH_take (i := 4) (oi := _) (v := ?_) rfl ahV ahV ahV (fun _ _ _ h => h) (Or.inl ⟨by rfl, ?_⟩) hHeld ?_
  rotate_left
  ·intro w hSw
   (try dsimp only at hSw)
   go_simp
   (try with_reducible rfl)
  (try simp only [aiV, aiW, aiX, Act.put, aiY, aiZ, ai0])
  refine wpAnyH_take (i := 5) (oi := _) (v := ?_) rfl ahV ahV ahV (fun _ _ _ h => h) (Or.inl ⟨by rfl, ?_⟩) hHeld ?_
  rotate_left
  ·intro w hSw
   (try dsimp only at hSw)
   go_simp
   (try with_reducible rfl)
  (try simp only [aiV, aiW, aiX, Act.put, aiY, aiZ, ai0])
  refine wpAnyH_take (i := 6) (oi := _) (v := ?_) rfl ahV ahV ahV (fun _ _ _ h => h) (Or.inl ⟨by rfl, ?_⟩) hHeld ?_
  rotate_left
  ·intro w hSw
   (try dsimp only at hSw)
   go_simp
   (try with_reducible rfl)
  (try simp only [aiV, aiW, aiX, Act.put, aiY, aiZ, ai0])
  refine wpAnyH_take (i := 7) (oi := _) (v := ?_) rfl ahV ahV ahV (fun _ _ _ h => h) (Or.inl ⟨by rfl, ?_⟩) hHeld ?_
  rotate_left
  ·intro w hSw
   (try dsimp only at hSw)
   go_simp
   (try with_reducible rfl)
  (try simp only [aiV, aiW, aiX, Act.put, aiY, aiZ, ai0])
  refine wpAnyH_take (i := 8) (oi := _) (v := ?_) rfl ahV ahV ahV (fun _ _ _ h => h) (Or.inl ⟨by rfl, ?_⟩) hHeld ?_
  rotate_left
  ·intro w hSw
   (try dsimp only at hSw)
   go_simp
   (try with_reducible rfl)
  (try simp only [aiV, aiW, aiX, Act.put, aiY, aiZ, ai0])
  refine wpAnyH_take (i := 9) (oi := _) (v := ?_) rfl ahV ahV ahV (fun _ _ _ h => h) (Or.inl ⟨by rfl, ?_⟩) hHeld ?_
  rotate_left
  ·intro w hSw
   (try dsimp only at hSw)
   go_simp
   (try with_reducible rfl)
  (try simp only [aiV, aiW, aiX, Act.put, aiY, aiZ, ai0])
  refine wpAnyH_take (i := 10) (oi := _) (v := ?_) rfl ahV ahV ahV (fun _ _ _ h => h) (Or.inl ⟨by rfl, ?_⟩) hHeld ?_
  rotate_left
  ·intro w hSw
   (try dsimp only at hSw)
   go_simp
   (try with_reducible rfl)
  (try simp only [aiV, aiW, aiX, Act.put, aiY, aiZ, ai0])
  refine wpAnyH_take (i := 11) (oi := _) (v := ?_) rfl ahV ahV ahV (fun _ _ _ h => h) (Or.inl ⟨by rfl, ?_⟩) hHeld ?_
  rotate_left
  ·intro w hSw
   (try dsimp only at hSw)
   go_simp
   (try with_reducible rfl)
  (try simp only [aiV, aiW, aiX, Act.put, aiY, aiZ, ai0])
  refine wpAnyH_take (i := 12) (oi := _) (v := ?_) rfl ahV ahV ahV (fun _ _ _ h => h) (Or.inl ⟨by rfl, ?_⟩) hHeld ?_
  rotate_left
  ·intro w hSw
   (try dsimp only at hSw)
   go_simp
   (try with_reducible rfl)
  (try simp only [aiV, aiW, aiX, Act.put, aiY, aiZ, ai0])
  refine wpAnyH_take (i := 13) (oi := _) (v := ?_) rfl ahV ahV ahV (fun _ _ _ h => h) (Or.inl ⟨by rfl, ?_⟩) hHeld ?_
  rotate_left
  ·intro w hSw
   (try dsimp only at hSw)
   go_simp
   (try with_reducible rfl)
  (try simp only [aiV, aiW, aiX, Act.put, aiY, aiZ, ai0])
  refine wpAnyH_take (i := 14) (oi := _) (v := ?_) rfl ahV ahV ahV (fun _ _ _ h => h) (Or.inl ⟨by rfl, ?_⟩) hHeld ?_
  rotate_left
  ·intro w hSw
   (try dsimp only at hSw)
   go_simp
   (try with_reducible rfl)
  (try simp only [aiV, aiW, aiX, Act.put, aiY, aiZ, ai0])
  refine wpAnyH_take (i := 15) (oi := _) (v := ?_) rfl ahV ahV ahV (fun _ _ _ h => h) (Or.inl ⟨by rfl, ?_⟩) hHeld ?_
  rotate_left
  ·intro w hSw
   (try dsimp only at hSw)
   go_simp
   (try with_reducible rfl)
  (try simp only [aiV, aiW, aiX, Act.put, aiY, aiZ, ai0])
  refine wpAnyH_take (i := 16) (oi := _) (v := ?_) rfl ahV ahV ahV (fun _ _ _ h => h) (Or.inl ⟨by rfl, ?_⟩) hHeld ?_
  rotate_left
  ·intro w hSw
   (try dsimp only at hSw)
   go_simp
   (try with_reducible rfl)
  (try simp only [aiV, aiW, aiX, Act.put, aiY, aiZ, ai0])
  refine wpAnyH_take (i := 17) (oi := _) (v := ?_) rfl ahV ahV ahV (fun _ _ _ h => h) (Or.inl ⟨by rfl, ?_⟩) hHeld ?_
  rotate_left
  ·intro w hSw
   (try dsimp only at hSw)
   go_simp
   (try with_reducible rfl)
  (try simp only [aiV, aiW, aiX, Act.put, aiY, aiZ, ai0])
  refine wpAnyH_take (i := 18) (oi := _) (v := ?_) rfl ahV ahV ahV (fun _ _ _ h => h) (Or.inl ⟨by rfl, ?_⟩) hHeld ?_
  rotate_left
  ·intro w hSw
   (try dsimp only at hSw)
   go_simp
   (try with_reducible rfl)
  (try simp only [aiV, aiW, aiX, Act.put, aiY, aiZ, ai0])
  refine wpAnyH_take (i := 19) (oi := _) (v := ?_) rfl ahV ahV ahV (fun _ _ _ h => h) (Or.inl ⟨by rfl, ?_⟩) hHeld ?_
  rotate_left
  ·intro w hSw
   (try dsimp only at hSw)
   go_simp
   (try with_reducible rfl)
  (try simp only [aiV, aiW, aiX, Act.put, aiY, aiZ, ai0])
  refine wpAnyH_take (i := 20) (oi := _) (v := ?_) rfl ahV ahV ahV (fun _ _ _ h => h) (Or.inl ⟨by rfl, ?_⟩) hHeld ?_
  rotate_left
  ·intro w hSw
   (try dsimp only at hSw)
   go_simp
   (try with_reducible rfl)
  (try simp only [aiV, aiW, aiX, Act.put, aiY, aiZ, ai0])
  refine wpAnyH_take (i := 21) (oi := _) (v := ?_) rfl ahV ahV ahV (fun _ _ _ h => h) (Or.inl ⟨by rfl, ?_⟩) hHeld ?_
  rotate_left
  ·intro w hSw
   (try dsimp only at hSw)
   go_simp
   (try with_reducible rfl)
  (try simp only [aiV, aiW, aiX, Act.put, aiY, aiZ, ai0])
  refine wpAnyH_take (i := 22) (oi := _) (v := ?_) rfl ahV ahV ahV (fun _ _ _ h => h) (Or.inl ⟨by rfl, ?_⟩) hHeld ?_
  rotate_left
  ·intro w hSw
   (try dsimp only at hSw)
   go_simp
   (try with_reducible rfl)
  (try simp only [aiV, aiW, aiX, Act.put, aiY, aiZ, ai0])
  refine wpAnyH_take (i := 23) (oi := _) (v := ?_) rfl ahV ahV ahV (fun _ _ _ h => h) (Or.inl ⟨by rfl, ?_⟩) hHeld ?_
  rotate_left
  ·intro w hSw
   (try dsimp only at hSw)
   go_simp
   (try with_reducible rfl)
  (try simp only [aiV, aiW, aiX, Act.put, aiY, aiZ, ai0])
  refine wpAnyH_take (i := 24) (oi := _) (v := ?_) rfl ahV ahV ahV (fun _ _ _ h => h) (Or.inl ⟨by rfl, ?_⟩) hHeld ?_
  rotate_left
  ·intro w hSw
   (try dsimp only at hSw)
   go_simp
   (try with_reducible rfl)
  (try simp only [aiV, aiW, aiX, Act.put, aiY, aiZ, ai0])
  refine wpAnyH_take (i := 25) (oi := _) (v := ?_) rfl ahV ahV ahV (fun _ _ _ h => h) (Or.inl ⟨by rfl, ?_⟩) hHeld ?_
  rotate_left
  ·intro w hSw
   (try dsimp only at hSw)
   go_simp
   (try with_reducible rfl)
  (try simp only [aiV, aiW, aiX, Act.put, aiY, aiZ, ai0])
  refine wpAnyH_take (i := 26) (oi := _) (v := ?_) rfl ahV ahV ahV (fun _ _ _ h => h) (Or.inl ⟨by rfl, ?_⟩) hHeld ?_
  rotate_left
  ·intro w hSw
   (try dsimp only at hSw)
   go_simp
   (try with_reducible rfl)
  (try simp only [aiV, aiW, aiX, Act.put, aiY, aiZ, ai0])
  refine wpAnyH_ready (rs := [27]) ahV ahZ ?_
  refine AllReadyH.cons (o := _) rfl (fun K hK => ?_) AllReadyH.nil
  go_simp
  refine hK.out _ _ ?_ (fun hHeld => ?_)
  ·go_keep
  clear hK K
  (try simp only [aiV, aiW, aiX, Act.put, aiY, aiZ, ai0])
  refine wpAnyH_take (i := 28) (oi := _) (v := ?_) rfl ahV ahV ahV (fun _ _ _ h => h) (Or.inl ⟨by rfl, ?_⟩) hHeld ?_
  rotate_left
  ·intro w hSw
   (try dsimp only at hSw)
   go_simp
   (try with_reducible rfl)
  (try simp only [aiV, aiW, aiX, Act.put, aiY, aiZ, ai0])
  refine wpAnyH_ready (rs := [29]) ahV ahZ ?_
  refine AllReadyH.cons (o := _) rfl (fun K hK => ?_) AllReadyH.nil
  go_simp
  refine hK.out _ _ ?_ (fun hHeld => ?_)
  ·go_keep
  clear hK K
  (try simp only [aiV, aiW, aiX, Act.put, aiY, aiZ, ai0])
  refine wpAnyH_take (i := 30) (oi := _) (v := ?_) rfl ahV ahV ahV (fun _ _ _ h => h) (Or.inl ⟨by rfl, ?_⟩) hHeld ?_
  rotate_left
  ·intro w hSw
   (try dsimp only at hSw)
   go_simp
   (try with_reducible rfl)
  (try simp only [aiV, aiW, aiX, Act.put, aiY, aiZ, ai0])
  refine wpAnyH_done ahV ?_ _
  refine NoPanic.normal ?_
  go_wp2_with fail
  have NW := HS.out _ rfl
  refine bodyPost_ret (jX (P := Tryz.prog) Tryz.results19 _ _ (w.heap.size + 1) (w.heap.size + 1 + 1) [.slice GA gn aY, .slice PA pn aX] [.slice zo gn jG, .slice IA gn fG, .slice DA dn nH] _ _ rfl (aM NW.2.1.1) rfl (aM NW.2.1.2) Tryz.underlying31 rfl ahV Tryz.underlying59 rfl ahV) rfl ?_
  exact ⟨.inl ⟨HYC.out aiy, NW.2.2 aiy⟩, NW.1⟩
end
end Go.Proofs.YtlmgkipmfgijiaaGreatDoor
