/-
  What is proved here: parts dAnz.
-/
import Derived.Test.YtlmgkipmfgijiaaGreatDoorYa
import Derived.Test.YtlmgkipmfgijiaaGreatDoorYq
import Derived.Test.YtlmgkipmfgijiaaGreatDoorYf
import Derived.Test.YtlmgkipmfgijiaaGreatDoorYb
import Derived.Laws.CopyOwn
import Derived.Deep.RegionHeld3
namespace Go.Proofs.YtlmgkipmfgijiaaGreatDoor
set_option linter.unusedVariables false
set_option linter.unusedSimpArgs false
set_option maxRecDepth 100000
set_option maxHeartbeats 8000000
section
open Go.RowKit
theorem jO {P : Program} {fn : Func} {a u b v : Tmp} {ty tz : TypeId} (h : fn.results = #[.cell a ty, .tmp u, .cell b tz, .tmp v]) (tmps : Array Value) (w : World) (p q : Nat) (cs ds : List Value) (d d' : TypeDesc) (ha : tmps.getD a undef = .pointer (some ⟨p, 0, none⟩)) (hc : w.rangeAt p 0 cs) (hb : tmps.getD b undef = .pointer (some ⟨q, 0, none⟩)) (hd' : w.rangeAt q 0 ds)
  (hu : P.underlying ty = some d) (hd : d.isRow = true) (hi : (P.info? ty).map (·.size) = some cs.length) (hu' : P.underlying tz = some d') (hdd : d'.isRow = true) (hi' : (P.info? tz).map (·.size) = some ds.length) : (results fn tmps).run P w = .ok (.tuple #[.agg cs.toArray, tmps.getD u undef, .agg ds.toArray, tmps.getD v undef]) w := by
 have h1 := run_loadVar_mid (P := P) w p 0 ty cs d hc hu hd hi
 have h2 := run_loadVar_mid (P := P) w q 0 tz ds d' hd' hu' hdd hi'
 simp only [results, h]
 simp only [List.mapM_toArray, List.mapM_cons, List.mapM_nil, ha, hb, Sem.run_bind, Sem.run_pure, iw, Result.andThen_ok, h1, h2, Sem.run_map, pure_bind, bind_pure]
 simp [h1, h2, iw]
theorem Fh {w F : World} {q4 q6 : Nat} {a b c d e : Value} {T U : TypeId} {z : Value} (h4 : w.heap[q4]? = some (.cells #[z, z] T (0, 0))) (h6 : w.heap[q6]? = some (.cells #[z, z, z] U (0, 0))) (hne : q4 ≠ q6)
  (hF : F = ((((w.setCell ⟨q4, 0, none⟩ a).setCell ⟨q4, 1, none⟩ b).setCell ⟨q6, 0, none⟩ c).setCell ⟨q6, 1, none⟩ d).setCell ⟨q6, 2, none⟩ e) :
  F.heap[q4]? = some (.cells #[a, b] T (0, 0)) ∧ F.heap[q6]? = some (.cells #[c, d, e] U (0, 0)) ∧ (∀ p, ¬ (p = q4 ∨ p = q6) → F.heap[p]? = w.heap[p]?) ∧ w.heap.size ≤ F.heap.size ∧ (∀ (B : Nat) (V : World), Below B V w → B ≤ q4 → B ≤ q6 → Below B V F) := by
 have a1 := heap_setCell_same w q4 0 _ _ a h4
 have a2 := heap_setCell_same _ q4 1 _ _ b a1
 have c0 : ((w.setCell ⟨q4, 0, none⟩ a).setCell ⟨q4, 1, none⟩ b).heap[q6]? = _ := (Below.heap_setCell _ _ _ _ (Ne.symm hne)).trans ((Below.heap_setCell _ _ _ _ (Ne.symm hne)).trans h6)
 have c1 := heap_setCell_same _ q6 0 _ _ c c0
 have c2 := heap_setCell_same _ q6 1 _ _ d c1
 have c3 := heap_setCell_same _ q6 2 _ _ e c2
 subst hF
 refine ⟨?_, ?_, fun p hp => ?_, by simp, fun B V h h4 h6 => ?_⟩
 ·rw [Below.heap_setCell _ _ _ _ (by show q4 ≠ q6; exact hne), Below.heap_setCell _ _ _ _ (by show q4 ≠ q6; exact hne), Below.heap_setCell _ _ _ _ (by show q4 ≠ q6; exact hne)]
  exact a2
 ·exact c3
 ·have p4 : p ≠ q4 := fun e => hp (.inl e)
  have p6 : p ≠ q6 := fun e => hp (.inr e)
  rw [Below.heap_setCell _ _ _ _ (by show p ≠ q6; exact p6), Below.heap_setCell _ _ _ _ (by show p ≠ q6; exact p6), Below.heap_setCell _ _ _ _ (by show p ≠ q6; exact p6), Below.heap_setCell _ _ _ _ (by show p ≠ q4; exact p4), Below.heap_setCell _ _ _ _ (by show p ≠ q4; exact p4)]
 ·exact (((((h.setCell (p := ⟨q4, 0, none⟩) h4 _).setCell (p := ⟨q4, 1, none⟩) h4 _).setCell (p := ⟨q6, 0, none⟩) h6 _).setCell (p := ⟨q6, 1, none⟩) h6 _).setCell (p := ⟨q6, 2, none⟩) h6 _)
structure Uk (w : World) (cd : Nat → Int) (G : List aZ) (P : List (List Int)) (bv pv lv rv iv dv : Value) (D : List Int) (L : List Lp) (s : AS) : Prop where
 Ie : fF w bv G
 lls : l9 w pv P
 LJ : sI w lv L
 tree : fD G D
 loops : iR P (dN G.length (cU G)) (fU G.length (cU G)) (jC G G.length []) D L
 ends : Ends (aR cd G) (cF G.length) s
 Bc : s8 w rv s.reach
 bu : ∃ A cap, iv = .slice A s.bu.length cap ∧ s.bu.length ≤ cap ∧ cap ≤ maxLen
 l1 : s.reach.length = G.length
 l2 : s.bu.length = G.length
 dvs : ∃ A n c, dv = .slice A n c
def Dx (v : Value) : Prop := ∃ A n c, v = Value.slice A n c
def yK (n : Nat) (cd : Nat → Int) (aD : List jJ) (sh lk task : Int) : Prop := ∃ (k : Nat) (en : jJ) (G : List aZ) (P : List (List Int)), task = (k : Int) ∧ oC n cd aD sh lk k en G P ∧ ∀ D, fD G D → fT (dN G.length (cU G)) (fU G.length (cU G)) D (jC G G.length [])
def I3 (w : World) (n : Nat) (cd : Nat → Int) (aD : List jJ) (sh lk task : Int) (e : Ending) : Prop := ∃ (k : Nat) (en : jJ) (G : List aZ) (P : List (List Int)) (bv pv lv rv iv dv : Value) (D : List Int) (L : List Lp) (s : AS), task = (k : Int) ∧ oC n cd aD sh lk k en G P ∧ Uk w cd G P bv pv lv rv iv dv D L s ∧ e = .returned (.tuple #[.agg #[bv, pv], lv, .agg #[rv, iv, dv], .bool true])
def Zk (e : Ending) : Prop := ∃ bv pv lv rv iv dv : Value, (Dx bv ∧ Dx pv ∧ Dx lv ∧ Dx rv ∧ Dx iv ∧ Dx dv) ∧ e = .returned (.tuple #[.agg #[bv, pv], lv, .agg #[rv, iv, dv], .bool false])
theorem fD.len {G : List aZ} {D : List Int} (h : fD G D) : D.length = G.length := h.ti.len
theorem yK.tree {n : Nat} {cd : Nat → Int} {aD : List jJ} {sh lk : Int} {k : Nat} {en : jJ} {G : List aZ} {P : List (List Int)} {D : List Int} (h : yK n cd aD sh lk (k : Int)) (g : oC n cd aD sh lk k en G P) (hn : G.length ≤ 5000) (t : fD G D) : fT (dN G.length (cU G)) (fU G.length (cU G)) D (jC G G.length []) := by
 obtain ⟨k', en', G', P', e1, g', h'⟩ := h
 obtain rfl : k = k' := by omega
 have h1 := g.he
 rw [g'.he] at h1
 cases h1
 obtain ⟨rfl, rfl⟩ := g.same g'.out
 exact h' D t
theorem Cc (AZ : qK) (cv ev : Value) (sh lk : Int) (n : Nat) (cd : Nat → Int) (aD : List jJ) (task : Int) (w : World) (T : gL w) (HW : Words w cv n cd) (hn : n ≤ 1000) (HE : nj w ev aD) :
  Calls Tryz.prog 19 #[.agg #[cv, ev, .int .i64 sh, .int .i64 lk], .int .i64 task] w fun e w' => ((yK n cd aD sh lk task ∧ I3 w' n cd aD sh lk task e) ∨ (¬ yK n cd aD sh lk task ∧ Zk e)) ∧ Below w.heap.size w w' := by
 obtain ⟨V, hV, k0, k1, k2, bV, sV⟩ := dL w #[cv, ev, .int .i64 sh, .int .i64 lk] #[.slice none 0 0, .slice none 0 0] #[.slice none 0 0, .slice none 0 0, .slice none 0 0] 25 31 59
 have QD : V.heap.size = w.heap.size + 1 + 1 + 1 := by rw [← hV]; simp
 obtain ⟨y0, y1, y2, y3, y4⟩ := cJ k0
 have Qf := ahM (AG cv ev sh lk n cd aD task V (T.below bV) (HW.below bV) (HE.below bV))
 have BV := ahM bV
 have SV := ahM QD
 have K0 := ahM k0
 have K1 := ahM k1
 have K2 := ahM k2
 have MN := ahM (HW.below bV)
 have TV := ahM (T.below bV)
 have S9 := ahM HW.wd
 have HN := ahM hn
 clear bV sV QD k0 k1 k2 T HW HE hn
 go_enter Tryz.func19, Tryz.ntmps19
 go_wp2_with fail
 refine Qf.out.mono ?_
 rintro e W1 ⟨h, hb1⟩
 have B1 := ahM hb1
 have x0 := (hb1.cell (p := ⟨w.heap.size, 0, none⟩) y4).trans y0
 have x1 := (hb1.cell (p := ⟨w.heap.size, 1, none⟩) y4).trans y1
 have x2 := (hb1.cell (p := ⟨w.heap.size, 2, none⟩) y4).trans y2
 have x3 := (hb1.cell (p := ⟨w.heap.size, 3, none⟩) y4).trans y3
 have x4 : w.heap.size < W1.heap.size := by have := hb1.size; omega
 have X5 := ahM ((hb1.block _ aho).trans K1.out)
 have X3 := ahM ((hb1.block _ aho).trans K2.out)
 have S1 := ahM (show w.heap.size + 1 + 1 < W1.heap.size by have := hb1.size; have := SV.out; omega)
 have wM := ahM (BV.out.trans (hb1.mono BV.out.size))
 clear hb1 y0 y1 y2 y3 y4 hV Qf
 rcases h with ⟨hh, k, en, G, P, GA, PA, aW, aT, hk, hg, rfl, hG, hP, UM⟩ | ⟨hno, at_, er, her, rfl⟩
 case inr =>
  have der : (er != 0) = true := by simp [her]
  have MW := ahM (show ¬ yK n cd aD sh lk task from fun ⟨k, en, G, P, e1, g, _⟩ => hno ⟨k, en, G, P, e1, g⟩)
  clear hno her
  have K1' := ahM (show (W1.alloc (.cells #[.slice none 0 0, .slice none 0 0] 31)).heap[w.heap.size + 1]? = some (.cells #[.slice none 0 0, .slice none 0 0] 31 (0, 0)) by rw [heap_alloc_old _ _ ahp]; exact X5.out)
  have K2' := ahM (show (W1.alloc (.cells #[.slice none 0 0, .slice none 0 0] 31)).heap[w.heap.size + 1 + 1]? = some (.cells #[.slice none 0 0, .slice none 0 0, .slice none 0 0] 59 (0, 0)) by rw [heap_alloc_old _ _ ahp]; exact X3.out)
  have BU := ahM (show Below w.heap.size w (W1.alloc (.cells #[.slice none 0 0, .slice none 0 0] 31)) from wM.out.alloc wM.out.size _)
  go_wp2_with (first | (refine wpList_store_row rfl 31 (.tmp 4) (.tmp 25) rfl (w.heap.size + 1) #[.slice none 0 0, .slice none 0 0] rfl rfl 31 _ K1'.out agP rfl agR ?_) | (refine wpList_store_row rfl 59 (.tmp 6) (.tmp 26) rfl (w.heap.size + 1 + 1) #[.slice none 0 0, .slice none 0 0, .slice none 0 0] rfl rfl 59 _ ((setRow_other _ _ _ _ agO).trans K2'.out) agP rfl agR ?_))
  refine bodyPost_ret (jO (P := Tryz.prog) Tryz.results19 _ _ (w.heap.size + 1) (w.heap.size + 1 + 1) [.slice none 0 0, .slice none 0 0] [.slice none 0 0, .slice none 0 0, .slice none 0 0] _ _ rfl (aM ((setRow_other _ _ _ _ agO).trans (setRow_heap _ _ _ _ _ _ K1'.out))) rfl (aM (setRow_heap _ _ _ _ _ _ ((setRow_other _ _ _ _ agO).trans K2'.out))) Tryz.underlying31 rfl agP Tryz.underlying59 rfl agP) rfl ⟨.inr ⟨MW.out, _, _, _, _, _, _, ⟨⟨_, _, _, rfl⟩, ⟨_, _, _, rfl⟩, ⟨_, _, _, rfl⟩, ⟨_, _, _, rfl⟩, ⟨_, _, _, rfl⟩, ⟨_, _, _, rfl⟩⟩, rfl⟩, below_setRow (below_setRow BU.out agO _) agO _⟩
 have RZ : G.length ≤ 1000 := by have := hg.len; have := HN.out; omega
 have P9 := ahM hg
 have iT := ahM hg.val
 have EC := ahM (List.length_pos_iff.2 hg.val.ne)
 have TK := ahM (hg.gok S9.out)
 have HK := ahM hk
 have NG := ahM UM
 obtain ⟨gn, hgn⟩ : ∃ m, G.length = m := ⟨_, rfl⟩
 obtain ⟨pn, xQ⟩ : ∃ m, P.length = m := ⟨_, rfl⟩
 rw [hgn, xQ]
 rw [hgn] at hG RZ
 rw [xQ] at hP
 rw [hgn, xQ] at NG
 have eM := ahM hgn
 obtain ⟨U, hU⟩ : ∃ U, W1.alloc (.cells #[.slice GA gn aW, .slice PA pn aT] 31) = U := ⟨_, rfl⟩
 obtain ⟨b8, hb8⟩ : ∃ b, W1.heap.size = b := ⟨_, rfl⟩
 have bU : Below W1.heap.size W1 U := hU ▸ (Below.refl _ _).alloc (Nat.le_refl _) _
 have kU : U.heap[b8]? = some (.cells #[.slice GA gn aW, .slice PA pn aT] 31 (0, 0)) := by rw [← hb8]; exact hU ▸ heap_alloc_new _ _
 have u0 : U.cell? ⟨b8, 0, none⟩ = some (.slice GA gn aW) := by simp [World.cell?, kU]
 have u1 : U.cell? ⟨b8, 1, none⟩ = some (.slice PA pn aT) := by simp [World.cell?, kU]
 have u2 : b8 < U.heap.size := aB kU
 have HGU := ahM (hG.below bU)
 have HPU := ahM (hP.below bU)
 have BU1 := ahM bU
 have O8 := ahM ((Dq _ _ G P U (hG.below bU) (hP.below bU) hg.val (by rw [hgn]; omega)).mono fun e w' h => (show ∃ (D : List Int) (lA : Option Addr) (ln lc : Nat) (tg er : Int) (LG : Bool), e = .returned (.tuple #[.slice lA ln lc, .int .i64 tg, .int .i64 er]) ∧ (er == 0) = LG ∧ fD G D ∧ (LG = true → ∃ L, sI w' (.slice lA ln lc) L ∧ iR P (dN G.length (cU G)) (fU G.length (cU G)) (jC G G.length []) D L) ∧ (LG = false → ¬ fT (dN G.length (cU G)) (fU G.length (cU G)) D (jC G G.length [])) ∧ Below U.heap.size U w' from by
  obtain ⟨⟨D, hT, h1⟩, h2⟩ := h
  rcases h1 with ⟨lv, L, rfl, hL, RV⟩ | ⟨tg, rfl, hne⟩
  ·obtain ⟨lA, lc, rfl, -, -⟩ := hL.slice
   exact ⟨D, lA, _, lc, _, _, true, rfl, rfl, hT, fun _ => ⟨L, hL, RV⟩, fun h => (by cases h), h2⟩
  ·exact ⟨D, _, _, _, tg, _, false, rfl, rfl, hT, fun h => (by cases h), fun _ => hne, h2⟩))
 clear kU bU hG hP hg hk UM hgn xQ hh
 go_wp2_with fail
 refine O8.out.mono ?_
 rintro e W2 ⟨D, lA, ln, lc, tg, er, LG, rfl, hok, hT, hyes, hno, hb2⟩
 have HT := ahM hT
 have sK := ahM hyes
 have mL := ahM hno
 have B2 := ahM (BU1.out.trans (hb2.mono BU1.out.size))
 have BU2 := ahM hb2
 have s2 := B2.out.size
 have v0 := (hb2.cell (p := ⟨b8, 0, none⟩) u2).trans u0
 have v1 := (hb2.cell (p := ⟨b8, 1, none⟩) u2).trans u1
 have v2 : b8 < W2.heap.size := by have := hb2.size; omega
 have i0 := (B2.out.cell (p := ⟨w.heap.size, 0, none⟩) x4).trans x0
 have i1 := (B2.out.cell (p := ⟨w.heap.size, 1, none⟩) x4).trans x1
 have i2 := (B2.out.cell (p := ⟨w.heap.size, 2, none⟩) x4).trans x2
 have i3 := (B2.out.cell (p := ⟨w.heap.size, 3, none⟩) x4).trans x3
 have i4 : w.heap.size < W2.heap.size := by omega
 have B12 := ahM (B1.out.trans (B2.out.mono B1.out.size))
 have HAZ := ahM (AZ cv ev _ _ sh lk n cd G P W2 (TV.out.below B12.out) (MN.out.below B12.out) (HGU.out.below hb2) (HPU.out.below hb2) iT.out EC.out (by rw [eM.out]; exact RZ) TK.out)
 clear hT hyes hno hb2 u0 u1 u2 x0 x1 x2 x3 x4 O8 hU
 go_wp2_with fail
 refine HAZ.out.mono ?_
 rintro e W3 ⟨⟨s, rv, iv, dv, hE, rfl, hR, hD, hN⟩, hb3⟩
 have FX := OD (n := n) EC.out TK.out hE
 have Jt := ahM hE
 obtain ⟨yQ, jt, EJ, hr1, hr2, hr3⟩ := hR.XM.1
 obtain ⟨IA, fA, hiv, hi1, hi2⟩ := hR.XM.2
 obtain ⟨DA, mX, hdv, -, -, -⟩ := hD
 have hl1 := FX.p8.l1
 have hl2 := FX.p8.l2
 have IL := ahM (And.intro hl1 hl2)
 have Vc := hR.XM.1
 obtain ⟨dn, hdn⟩ : ∃ d, (fC (aR cd G) s G.length).length = d := ⟨_, rfl⟩
 rw [hdn] at hdv
 rw [hl1, eM.out] at EJ hr1
 rw [hl2, eM.out] at hiv hi1
 subst EJ hiv hdv
 have Ti := ahM Vc
 have YL := ahM (And.intro hi1 hi2)
 have WC := dY hr2
 have xT := dY hi2
 obtain ⟨Y, hY⟩ : ∃ Y, W3.alloc (.cells #[.slice yQ gn jt, .slice IA gn fA, .slice DA dn mX] 59) = Y := ⟨_, rfl⟩
 obtain ⟨b14, N2⟩ : ∃ b, W3.heap.size = b := ⟨_, rfl⟩
 have bY : Below W3.heap.size W3 Y := hY ▸ (Below.refl _ _).alloc (Nat.le_refl _) _
 have kY : Y.heap[b14]? = some (.cells #[.slice yQ gn jt, .slice IA gn fA, .slice DA dn mX] 59 (0, 0)) := by rw [← N2]; exact hY ▸ heap_alloc_new _ _
 have OA : Below W2.heap.size W2 Y := hb3.trans (bY.mono hb3.size)
 have y0 : Y.cell? ⟨b14, 0, none⟩ = some (.slice yQ gn jt) := by simp [World.cell?, kY]
 have y1 : Y.cell? ⟨b14, 1, none⟩ = some (.slice IA gn fA) := by simp [World.cell?, kY]
 have y2 : Y.cell? ⟨b14, 2, none⟩ = some (.slice DA dn mX) := by simp [World.cell?, kY]
 have y3 : b14 < Y.heap.size := aB kY
 have z0 := (OA.cell (p := ⟨b8, 0, none⟩) v2).trans v0
 have z1 := (OA.cell (p := ⟨b8, 1, none⟩) v2).trans v1
 have z2 : b8 < Y.heap.size := by have := OA.size; omega
 have BY := ahM (B2.out.trans (OA.mono B2.out.size))
 have Zj := ahM (BU2.out.trans (OA.mono BU2.out.size))
 have A8 := ahM OA
 have S3 := ahM hb3.size
 have HRY := ahM (Ti.out.below bY)
 clear hE hR hN hb3 FX hr3 Vc kY OA bY v0 v1 v2 i0 i1 i2 i3 i4 HAZ hl1 hl2 hdn hr2 hi2
 go_upto_region 6 with fail
 have y9 := ahM (show Y.drew.heap[w.heap.size + 1]? = some (.cells #[.slice none 0 0, .slice none 0 0] 31 (0, 0)) ∧ Y.drew.heap[w.heap.size + 1 + 1]? = some (.cells #[.slice none 0 0, .slice none 0 0, .slice none 0 0] 59 (0, 0)) from
  ⟨(BY.out.block _ ahp).trans X5.out, (BY.out.block _ ahp).trans X3.out⟩)
 have HS := ahM (show ∀ (F : World), F = ((((Y.drew.setCell ⟨w.heap.size + 1, 0, none⟩ (.slice GA gn aW)).setCell ⟨w.heap.size + 1, 1, none⟩ (.slice PA pn aT)).setCell ⟨w.heap.size + 1 + 1, 0, none⟩ (.slice yQ gn jt)).setCell ⟨w.heap.size + 1 + 1, 1, none⟩ (.slice IA gn fA)).setCell ⟨w.heap.size + 1 + 1, 2, none⟩ (.slice DA dn mX) → Below w.heap.size w F ∧ (F.heap[w.heap.size + 1]? = some (.cells #[.slice GA gn aW, .slice PA pn aT] 31 (0, 0)) ∧ F.heap[w.heap.size + 1 + 1]? = some (.cells #[.slice yQ gn jt, .slice IA gn fA, .slice DA dn mX] 59 (0, 0))) ∧ (LG = true → I3 F n cd aD sh lk task (.returned (.tuple #[.agg #[.slice GA gn aW, .slice PA pn aT], .slice lA ln lc, .agg #[.slice yQ gn jt, .slice IA gn fA, .slice DA dn mX], .bool true]))) from fun F hF => by
  obtain ⟨f1, f2⟩ := y9.out
  have hd : Below Y.heap.size Y Y.drew := Below.drew (Below.refl _ _)
  have hb : Below w.heap.size w Y.drew := wM.out.trans ((BY.out.trans (hd.mono BY.out.size)).mono wM.out.size)
  obtain ⟨t1, t2, t3, t4, t5⟩ := Fh f1 f2 agO hF
  refine ⟨t5 _ _ hb agO agO, ⟨t1, t2⟩, fun ho => ?_⟩
  obtain ⟨L, hL, RV⟩ := sK.out ho
  have hpt : Pt Y.drew F (fun q => q = w.heap.size + 1 ∨ q = w.heap.size + 1 + 1) := by
   refine ⟨fun q hq o v hv => ?_, fun p hp => t3 p hp, t4⟩
   ·rcases hq with rfl | rfl
    ·simp only [World.cell?, f1] at hv
     match o, hv with
     | 0, hv => simp at hv; exact ⟨_, _, _, hv.symm⟩
     | 1, hv => simp at hv; exact ⟨_, _, _, hv.symm⟩
     | o + 2, hv => simp at hv
    ·simp only [World.cell?, f2] at hv
     match o, hv with
     | 0, hv => simp at hv; exact ⟨_, _, _, hv.symm⟩
     | 1, hv => simp at hv; exact ⟨_, _, _, hv.symm⟩
     | 2, hv => simp at hv; exact ⟨_, _, _, hv.symm⟩
     | o + 3, hv => simp at hv
  have ZQ := Zj.out.trans (hd.mono Zj.out.size)
  have h2x := A8.out.trans (hd.mono A8.out.size)
  refine ⟨k, en, G, P, _, _, _, _, _, _, D, L, s, HK.out, P9.out, ⟨(HGU.out.below ZQ).pt hpt, (HPU.out.below ZQ).pt hpt (fun p hp hq => ?_), (hL.below h2x).pt hpt, HT.out, RV, Jt.out, (HRY.out.below hd).pt hpt, ⟨IA, fA, by rw [IL.out.2, eM.out], by rw [IL.out.2, eM.out]; exact YL.out.1, YL.out.2⟩, IL.out.1, IL.out.2, ⟨_, _, _, rfl⟩⟩, rfl⟩
  have := NG.out.2 p hp
  have := SV.out
  rcases hq with rfl | rfl <;> omega)
 have MW := ahM (show LG = false → ¬ yK n cd aD sh lk task from fun h hc => by
  rw [HK.out] at hc
  exact mL.out h (hc.tree P9.out ag5 HT.out))
 have HYC := ahM (show LG = true → yK n cd aD sh lk task from fun h => by
  obtain ⟨L, hL, RV⟩ := sK.out h
  refine ⟨k, en, G, P, HK.out, P9.out, fun D' h' => ?_⟩
  rw [← fD.eq iT.out ag5 h', fD.eq iT.out ag5 HT.out]
  exact RV.ok)
 have g4 : Y.heap[w.heap.size + 1]? = some (.cells #[.slice none 0 0, .slice none 0 0] 31 (0, 0)) := by
  exact (BY.out.block _ ahp).trans X5.out
 have g6 : Y.heap[w.heap.size + 1 + 1]? = some (.cells #[.slice none 0 0, .slice none 0 0, .slice none 0 0] 59 (0, 0)) := by
  exact (BY.out.block _ ahp).trans X3.out
 have a0 : Y.cell? ⟨w.heap.size + 1, 0, none⟩ = some (.slice none 0 0) := by simp [World.cell?, g4]
 have a1 : Y.cell? ⟨w.heap.size + 1, 1, none⟩ = some (.slice none 0 0) := by simp [World.cell?, g4]
 have a2 : Y.frozen? ⟨w.heap.size + 1, 0, none⟩ = false := by simp [World.frozen?, g4]
 have a3 : Y.frozen? ⟨w.heap.size + 1, 1, none⟩ = false := by simp [World.frozen?, g4]
 have c0 : Y.cell? ⟨w.heap.size + 1 + 1, 0, none⟩ = some (.slice none 0 0) := by simp [World.cell?, g6]
 have c1 : Y.cell? ⟨w.heap.size + 1 + 1, 1, none⟩ = some (.slice none 0 0) := by simp [World.cell?, g6]
 have c2 : Y.cell? ⟨w.heap.size + 1 + 1, 2, none⟩ = some (.slice none 0 0) := by simp [World.cell?, g6]
 have c3 : Y.frozen? ⟨w.heap.size + 1 + 1, 0, none⟩ = false := by simp [World.frozen?, g6]
 have c4 : Y.frozen? ⟨w.heap.size + 1 + 1, 1, none⟩ = false := by simp [World.frozen?, g6]
 have c5 : Y.frozen? ⟨w.heap.size + 1 + 1, 2, none⟩ = false := by simp [World.frozen?, g6]
 have n1 : w.heap.size + 1 ≠ w.heap.size + 1 + 1 := by omega
 have n2 : b8 ≠ w.heap.size + 1 := by have := S1.out; omega
 have n3 : b8 ≠ w.heap.size + 1 + 1 := by have := S1.out; omega
 have n4 : b14 ≠ w.heap.size + 1 := by have := S1.out; have := S3.out; omega
 have n5 : b14 ≠ w.heap.size + 1 + 1 := by have := S1.out; have := S3.out; omega
 have n1' := n1.symm
 have n2' := n2.symm
 have n3' := n3.symm
 have n4' := n4.symm
 have n5' := n5.symm
 have l4 : w.heap.size + 1 < Y.heap.size := aB g4
 have l6 : w.heap.size + 1 + 1 < Y.heap.size := aB g6
 clear g4 g6 y9 HRY A8 Zj BY Jt IL Ti YL sK mL
 rcases LG with _ | _
 ·refine wp_region_noPanic ?_
  refine wp_region_held_drew (S := fun w' => w'.cell? ⟨b8, 0, none⟩ = some (.slice GA gn aW) ∧ w'.cell? ⟨b8, 1, none⟩ = some (.slice PA pn aT) ∧ w'.cell? ⟨b14, 0, none⟩ = some (.slice yQ gn jt) ∧ w'.cell? ⟨b14, 1, none⟩ = some (.slice IA gn fA) ∧ w'.cell? ⟨b14, 2, none⟩ = some (.slice DA dn mX)) agP ?_ (fun hHeld => ?_)
  ·go_keep
  refine wpAnyH_take (i := 0) (oi := _) (v := ?_) rfl agP agP agP (fun _ _ _ h => h) (Or.inl ⟨by rfl, ?_⟩) hHeld ?_
  rotate_left
  ·intro w hSw
   (try dsimp only at hSw)
   go_simp
   (try with_reducible rfl)
  (try simp only [ahN, ahO, ahP, Act.put, ahQ, ahR, ahS])
  refine wpAnyH_take (i := 1) (oi := _) (v := ?_) rfl agP agP agP (fun _ _ _ h => h) (Or.inl ⟨by rfl, ?_⟩) hHeld ?_
  rotate_left
  ·intro w hSw
   (try dsimp only at hSw)
   go_simp
   (try with_reducible rfl)
  (try simp only [ahN, ahO, ahP, Act.put, ahQ, ahR, ahS])
  refine wpAnyH_take (i := 2) (oi := _) (v := ?_) rfl agP agP agP (fun _ _ _ h => h) (Or.inl ⟨by rfl, ?_⟩) hHeld ?_
  rotate_left
  ·intro w hSw
   (try dsimp only at hSw)
   go_simp
   (try with_reducible rfl)
  (try simp only [ahN, ahO, ahP, Act.put, ahQ, ahR, ahS])
  refine wpAnyH_take (i := 3) (oi := _) (v := ?_) rfl agP agP agP (fun _ _ _ h => h) (Or.inl ⟨by rfl, ?_⟩) hHeld ?_
  rotate_left
  ·intro w hSw
   (try dsimp only at hSw)
   go_simp
   (try with_reducible rfl)
  (try simp only [ahN, ahO, ahP, Act.put, ahQ, ahR, ahS])
  refine wpAnyH_take (i := 4) (oi := _) (v := ?_) rfl agP agP agP (fun _ _ _ h => h) (Or.inl ⟨by rfl, ?_⟩) hHeld ?_
  rotate_left
  ·intro w hSw
   (try dsimp only at hSw)
   go_simp
   (try with_reducible rfl)
  (try simp only [ahN, ahO, ahP, Act.put, ahQ, ahR, ahS])
  refine wpAnyH_take (i := 5) (oi := _) (v := ?_) rfl agP agP agP (fun _ _ _ h => h) (Or.inl ⟨by rfl, ?_⟩) hHeld ?_
  rotate_left
  ·intro w hSw
   (try dsimp only at hSw)
   go_simp
   (try with_reducible rfl)
  (try simp only [ahN, ahO, ahP, Act.put, ahQ, ahR, ahS])
  refine wpAnyH_take (i := 6) (oi := _) (v := undef) rfl agP agP agP (fun _ _ _ h => h) (Or.inr ⟨by rfl, rfl⟩) hHeld ?_
  (try simp only [ahN, ahO, ahP, Act.put, ahQ, ahR, ahS])
  refine wpAnyH_take (i := 7) (oi := _) (v := undef) rfl agP agP agP (fun _ _ _ h => h) (Or.inr ⟨by rfl, rfl⟩) hHeld ?_
  (try simp only [ahN, ahO, ahP, Act.put, ahQ, ahR, ahS])
  refine wpAnyH_take (i := 8) (oi := _) (v := ?_) rfl agP agP agP (fun _ _ _ h => h) (Or.inl ⟨by rfl, ?_⟩) hHeld ?_
  rotate_left
  ·intro w hSw
   (try dsimp only at hSw)
   go_simp
   (try with_reducible rfl)
  (try simp only [ahN, ahO, ahP, Act.put, ahQ, ahR, ahS])
  refine wpAnyH_take (i := 9) (oi := _) (v := ?_) rfl agP agP agP (fun _ _ _ h => h) (Or.inl ⟨by rfl, ?_⟩) hHeld ?_
  rotate_left
  ·intro w hSw
   (try dsimp only at hSw)
   go_simp
   (try with_reducible rfl)
  (try simp only [ahN, ahO, ahP, Act.put, ahQ, ahR, ahS])
  refine wpAnyH_take (i := 10) (oi := _) (v := undef) rfl agP agP agP (fun _ _ _ h => h) (Or.inr ⟨by rfl, rfl⟩) hHeld ?_
  (try simp only [ahN, ahO, ahP, Act.put, ahQ, ahR, ahS])
  refine wpAnyH_take (i := 11) (oi := _) (v := undef) rfl agP agP agP (fun _ _ _ h => h) (Or.inr ⟨by rfl, rfl⟩) hHeld ?_
  (try simp only [ahN, ahO, ahP, Act.put, ahQ, ahR, ahS])
  refine wpAnyH_take (i := 12) (oi := _) (v := undef) rfl agP agP agP (fun _ _ _ h => h) (Or.inr ⟨by rfl, rfl⟩) hHeld ?_
  (try simp only [ahN, ahO, ahP, Act.put, ahQ, ahR, ahS])
  refine wpAnyH_take (i := 13) (oi := _) (v := undef) rfl agP agP agP (fun _ _ _ h => h) (Or.inr ⟨by rfl, rfl⟩) hHeld ?_
  (try simp only [ahN, ahO, ahP, Act.put, ahQ, ahR, ahS])
  refine wpAnyH_take (i := 14) (oi := _) (v := undef) rfl agP agP agP (fun _ _ _ h => h) (Or.inr ⟨by rfl, rfl⟩) hHeld ?_
  (try simp only [ahN, ahO, ahP, Act.put, ahQ, ahR, ahS])
  refine wpAnyH_take (i := 15) (oi := _) (v := undef) rfl agP agP agP (fun _ _ _ h => h) (Or.inr ⟨by rfl, rfl⟩) hHeld ?_
  (try simp only [ahN, ahO, ahP, Act.put, ahQ, ahR, ahS])
  refine wpAnyH_take (i := 16) (oi := _) (v := undef) rfl agP agP agP (fun _ _ _ h => h) (Or.inr ⟨by rfl, rfl⟩) hHeld ?_
  (try simp only [ahN, ahO, ahP, Act.put, ahQ, ahR, ahS])
  refine wpAnyH_take (i := 17) (oi := _) (v := ?_) rfl agP agP agP (fun _ _ _ h => h) (Or.inl ⟨by rfl, ?_⟩) hHeld ?_
  rotate_left
  ·intro w hSw
   (try dsimp only at hSw)
   go_simp
   (try with_reducible rfl)
  (try simp only [ahN, ahO, ahP, Act.put, ahQ, ahR, ahS])
  refine wpAnyH_take (i := 18) (oi := _) (v := ?_) rfl agP agP agP (fun _ _ _ h => h) (Or.inl ⟨by rfl, ?_⟩) hHeld ?_
  rotate_left
  ·intro w hSw
   (try dsimp only at hSw)
   go_simp
   (try with_reducible rfl)
  (try simp only [ahN, ahO, ahP, Act.put, ahQ, ahR, ahS])
  refine wpAnyH_take (i := 19) (oi := _) (v := undef) rfl agP agP agP (fun _ _ _ h => h) (Or.inr ⟨by rfl, rfl⟩) hHeld ?_
  (try simp only [ahN, ahO, ahP, Act.put, ahQ, ahR, ahS])
  refine wpAnyH_take (i := 20) (oi := _) (v := undef) rfl agP agP agP (fun _ _ _ h => h) (Or.inr ⟨by rfl, rfl⟩) hHeld ?_
  (try simp only [ahN, ahO, ahP, Act.put, ahQ, ahR, ahS])
  refine wpAnyH_take (i := 21) (oi := _) (v := undef) rfl agP agP agP (fun _ _ _ h => h) (Or.inr ⟨by rfl, rfl⟩) hHeld ?_
  (try simp only [ahN, ahO, ahP, Act.put, ahQ, ahR, ahS])
  refine wpAnyH_take (i := 22) (oi := _) (v := undef) rfl agP agP agP (fun _ _ _ h => h) (Or.inr ⟨by rfl, rfl⟩) hHeld ?_
  (try simp only [ahN, ahO, ahP, Act.put, ahQ, ahR, ahS])
  refine wpAnyH_take (i := 23) (oi := _) (v := undef) rfl agP agP agP (fun _ _ _ h => h) (Or.inr ⟨by rfl, rfl⟩) hHeld ?_
  (try simp only [ahN, ahO, ahP, Act.put, ahQ, ahR, ahS])
  refine wpAnyH_take (i := 24) (oi := _) (v := undef) rfl agP agP agP (fun _ _ _ h => h) (Or.inr ⟨by rfl, rfl⟩) hHeld ?_
  (try simp only [ahN, ahO, ahP, Act.put, ahQ, ahR, ahS])
  refine wpAnyH_take (i := 25) (oi := _) (v := undef) rfl agP agP agP (fun _ _ _ h => h) (Or.inr ⟨by rfl, rfl⟩) hHeld ?_
  (try simp only [ahN, ahO, ahP, Act.put, ahQ, ahR, ahS])
  refine wpAnyH_take (i := 26) (oi := _) (v := ?_) rfl agP agP agP (fun _ _ _ h => h) (Or.inl ⟨by rfl, ?_⟩) hHeld ?_
  rotate_left
  ·intro w hSw
   (try dsimp only at hSw)
   go_simp
   (try with_reducible rfl)
  (try simp only [ahN, ahO, ahP, Act.put, ahQ, ahR, ahS])
  refine wpAnyH_ready (rs := [27]) agP agT ?_
  refine AllReadyH.cons (o := _) rfl (fun K hK => ?_) AllReadyH.nil
  go_simp
  refine hK.out _ _ ?_ (fun hHeld => ?_)
  ·go_keep
  clear hK K
  (try simp only [ahN, ahO, ahP, Act.put, ahQ, ahR, ahS])
  refine wpAnyH_take (i := 28) (oi := _) (v := ?_) rfl agP agP agP (fun _ _ _ h => h) (Or.inl ⟨by rfl, ?_⟩) hHeld ?_
  rotate_left
  ·intro w hSw
   (try dsimp only at hSw)
   go_simp
   (try with_reducible rfl)
  (try simp only [ahN, ahO, ahP, Act.put, ahQ, ahR, ahS])
  refine wpAnyH_ready (rs := [29]) agP agT ?_
  refine AllReadyH.cons (o := _) rfl (fun K hK => ?_) AllReadyH.nil
  go_simp
  refine hK.out _ _ ?_ (fun hHeld => ?_)
  ·go_keep
  clear hK K
  (try simp only [ahN, ahO, ahP, Act.put, ahQ, ahR, ahS])
  refine wpAnyH_take (i := 30) (oi := _) (v := ?_) rfl agP agP agP (fun _ _ _ h => h) (Or.inl ⟨by rfl, ?_⟩) hHeld ?_
  rotate_left
  ·intro w hSw
   (try dsimp only at hSw)
   go_simp
   (try with_reducible rfl)
  (try simp only [ahN, ahO, ahP, Act.put, ahQ, ahR, ahS])
  refine wpAnyH_done agP ?_ _
  refine NoPanic.normal ?_
  go_wp2_with fail
  have MT := HS.out _ rfl
  refine bodyPost_ret (jO (P := Tryz.prog) Tryz.results19 _ _ (w.heap.size + 1) (w.heap.size + 1 + 1) [.slice GA gn aW, .slice PA pn aT] [.slice yQ gn jt, .slice IA gn fA, .slice DA dn mX] _ _ rfl (aM MT.2.1.1) rfl (aM MT.2.1.2) Tryz.underlying31 rfl agP Tryz.underlying59 rfl agP) rfl ?_
  exact ⟨.inr ⟨MW.out ahr, .slice GA gn aW, .slice PA pn aT, .slice lA ln lc, .slice yQ gn jt, .slice IA gn fA, .slice DA dn mX, ⟨⟨_, _, _, rfl⟩, ⟨_, _, _, rfl⟩, ⟨_, _, _, rfl⟩, ⟨_, _, _, rfl⟩, ⟨_, _, _, rfl⟩, ⟨_, _, _, rfl⟩⟩, rfl⟩, MT.1⟩
 ·refine wp_region_noPanic ?_
  refine wp_region_held_drew (S := fun w' => w'.cell? ⟨b8, 0, none⟩ = some (.slice GA gn aW) ∧ w'.cell? ⟨b8, 1, none⟩ = some (.slice PA pn aT) ∧ w'.cell? ⟨b14, 0, none⟩ = some (.slice yQ gn jt) ∧ w'.cell? ⟨b14, 1, none⟩ = some (.slice IA gn fA) ∧ w'.cell? ⟨b14, 2, none⟩ = some (.slice DA dn mX)) agP ?_ (fun hHeld => ?_)
  ·go_keep
  refine wpAnyH_take (i := 0) (oi := _) (v := ?_) rfl agP agP agP (fun _ _ _ h => h) (Or.inl ⟨by rfl, ?_⟩) hHeld ?_
  rotate_left
  ·intro w hSw
   (try dsimp only at hSw)
   go_simp
   (try with_reducible rfl)
  (try simp only [ahN, ahO, ahP, Act.put, ahQ, ahR, ahS])
  refine wpAnyH_take (i := 1) (oi := _) (v := ?_) rfl agP agP agP (fun _ _ _ h => h) (Or.inl ⟨by rfl, ?_⟩) hHeld ?_
  rotate_left
  ·intro w hSw
   (try dsimp only at hSw)
   go_simp
   (try with_reducible rfl)
  (try simp only [ahN, ahO, ahP, Act.put, ahQ, ahR, ahS])
  refine wpAnyH_take (i := 2) (oi := _) (v := ?_) rfl agP agP agP (fun _ _ _ h => h) (Or.inl ⟨by rfl, ?_⟩) hHeld ?_
  rotate_left
  ·intro w hSw
   (try dsimp only at hSw)
   go_simp
   (try with_reducible rfl)
  (try simp only [ahN, ahO, ahP, Act.put, ahQ, ahR, ahS])
  refine wpAnyH_take (i := 3) (oi := _) (v := ?_) rfl agP agP agP (fun _ _ _ h => h) (Or.inl ⟨by rfl, ?_⟩) hHeld ?_
  rotate_left
  ·intro w hSw
   (try dsimp only at hSw)
   go_simp
   (try with_reducible rfl)
  (try simp only [ahN, ahO, ahP, Act.put, ahQ, ahR, ahS])
  refine wpAnyH_take (i := 4) (oi := _) (v := ?_) rfl agP agP agP (fun _ _ _ h => h) (Or.inl ⟨by rfl, ?_⟩) hHeld ?_
  rotate_left
  ·intro w hSw
   (try dsimp only at hSw)
   go_simp
   (try with_reducible rfl)
  (try simp only [ahN, ahO, ahP, Act.put, ahQ, ahR, ahS])
  refine wpAnyH_take (i := 5) (oi := _) (v := ?_) rfl agP agP agP (fun _ _ _ h => h) (Or.inl ⟨by rfl, ?_⟩) hHeld ?_
  rotate_left
  ·intro w hSw
   (try dsimp only at hSw)
   go_simp
   (try with_reducible rfl)
  (try simp only [ahN, ahO, ahP, Act.put, ahQ, ahR, ahS])
  refine wpAnyH_take (i := 6) (oi := _) (v := ?_) rfl agP agP agP (fun _ _ _ h => h) (Or.inl ⟨by rfl, ?_⟩) hHeld ?_
  rotate_left
  ·intro w hSw
   (try dsimp only at hSw)
   go_simp
   (try with_reducible rfl)
  (try simp only [ahN, ahO, ahP, Act.put, ahQ, ahR, ahS])
  refine wpAnyH_take (i := 7) (oi := _) (v := ?_) rfl agP agP agP (fun _ _ _ h => h) (Or.inl ⟨by rfl, ?_⟩) hHeld ?_
  rotate_left
  ·intro w hSw
   (try dsimp only at hSw)
   go_simp
   (try with_reducible rfl)
  (try simp only [ahN, ahO, ahP, Act.put, ahQ, ahR, ahS])
  refine wpAnyH_take (i := 8) (oi := _) (v := ?_) rfl agP agP agP (fun _ _ _ h => h) (Or.inl ⟨by rfl, ?_⟩) hHeld ?_
  rotate_left
  ·intro w hSw
   (try dsimp only at hSw)
   go_simp
   (try with_reducible rfl)
  (try simp only [ahN, ahO, ahP, Act.put, ahQ, ahR, ahS])
  refine wpAnyH_take (i := 9) (oi := _) (v := ?_) rfl agP agP agP (fun _ _ _ h => h) (Or.inl ⟨by rfl, ?_⟩) hHeld ?_
  rotate_left
  ·intro w hSw
   (try dsimp only at hSw)
   go_simp
   (try with_reducible rfl)
  (try simp only [ahN, ahO, ahP, Act.put, ahQ, ahR, ahS])
  refine wpAnyH_take (i := 10) (oi := _) (v := ?_) rfl agP agP agP (fun _ _ _ h => h) (Or.inl ⟨by rfl, ?_⟩) hHeld ?_
  rotate_left
  ·intro w hSw
   (try dsimp only at hSw)
   go_simp
   (try with_reducible rfl)
  (try simp only [ahN, ahO, ahP, Act.put, ahQ, ahR, ahS])
  refine wpAnyH_take (i := 11) (oi := _) (v := ?_) rfl agP agP agP (fun _ _ _ h => h) (Or.inl ⟨by rfl, ?_⟩) hHeld ?_
  rotate_left
  ·intro w hSw
   (try dsimp only at hSw)
   go_simp
   (try with_reducible rfl)
  (try simp only [ahN, ahO, ahP, Act.put, ahQ, ahR, ahS])
  refine wpAnyH_take (i := 12) (oi := _) (v := ?_) rfl agP agP agP (fun _ _ _ h => h) (Or.inl ⟨by rfl, ?_⟩) hHeld ?_
  rotate_left
  ·intro w hSw
   (try dsimp only at hSw)
   go_simp
   (try with_reducible rfl)
  (try simp only [ahN, ahO, ahP, Act.put, ahQ, ahR, ahS])
  refine wpAnyH_take (i := 13) (oi := _) (v := ?_) rfl agP agP agP (fun _ _ _ h => h) (Or.inl ⟨by rfl, ?_⟩) hHeld ?_
  rotate_left
  ·intro w hSw
   (try dsimp only at hSw)
   go_simp
   (try with_reducible rfl)
  (try simp only [ahN, ahO, ahP, Act.put, ahQ, ahR, ahS])
  refine wpAnyH_take (i := 14) (oi := _) (v := ?_) rfl agP agP agP (fun _ _ _ h => h) (Or.inl ⟨by rfl, ?_⟩) hHeld ?_
  rotate_left
  ·intro w hSw
   (try dsimp only at hSw)
   go_simp
   (try with_reducible rfl)
  (try simp only [ahN, ahO, ahP, Act.put, ahQ, ahR, ahS])
  refine wpAnyH_take (i := 15) (oi := _) (v := ?_) rfl agP agP agP (fun _ _ _ h => h) (Or.inl ⟨by rfl, ?_⟩) hHeld ?_
  rotate_left
  ·intro w hSw
   (try dsimp only at hSw)
   go_simp
   (try with_reducible rfl)
  (try simp only [ahN, ahO, ahP, Act.put, ahQ, ahR, ahS])
  refine wpAnyH_take (i := 16) (oi := _) (v := ?_) rfl agP agP agP (fun _ _ _ h => h) (Or.inl ⟨by rfl, ?_⟩) hHeld ?_
  rotate_left
  ·intro w hSw
   (try dsimp only at hSw)
   go_simp
   (try with_reducible rfl)
  (try simp only [ahN, ahO, ahP, Act.put, ahQ, ahR, ahS])
  refine wpAnyH_take (i := 17) (oi := _) (v := ?_) rfl agP agP agP (fun _ _ _ h => h) (Or.inl ⟨by rfl, ?_⟩) hHeld ?_
  rotate_left
  ·intro w hSw
   (try dsimp only at hSw)
   go_simp
   (try with_reducible rfl)
  (try simp only [ahN, ahO, ahP, Act.put, ahQ, ahR, ahS])
  refine wpAnyH_take (i := 18) (oi := _) (v := ?_) rfl agP agP agP (fun _ _ _ h => h) (Or.inl ⟨by rfl, ?_⟩) hHeld ?_
  rotate_left
  ·intro w hSw
   (try dsimp only at hSw)
   go_simp
   (try with_reducible rfl)
  (try simp only [ahN, ahO, ahP, Act.put, ahQ, ahR, ahS])
  refine wpAnyH_take (i := 19) (oi := _) (v := ?_) rfl agP agP agP (fun _ _ _ h => h) (Or.inl ⟨by rfl, ?_⟩) hHeld ?_
  rotate_left
  ·intro w hSw
   (try dsimp only at hSw)
   go_simp
   (try with_reducible rfl)
  (try simp only [ahN, ahO, ahP, Act.put, ahQ, ahR, ahS])
  refine wpAnyH_take (i := 20) (oi := _) (v := ?_) rfl agP agP agP (fun _ _ _ h => h) (Or.inl ⟨by rfl, ?_⟩) hHeld ?_
  rotate_left
  ·intro w hSw
   (try dsimp only at hSw)
   go_simp
   (try with_reducible rfl)
  (try simp only [ahN, ahO, ahP, Act.put, ahQ, ahR, ahS])
  refine wpAnyH_take (i := 21) (oi := _) (v := ?_) rfl agP agP agP (fun _ _ _ h => h) (Or.inl ⟨by rfl, ?_⟩) hHeld ?_
  rotate_left
  ·intro w hSw
   (try dsimp only at hSw)
   go_simp
   (try with_reducible rfl)
  (try simp only [ahN, ahO, ahP, Act.put, ahQ, ahR, ahS])
  refine wpAnyH_take (i := 22) (oi := _) (v := ?_) rfl agP agP agP (fun _ _ _ h => h) (Or.inl ⟨by rfl, ?_⟩) hHeld ?_
  rotate_left
  ·intro w hSw
   (try dsimp only at hSw)
   go_simp
   (try with_reducible rfl)
  (try simp only [ahN, ahO, ahP, Act.put, ahQ, ahR, ahS])
  refine wpAnyH_take (i := 23) (oi := _) (v := ?_) rfl agP agP agP (fun _ _ _ h => h) (Or.inl ⟨by rfl, ?_⟩) hHeld ?_
  rotate_left
  ·intro w hSw
   (try dsimp only at hSw)
   go_simp
   (try with_reducible rfl)
  (try simp only [ahN, ahO, ahP, Act.put, ahQ, ahR, ahS])
  refine wpAnyH_take (i := 24) (oi := _) (v := ?_) rfl agP agP agP (fun _ _ _ h => h) (Or.inl ⟨by rfl, ?_⟩) hHeld ?_
  rotate_left
  ·intro w hSw
   (try dsimp only at hSw)
   go_simp
   (try with_reducible rfl)
  (try simp only [ahN, ahO, ahP, Act.put, ahQ, ahR, ahS])
  refine wpAnyH_take (i := 25) (oi := _) (v := ?_) rfl agP agP agP (fun _ _ _ h => h) (Or.inl ⟨by rfl, ?_⟩) hHeld ?_
  rotate_left
  ·intro w hSw
   (try dsimp only at hSw)
   go_simp
   (try with_reducible rfl)
  (try simp only [ahN, ahO, ahP, Act.put, ahQ, ahR, ahS])
  refine wpAnyH_take (i := 26) (oi := _) (v := ?_) rfl agP agP agP (fun _ _ _ h => h) (Or.inl ⟨by rfl, ?_⟩) hHeld ?_
  rotate_left
  ·intro w hSw
   (try dsimp only at hSw)
   go_simp
   (try with_reducible rfl)
  (try simp only [ahN, ahO, ahP, Act.put, ahQ, ahR, ahS])
  refine wpAnyH_ready (rs := [27]) agP agT ?_
  refine AllReadyH.cons (o := _) rfl (fun K hK => ?_) AllReadyH.nil
  go_simp
  refine hK.out _ _ ?_ (fun hHeld => ?_)
  ·go_keep
  clear hK K
  (try simp only [ahN, ahO, ahP, Act.put, ahQ, ahR, ahS])
  refine wpAnyH_take (i := 28) (oi := _) (v := ?_) rfl agP agP agP (fun _ _ _ h => h) (Or.inl ⟨by rfl, ?_⟩) hHeld ?_
  rotate_left
  ·intro w hSw
   (try dsimp only at hSw)
   go_simp
   (try with_reducible rfl)
  (try simp only [ahN, ahO, ahP, Act.put, ahQ, ahR, ahS])
  refine wpAnyH_ready (rs := [29]) agP agT ?_
  refine AllReadyH.cons (o := _) rfl (fun K hK => ?_) AllReadyH.nil
  go_simp
  refine hK.out _ _ ?_ (fun hHeld => ?_)
  ·go_keep
  clear hK K
  (try simp only [ahN, ahO, ahP, Act.put, ahQ, ahR, ahS])
  refine wpAnyH_take (i := 30) (oi := _) (v := ?_) rfl agP agP agP (fun _ _ _ h => h) (Or.inl ⟨by rfl, ?_⟩) hHeld ?_
  rotate_left
  ·intro w hSw
   (try dsimp only at hSw)
   go_simp
   (try with_reducible rfl)
  (try simp only [ahN, ahO, ahP, Act.put, ahQ, ahR, ahS])
  refine wpAnyH_done agP ?_ _
  refine NoPanic.normal ?_
  go_wp2_with fail
  have MT := HS.out _ rfl
  refine bodyPost_ret (jO (P := Tryz.prog) Tryz.results19 _ _ (w.heap.size + 1) (w.heap.size + 1 + 1) [.slice GA gn aW, .slice PA pn aT] [.slice yQ gn jt, .slice IA gn fA, .slice DA dn mX] _ _ rfl (aM MT.2.1.1) rfl (aM MT.2.1.2) Tryz.underlying31 rfl agP Tryz.underlying59 rfl agP) rfl ?_
  exact ⟨.inl ⟨HYC.out ahr, MT.2.2 ahr⟩, MT.1⟩
end
end Go.Proofs.YtlmgkipmfgijiaaGreatDoor
