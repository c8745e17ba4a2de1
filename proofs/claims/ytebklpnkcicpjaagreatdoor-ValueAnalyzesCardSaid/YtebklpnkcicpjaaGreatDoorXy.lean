/-
  What is proved here: parts lAn.
-/
import Derived.Test.YtebklpnkcicpjaaGreatDoorXa
import Derived.Test.YtebklpnkcicpjaaGreatDoorXx
import Derived.Test.YtebklpnkcicpjaaGreatDoorXo
import Derived.Test.YtebklpnkcicpjaaGreatDoorXl
import Derived.Test.YtebklpnkcicpjaaGreatDoorXf
import Derived.BigQuiet
namespace Go.Proofs.YtebklpnkcicpjaaGreatDoor
set_option linter.unusedVariables false
set_option linter.unusedSimpArgs false
set_option maxRecDepth 100000
set_option maxHeartbeats 8000000
section
open Go.RowKit
theorem SX.Il {w w' : World} {cv bv pv : Value} {n : Nat} {cd : Nat → Int} {aM : List nE} {sh lk : Int} {k : Nat} {G : List dL} {P : List (List Int)} (h : SX w cv bv pv n cd aM sh lk k G P) (hb : Below w.heap.size w w') : SX w' cv bv pv n cd aM sh lk k G P :=
 ⟨h.wd.below hb, h.n3, h.gd, h.R7.below hb, h.lls.below hb, h.val, h.pos, h.len, h.ok, h.run⟩
theorem Nn (w : World) (cs : Array Value) (T : TypeId) : ∃ V, w.alloc (.cells cs T) = V ∧ V.heap[w.heap.size]? = some (.cells cs T (0, 0)) ∧ Below w.heap.size w V ∧ V.heap.size = w.heap.size + 1 :=
 ⟨_, rfl, heap_alloc_new _ _, (Below.refl _ _).alloc (Nat.le_refl _) _, by simp⟩
theorem Fu {a : RG} (ha : a.length = 16) (w : World) : (binOp .neq 56 (.agg (aa a).toArray) (.agg (aa a).toArray)).run Tryz.prog w = .ok (.bool false) w := by
 have h1 := uQ 9997 ha ha w
 rw [decide_eq_true rfl] at h1
 simp [binOp, Op.equal, Op.maxDepth, h1]
theorem wH {ops : Array Oper} {C : World → Prop} {Q : Act → Prop} {a : Act} {op : Oper} {rest : List Oper} (hw : Region.wanted op (yielded ops a.tmps) = true) (x y : Operand) (z : TypeId) (ho : op.op = .binOp .neq 56 x y z)
  (p : RG) (hp : p.length = 16) (hx : a.eval x = .agg (aa p).toArray) (hy : a.eval y = .agg (aa p).toArray) (h : wpQuiet Tryz.prog ops C Q rest (a.put op.dst (.bool false))) : wpQuiet Tryz.prog ops C Q (op :: rest) a :=
 BigFrame.wpQuiet_want hw fun K hK => ⟨.bool false, fun w hC => by
  unfold Oper.quietAt execOp
  have h1 : (eqGuard .neq 56 x y (.agg (aa p).toArray) (.agg (aa p).toArray)).run Tryz.prog w = .ok () w := run_eqGuard_agg _ _ _ _ _ _ _ abp
  have h2 := Fu hp w
  simp only [ho, hx, hy, Sem.run_bind, Sem.run_map, h1, Result.andThen_ok, h2, Sem.run_pure]
  exact ⟨rfl, rfl⟩, hK _ h⟩
theorem Et {n gn : Nat} {cd : Nat → Int} {G : List dL} (hok : ∀ x ∈ G, Fa n cd G x) (hg : G.length = gn) {s s' : AS} (h : Ends (bz cd G) (ct G.length) s) (h' : Ends (ep (El cd) G) (ct gn) s') : s = s' := by
 rw [BI hok, hg] at h
 exact h.Kn h'
theorem Ek {n gn : Nat} {cd : Nat → Int} {G : List dL} (hok : ∀ x ∈ G, Fa n cd G x) (hg : G.length = gn) (s : AS) : cZ (ep (El cd) G) s gn = cZ (bz cd G) s G.length := by
 rw [BI hok, hg]
theorem BB {n : Nat} {cd : Nat → Int} {G : List dL} (hok : ∀ x ∈ G, Fa n cd G x) (hl : G.length ≤ 1000) (s : AS) : (cZ (bz cd G) s G.length).length ≤ 10000000 := by
 have := lW (B := bz cd G) (s := s) (fun q b hb => by
  obtain ⟨x, hx, rfl⟩ := lH hb
  exact (hok x (List.mem_of_getElem? hx)).tF) G.length
 omega
theorem MI {w : World} {ib : Nat} {L : List RG} (h : w.heap[ib]? = some (.cells (jk L).toArray 61 (0, 0))) (h16 : ∀ x ∈ L, x.length = 16) {t : Nat} (ht : t < L.length) : w.rangeAt ib (t * 32) (aa (L.getD t [])) := by
 have e : L.getD t [] = L[t] := by simp [List.getD, List.getElem?_eq_getElem ht]
 have h1 := h16 _ (List.getElem_mem ht)
 refine oU h (fun j hj => ?_)
 rw [e] at hj ⊢
 rw [ax, h1] at hj
 exact iY h16 (List.getElem?_eq_getElem ht) j hj
theorem F7 {w : World} {rb : Nat} {L : List Bool} (h : w.heap[rb]? = some (.cells (L.map Value.bool).toArray 4 (0, 0))) {t : Nat} (ht : t < L.length) : w.cell? ⟨rb, t, none⟩ = some (.bool (L.getD t false)) := by
 simp [World.cell?, h, List.getD, List.getElem?_eq_getElem ht]
theorem Fw (AZ : wu) (cv ev : Value) (sh lk : Int) (n : Nat) (cd : Nat → Int) (aM : List nE) (task : Int) (w : World) (T : iU w) (HW : js w cv n cd) (HE : nD w ev aM) :
  Calls Tryz.prog 3 #[.agg #[cv, ev, .int .i64 sh, .int .i64 lk], .int .i64 task] w fun e w' => e = .returned (.bool true) ∧ Below w.heap.size w w' := by
 obtain ⟨V, hV, k0, bV, sV⟩ := Nn w #[cv, ev, .int .i64 sh, .int .i64 lk] 25
 have a0 : V.cell? ⟨w.heap.size, 0, none⟩ = some cv := by simp [World.cell?, k0]
 have a1 : V.cell? ⟨w.heap.size, 1, none⟩ = some ev := by simp [World.cell?, k0]
 have a2 : V.cell? ⟨w.heap.size, 2, none⟩ = some (.int .i64 sh) := by simp [World.cell?, k0]
 have a3 : V.cell? ⟨w.heap.size, 3, none⟩ = some (.int .i64 lk) := by simp [World.cell?, k0]
 have l0 : w.heap.size < V.heap.size := by omega
 have X9 := acD (yV AZ V (T.below bV))
 have Xj := acD (HW.sN bV)
 have XS := acD (HE.below bV)
 have UM := acD (T.below bV)
 have BV := acD bV
 clear HW HE T bV sV k0
 go_enter Tryz.func3, Tryz.ntmps3
 go_upto_region 3 with (go_at_call 5; refine X9.out.mono ?_; rintro e W1 ⟨rfl, hb1⟩)
 have e0 : W1.cell? ⟨w.heap.size, 0, none⟩ = _ := (hb1.cell (p := ⟨w.heap.size, 0, none⟩) l0).trans a0
 have e1 : W1.cell? ⟨w.heap.size, 1, none⟩ = _ := (hb1.cell (p := ⟨w.heap.size, 1, none⟩) l0).trans a1
 have e2 : W1.cell? ⟨w.heap.size, 2, none⟩ = _ := (hb1.cell (p := ⟨w.heap.size, 2, none⟩) l0).trans a2
 have e3 : W1.cell? ⟨w.heap.size, 3, none⟩ = _ := (hb1.cell (p := ⟨w.heap.size, 3, none⟩) l0).trans a3
 have l1 : w.heap.size < W1.heap.size := by have := hb1.size; omega
 have XP := acD (DZ cv ev sh lk n cd aM task W1 (UM.out.below hb1) (Xj.out.sN hb1) (XS.out.below hb1))
 have B1 := acD (BV.out.trans (hb1.mono BV.out.size))
 have Je := acD (UM.out.below hb1)
 clear hb1 hV a0 a1 a2 a3 l0 X9 Xj XS UM BV
 go_upto_region 4 with (go_at_call 6; refine XP.out.mono ?_; rintro e W2 ⟨h, hb2⟩; rcases h with rfl | ⟨bv, pv, kt, G, P, rfl, rfl, hG⟩ <;> try (obtain ⟨GA, cj, nG, -, -, -⟩ := id hG.R7; obtain ⟨PA, dV, N9, -, -, -⟩ := id hG.lls; obtain ⟨gn, hgn⟩ : ∃ m, G.length = m := ⟨_, rfl⟩; obtain ⟨pn, TA⟩ : ∃ m, P.length = m := ⟨_, rfl⟩; rw [hgn] at nG; rw [TA] at N9; subst nG N9))
 ·have B2 := (B1.out.trans (hb2.mono B1.out.size))
  go_wp2_with fail
  go_ret
  exact ⟨rfl, B2.alloc B2.size _⟩
 have oL := acD hgn
 obtain ⟨b7, hb7⟩ : ∃ b, W2.heap.size = b := ⟨_, rfl⟩
 obtain ⟨X, hX⟩ : ∃ X, W2.alloc (.cells #[.slice GA gn cj, .slice PA pn dV] 30) = X := ⟨_, rfl⟩
 rw [hX]
 have bX : Below W2.heap.size W2 X := hX ▸ (Below.refl _ _).alloc (Nat.le_refl _) _
 have kX : X.heap[b7]? = some (.cells #[.slice GA gn cj, .slice PA pn dV] 30 (0, 0)) := by rw [← hb7, ← hX]; exact heap_alloc_new _ _
 rw [hb7]
 have LS : Below W1.heap.size W1 X := hb2.trans (bX.mono hb2.size)
 have x0 : X.cell? ⟨w.heap.size, 0, none⟩ = _ := (LS.cell (p := ⟨w.heap.size, 0, none⟩) l1).trans e0
 have x1 : X.cell? ⟨w.heap.size, 1, none⟩ = _ := (LS.cell (p := ⟨w.heap.size, 1, none⟩) l1).trans e1
 have x2 : X.cell? ⟨w.heap.size, 2, none⟩ = _ := (LS.cell (p := ⟨w.heap.size, 2, none⟩) l1).trans e2
 have x3 : X.cell? ⟨w.heap.size, 3, none⟩ = _ := (LS.cell (p := ⟨w.heap.size, 3, none⟩) l1).trans e3
 have g0 : X.cell? ⟨b7, 0, none⟩ = some (.slice GA gn cj) := by simp [World.cell?, kX]
 have g1 : X.cell? ⟨b7, 1, none⟩ = some (.slice PA pn dV) := by simp [World.cell?, kX]
 have lX : w.heap.size < X.heap.size := by have := LS.size; omega
 have Tl : b7 < X.heap.size := ag kX
 have BX := acD (B1.out.trans (LS.mono B1.out.size))
 have II := acD (Je.out.below LS)
 have Mc := acD (hG.Il bX)
 have M0 : gn ≤ 1000 := by rw [← hgn]; exact Mc.out.len
 have TR : 0 < gn := by rw [← hgn]; exact Mc.out.pos
 clear hX kX bX LS hb7 hb2 e0 e1 e2 e3 l1 hG XP Je B1 hgn TA
 obtain ⟨i1, hi1, hy0, hy1, hy2⟩ := info_parts MM
 have HY := acD (And.intro hi1 (And.intro hy0 (And.intro hy1 hy2)))
 clear hi1 hy0 hy1 hy2
 go_wp2_with fail
 go_loopw [7, 27] (fun a7 a27 wr => ∃ (j : Nat) (nv : Nat → Value), j ≤ gn ∧ a27 = .int .i64 (j : Int) ∧ wr.ownsRow X.heap.size 37 3 a7 j (nu (G.take j) nv) ∧ (∀ i x, (G.take j)[i]? = some x → Ints X (nv i) x.nx) ∧ Below X.heap.size X wr) (fun _ a27 _ => gn - (intOf a27).toNat)
 case atStart => exact ⟨0, fun _ => .slice none 0 0, Nat.zero_le _, rfl, World.ownsRow_nil _ _ _ _, by simp, Below.refl _ _⟩
 case round =>
  obtain ⟨j, nv, hj, rfl, hown, hI, hb⟩ := hrel
  obtain ⟨w4, hw4⟩ : ∃ w4 : World, w4 = wr := ⟨_, rfl⟩
  subst hw4
  have HO := acD hown
  have HI := acD hI
  have HB := acD hb
  have s1 := hb.size
  obtain ⟨vA, fj, rfl⟩ : ∃ vA fj, u7 = .slice vA j fj := by
   rcases hown.2 with ⟨h, h'⟩ | ⟨g, cap', cur, h, _⟩
   ·exact ⟨_, _, by rw [h, h']⟩
   ·exact ⟨_, _, h⟩
  clear hown hI hb
  by_cases hlt : j < gn
  ·have dl : decide ((j : Int) < (gn : Int)) = true := decide_eq_true abo
   have dj : (j : Int) < (gn : Int) := by omega
   obtain ⟨x, nx, b, off, hx, rfl, hbl, c0, c1, c2, hIx⟩ := gh.at_ (w := X) (A := GA) (cap := cj) (G := G) (by rw [oL.out]; exact Mc.out.R7) HB.out acs
   obtain ⟨NA, cT, rfl, hn1, hn2⟩ := hIx.slice
   have HX := acD hx
   have QX := acD hIx
   clear hx hIx
   go_upto_region 10 with fail
   obtain ⟨Y, hY⟩ : ∃ Y, w4.alloc (.cells #[.int .i64 x.lo, .int .i64 x.hi, .slice NA x.nx.length cT] 36) = Y := ⟨_, rfl⟩
   have kY : Y.heap[w4.heap.size]? = some (.cells #[.int .i64 x.lo, .int .i64 x.hi, .slice NA x.nx.length cT] 36) := hY ▸ heap_alloc_new _ _
   have bY : Below w4.heap.size w4 Y := hY ▸ (Below.refl _ _).alloc (Nat.le_refl _) _
   have o0 : Y.cell? ⟨w4.heap.size, 0, none⟩ = some (.int .i64 x.lo) := by simp [World.cell?, kY]
   have o1 : Y.cell? ⟨w4.heap.size, 1, none⟩ = some (.int .i64 x.hi) := by simp [World.cell?, kY]
   have o2 : Y.cell? ⟨w4.heap.size, 2, none⟩ = some (.slice NA x.nx.length cT) := by simp [World.cell?, kY]
   have Xz := acD (bk HO.out bY)
   have XY := acD (HB.out.trans (bY.mono s1))
   have sY := XY.out.size
   rw [hY]
   clear hY kY bY c0 c1 c2
   go_upto_region 11 with (at_builtin; refine wpList_append_own_at _ rfl (.tmp 31) (.tmp 39) 33 rfl X.heap.size 37 i1 _ 3 40 Tryz.underlying33 HY.out.1 HY.out.2.1 HY.out.2.2.1 HY.out.2.2.2 rfl abr (.slice vA j fj) _ _ rfl (Xz.out.alloc _) ⟨Y.heap.size, 0, none⟩ 1 1 [.int .i64 x.lo, .int .i64 x.hi, .slice NA x.nx.length cT] rfl rfl (sH _ _ _ _ _) abt abv abo abD ?_; intro v' W' hown' hgrow _ qC)
   have HN := acD hown'
   have SQ := acD ((XY.out.alloc sY _).grown hgrow abD (fun k hk => (Xz.out.lt k hk).1))
   clear hown' hgrow qC o0 o1 o2
   go_wp2_with fail
   go_roundw
   case rel =>
    exact ⟨j + 1, upd nv j (.slice NA x.nx.length cT), by omega, by go_num, by rw [yt HX.out]; exact HN.out, JN HX.out HI.out QX.out, SQ.out⟩
   case measure => simp [intOf]; omega
  ·obtain rfl : gn = j := by omega
   have dl : decide ((gn : Int) < (gn : Int)) = false := by simp
   have Wu : G.take gn = G := List.take_of_length_le (by rw [oL.out]; exact Nat.le_refl _)
   rw [Wu] at HO HI
   have XJ := acD (show gh w4 (.slice vA gn fj) G from Gj (w0 := X) (nv := nv) (by rw [oL.out]; exact HO.out) (fun i x hx => (HI.out i x hx).below HB.out))
   have y0 : w4.cell? ⟨w.heap.size, 0, none⟩ = _ := (HB.out.cell (p := ⟨w.heap.size, 0, none⟩) lX).trans x0
   have y1 : w4.cell? ⟨w.heap.size, 1, none⟩ = _ := (HB.out.cell (p := ⟨w.heap.size, 1, none⟩) lX).trans x1
   have y2 : w4.cell? ⟨w.heap.size, 2, none⟩ = _ := (HB.out.cell (p := ⟨w.heap.size, 2, none⟩) lX).trans x2
   have y3 : w4.cell? ⟨w.heap.size, 3, none⟩ = _ := (HB.out.cell (p := ⟨w.heap.size, 3, none⟩) lX).trans x3
   have h0 : w4.cell? ⟨b7, 0, none⟩ = _ := (HB.out.cell (p := ⟨b7, 0, none⟩) Tl).trans g0
   have h1 : w4.cell? ⟨b7, 1, none⟩ = _ := (HB.out.cell (p := ⟨b7, 1, none⟩) Tl).trans g1
   have lY : w.heap.size < w4.heap.size := by omega
   have YB : b7 < w4.heap.size := by omega
   have Xn := acD (II.out.below HB.out)
   have wD := acD (Mc.out.Il HB.out)
   have B4 := acD (BX.out.trans (HB.out.mono BX.out.size))
   have X8 := acD (AZ cv ev (.slice GA gn cj) (.slice PA pn dV) sh lk n cd G P w4 Xn.out wD.out.wd wD.out.R7 wD.out.lls wD.out.val wD.out.pos wD.out.len wD.out.ok)
   have L0 := acD (And.intro wD.out.n3 (And.intro wD.out.wd.wd wD.out.ok))
   clear x0 x1 x2 x3 g0 g1 lX Tl II Mc BX HB HO HI HY Wu s1 hj hlt
   go_upto_region 13 with (go_at_call 7; refine X8.out.mono ?_; rintro e W3 ⟨⟨s, rv, iv, dv, hE, rfl, hR, hD, hN⟩, hb3⟩; obtain ⟨⟨RA, vG, JY, -, -, -⟩, ⟨IA, vS, hiv, -, -, -⟩⟩ := id hR; obtain ⟨DA, tV, Oc, -⟩ := id hD; obtain ⟨dn, hdn⟩ : ∃ m, (cZ (bz cd G) s G.length).length = m := ⟨_, rfl⟩; obtain ⟨rn1, I6⟩ : ∃ m, s.reach.length = m := ⟨_, rfl⟩; obtain ⟨in1, hin⟩ : ∃ m, s.bH.length = m := ⟨_, rfl⟩; rw [hdn] at Oc; rw [I6] at JY; rw [hin] at hiv; subst JY hiv Oc)
   have HDN := acD hdn
   have ud := acD (And.intro I6 hin)
   obtain ⟨b10, xT⟩ : ∃ b, W3.heap.size = b := ⟨_, rfl⟩
   obtain ⟨Y, hY⟩ : ∃ Y, W3.alloc (.cells #[.slice RA rn1 vG, .slice IA in1 vS, .slice DA dn tV] 42) = Y := ⟨_, rfl⟩
   rw [hY]
   have bY : Below W3.heap.size W3 Y := hY ▸ (Below.refl _ _).alloc (Nat.le_refl _) _
   have kY : Y.heap[b10]? = some (.cells #[.slice RA rn1 vG, .slice IA in1 vS, .slice DA dn tV] 42 (0, 0)) := by rw [← xT, ← hY]; exact heap_alloc_new _ _
   rw [xT]
   have Kw : Below w4.heap.size w4 Y := hb3.trans (bY.mono hb3.size)
   have z0 : Y.cell? ⟨w.heap.size, 0, none⟩ = _ := (Kw.cell (p := ⟨w.heap.size, 0, none⟩) lY).trans y0
   have z1 : Y.cell? ⟨w.heap.size, 1, none⟩ = _ := (Kw.cell (p := ⟨w.heap.size, 1, none⟩) lY).trans y1
   have z2 : Y.cell? ⟨w.heap.size, 2, none⟩ = _ := (Kw.cell (p := ⟨w.heap.size, 2, none⟩) lY).trans y2
   have z3 : Y.cell? ⟨w.heap.size, 3, none⟩ = _ := (Kw.cell (p := ⟨w.heap.size, 3, none⟩) lY).trans y3
   have lZ : w.heap.size < Y.heap.size := by have := Kw.size; omega
   have KY := acD kY
   have BY := acD (B4.out.trans (Kw.mono B4.out.size))
   have Ss := acD (hR.below bY)
   have Q4 := acD (hD.below bY)
   have HE := acD hE
   have XI := acD (XJ.out.below Kw)
   have SK := acD (Ia cv ev sh lk n cd Y ((wD.out.wd.below Kw)))
   clear hY kY bY Kw xT hb3 y0 y1 y2 y3 h0 h1 lY YB hR hD hE hN wD Xn B4 X8 hdn I6 hin XJ
   go_upto_region 14 with (first | (go_at_call 9; refine SK.out.mono ?_; rintro e W5 ⟨⟨kv, rfl, hk, -⟩, hb5⟩; have Vs := acD hb5; have ZX := acD (vH kv (.slice vA gn fj) n (El cd) G gn W5 hk (XI.out.below hb5) oL.out TR M0 (by have := L0.out.1; omega) (fun i hi => (BA _ (L0.out.2.1 i hi).1 (L0.out.2.1 i hi).2).1) (by have := Mt L0.out.2.2; rw [oL.out] at this; exact this)); clear hk hb5) | (go_at_call 8; refine ZX.out.mono ?_; rintro e W6 ⟨⟨s', rb, ib, dv', WH, rfl, hrb, hib, hl1, hl2, h16, Nf⟩, hb6⟩; obtain rfl := Et L0.out.2.2 oL.out HE.out WH; rw [Ek L0.out.2.2 oL.out] at Nf; obtain ⟨DB, yf, PE, -⟩ := id Nf; rw [HDN.out] at PE; subst PE))
   obtain ⟨I6, hin⟩ := ud.out
   obtain rfl : gn = rn1 := hl1.symm.trans I6
   obtain rfl : gn = in1 := hl2.symm.trans hin
   obtain ⟨b12, zV⟩ : ∃ b, W6.heap.size = b := ⟨_, rfl⟩
   obtain ⟨Z, hZ⟩ : ∃ Z, W6.alloc (.cells #[.slice (some ⟨rb, 0, none⟩) gn gn, .slice (some ⟨ib, 0, none⟩) gn gn, .slice DB dn yf] 48) = Z := ⟨_, rfl⟩
   rw [hZ]
   have bZ : Below W6.heap.size W6 Z := hZ ▸ (Below.refl _ _).alloc (Nat.le_refl _) _
   have kZ : Z.heap[b12]? = some (.cells #[.slice (some ⟨rb, 0, none⟩) gn gn, .slice (some ⟨ib, 0, none⟩) gn gn, .slice DB dn yf] 48 (0, 0)) := by rw [← zV, ← hZ]; exact heap_alloc_new _ _
   rw [zV]
   have Qk : Below Y.heap.size Y Z := Vs.out.trans ((hb6.trans (bZ.mono hb6.size)).mono Vs.out.size)
   have kY : Z.heap[b10]? = _ := (Qk.block _ (ag KY.out)).trans KY.out
   have v0 : Z.cell? ⟨b10, 0, none⟩ = some (.slice RA gn vG) := by simp [World.cell?, kY]
   have v1 : Z.cell? ⟨b10, 1, none⟩ = some (.slice IA gn vS) := by simp [World.cell?, kY]
   have v2 : Z.cell? ⟨b10, 2, none⟩ = some (.slice DA dn tV) := by simp [World.cell?, kY]
   have q0 : Z.cell? ⟨b12, 0, none⟩ = some (.slice (some ⟨rb, 0, none⟩) gn gn) := by simp [World.cell?, kZ]
   have q1 : Z.cell? ⟨b12, 1, none⟩ = some (.slice (some ⟨ib, 0, none⟩) gn gn) := by simp [World.cell?, kZ]
   have q2 : Z.cell? ⟨b12, 2, none⟩ = some (.slice DB dn yf) := by simp [World.cell?, kZ]
   have l10 : b10 < Z.heap.size := ag kY
   have l12 : b12 < Z.heap.size := ag kZ
   have BZ := acD (BY.out.trans (Qk.mono BY.out.size))
   have Xr := acD (Ss.out.below Qk)
   have Ot := acD ((bZ.block _ (ag hrb)).trans hrb)
   have Vg := acD ((bZ.block _ (ag hib)).trans hib)
   have oI := acD (show Calls Tryz.prog 10 #[.slice DA dn tV, .slice DB dn yf] Z fun e w' => e = .returned (.bool true) ∧ Below Z.heap.size Z w' by
    have := zn (.slice DA dn tV) (.slice DB dn yf) _ _ Z (Q4.out.below Qk) (Nf.below bZ) (BB L0.out.2.2 (by rw [oL.out]; exact M0) s) (BB L0.out.2.2 (by rw [oL.out]; exact M0) s)
    rw [decide_eq_true rfl] at this
    exact this)
   have L8 := acD hl1
   have Vd := acD hl2
   have SU := acD h16
   have d1 : ((gn : Int) != (gn : Int)) = false := by simp
   clear hZ bZ kZ zV Qk kY KY Q4 Ss BY Vs hb6 hrb hib hl1 hl2 h16 Nf WH HE XI SK z0 z1 z2 z3 lZ I6 hin ud
   go_upto_region 16 with (go_at_call 10; refine oI.out.mono ?_; rintro e W7 ⟨rfl, hb7⟩)
   have p0 : W7.cell? ⟨b10, 0, none⟩ = _ := (hb7.cell (p := ⟨b10, 0, none⟩) l10).trans v0
   have p1 : W7.cell? ⟨b10, 1, none⟩ = _ := (hb7.cell (p := ⟨b10, 1, none⟩) l10).trans v1
   have r0 : W7.cell? ⟨b12, 0, none⟩ = _ := (hb7.cell (p := ⟨b12, 0, none⟩) l12).trans q0
   have r1 : W7.cell? ⟨b12, 1, none⟩ = _ := (hb7.cell (p := ⟨b12, 1, none⟩) l12).trans q1
   have m10 : b10 < W7.heap.size := by have := hb7.size; omega
   have m12 : b12 < W7.heap.size := by have := hb7.size; omega
   have B7 := acD (BZ.out.trans (hb7.mono BZ.out.size))
   have U0 := acD (Xr.out.below hb7)
   have ND := acD ((hb7.block _ (ag Ot.out)).trans Ot.out)
   have NK := acD ((hb7.block _ (ag Vg.out)).trans Vg.out)
   obtain ⟨rq, ro, Zi, Rp, hrc⟩ : ∃ rq ro, RA = some ⟨rq, ro, none⟩ ∧ rq < W7.heap.size ∧ ∀ k, k < gn → W7.cell? ⟨rq, ro + k, none⟩ = some (.bool (s.reach.getD k false)) := by
    obtain ⟨⟨_, _, e3, _, _, e4⟩, _⟩ := id U0.out
    cases e3
    rw [L8.out] at e4
    exact e4 abo
   obtain ⟨iq, io, Zo, Tq, hic⟩ : ∃ iq io, IA = some ⟨iq, io, none⟩ ∧ iq < W7.heap.size ∧ ∀ k, k < gn → W7.rangeAt iq (io + k * 32) (aa (s.bH.getD k [])) := by
    obtain ⟨_, ⟨_, _, e3, _, _, e4⟩⟩ := id U0.out
    cases e3
    rw [Vd.out] at e4
    exact e4 abo
   subst Zi Zo
   have EM := acD hrc
   have HIC := acD hic
   clear hrc hic hb7 v0 v1 v2 q0 q1 q2 l10 l12 oI Xr Ot Vg BZ U0
   go_wp2_with fail
   go_loopw [13, 80] (fun a13 a80 wr => ∃ j : Nat, j ≤ gn ∧ a80 = .int .i64 (j : Int) ∧ Below W7.heap.size W7 wr) (fun _ a80 _ => gn - (intOf a80).toNat)
   case atStart => exact ⟨0, by omega, rfl, Below.refl _ _⟩
   case round =>
    obtain ⟨j, hj, rfl, hb⟩ := hrel
    obtain ⟨w8, hw8⟩ : ∃ w8 : World, w8 = wr := ⟨_, rfl⟩
    subst hw8
    have Ji := acD hb
    have s8 := hb.size
    clear hb
    by_cases hlt : j < gn
    ·have dl : decide ((j : Int) < (gn : Int)) = true := decide_eq_true abo
     have dj : (j : Int) < (gn : Int) := by omega
     have n0 : w8.cell? ⟨b10, 0, none⟩ = _ := (Ji.out.cell (p := ⟨b10, 0, none⟩) m10).trans p0
     have n1 : w8.cell? ⟨b10, 1, none⟩ = _ := (Ji.out.cell (p := ⟨b10, 1, none⟩) m10).trans p1
     have t0 : w8.cell? ⟨b12, 0, none⟩ = _ := (Ji.out.cell (p := ⟨b12, 0, none⟩) m12).trans r0
     have t1 : w8.cell? ⟨b12, 1, none⟩ = _ := (Ji.out.cell (p := ⟨b12, 1, none⟩) m12).trans r1
     have k10 : b10 < w8.heap.size := by omega
     have k12 : b12 < w8.heap.size := by omega
     have c1 := (Ji.out.cell (p := ⟨rq, ro + j, none⟩) Rp).trans (EM.out j hlt)
     have c2 := (Ji.out.cell (p := ⟨rb, j, none⟩) (ag ND.out)).trans (F7 ND.out (by rw [L8.out]; exact hlt))
     have krq : rq < w8.heap.size := by omega
     have krb : rb < w8.heap.size := by have := ag ND.out; omega
     have WZ := acD (cL (HIC.out j hlt) Ji.out Tq)
     have YH : iq < w8.heap.size := by omega
     have WY := acD (cL (MI NK.out (fun x hx => (SU.out x hx).len) (by rw [Vd.out]; exact hlt)) Ji.out (ag NK.out))
     have yD : ib < w8.heap.size := by have := ag NK.out; omega
     obtain ⟨rj, VT⟩ : ∃ q, s.reach.getD j false = q := ⟨_, rfl⟩
     obtain ⟨ij, hij⟩ : ∃ q, s.bH.getD j [] = q := ⟨_, rfl⟩
     have SE := acD (show ij.length = 16 by
      have hl : j < s.bH.length := by rw [Vd.out]; exact hlt
      have e : s.bH.getD j [] = s.bH[j] := by simp [List.getD, List.getElem?_eq_getElem hl]
      rw [← hij, e]
      exact (SU.out _ (List.getElem_mem hl)).len)
     rw [VT] at c1 c2
     rw [hij] at WZ WY
     have dne : (rj != rj) = false := by simp
     have gK := acD (Cq ij SE.out)
     clear VT hij
     go_wp2_with fail
     refine az abp abp ?_
     repeat (first | (go_big_quiet_step ((go_at_call 11; exact Calls.ay (gK.out _)))) | (refine bM abx _ _ rfl _ _ rfl (aa ij) _ (by rintro _ ⟨x1, rfl⟩; exact cL WZ.out x1.h YH) Tryz.underlying56 rfl (rn A1 SE.out) ?_; (try simp only [acE, acF, acG, Act.put, acH, acI, acJ])) | (refine bM abx _ _ rfl _ _ rfl (aa ij) _ (by rintro _ ⟨x1, rfl⟩; exact cL WY.out x1.h yD) Tryz.underlying61 rfl (rn aI SE.out) ?_; (try simp only [acE, acF, acG, Act.put, acH, acI, acJ])) | (refine wH abx _ _ _ rfl ij SE.out rfl rfl ?_; (try simp only [acE, acF, acG, Act.put, acH, acI, acJ])))
     refine wpQuiet_nil ?_
     rintro _ ⟨x1, rfl⟩
     go_wp2_with fail
     go_roundw
     case rel => exact ⟨j + 1, by omega, by go_num, Ji.out.trans (x1.h.mono s8)⟩
     case measure => simp [intOf]; omega
    ·obtain rfl : gn = j := by omega
     have dl : decide ((gn : Int) < (gn : Int)) = false := by simp
     go_wp2_with fail
     go_ret
     exact ⟨rfl, B7.out.trans (Ji.out.mono B7.out.size)⟩
end
end Go.Proofs.YtebklpnkcicpjaaGreatDoor
