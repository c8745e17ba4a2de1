/-
  What is proved here: what ValueBefore returns.
-/
import Derived.Test.YtebklpnkcicpjaaDoorQlCm
namespace Go.Proofs.YtebklpnkcicpjaaDoor
open Go.RowKit
set_option linter.unusedVariables false
set_option linter.unusedSimpArgs false

theorem eq_true {a b : RG} (ha : a.length = 16) (hb : b.length = 16) (h : a = b) (w : World) : (binOp .eql 27 (.agg (cellsR a).toArray) (.agg (cellsR b).toArray)).run Tryd.prog w = .ok (.bool true) w := by
  have := eq_regs ha hb w
  rwa [show decide (a = b) = true from decide_eq_true h] at this
theorem eq_zero {a : RG} (h : a = zeroR) (w : World) : (binOp .eql 27 (.agg (cellsR a).toArray) (.agg #[.int .i32 0, .int .i32 0, .int .i32 0, .int .i32 0, .int .i32 0, .int .i32 0, .int .i32 0, .int .i32 0, .int .i32 0, .int .i32 0, .int .i32 0, .int .i32 0, .int .i32 0, .int .i32 0, .int .i32 0, .int .i32 0, .int .i32 0, .int .i32 0, .int .i32 0, .int .i32 0, .int .i32 0, .int .i32 0, .int .i32 0, .int .i32 0, .int .i32 0, .int .i32 0, .int .i32 0, .int .i32 0, .int .i32 0, .int .i32 0, .int .i32 0, .int .i32 0])).run Tryd.prog w = .ok (.bool true) w := by
  subst h
  exact eq_true zero16 zero16 rfl w
set_option maxRecDepth 100000 in
set_option maxHeartbeats 8000000 in
theorem vbefore_any (AZ : AnlSpec) (cv ev : Value) (sh lk : Int) (n : Nat) (cd : Nat → Int) (ents : List Ent) (task pc : Int) (w : World) (T : Tab w) (HW : WordsN w cv n cd) (HE : Ents w ev ents) :
    Calls Tryd.prog 4 #[.agg #[cv, ev, .int .i64 sh, .int .i64 lk], .int .i64 task, .int .i64 pc] w fun e w' => e = .returned (.bool true) ∧ Below w.heap.size w w' := by
  obtain ⟨V, hV, k0, bV, sV⟩ := one_new w #[cv, ev, .int .i64 sh, .int .i64 lk] 38
  have a0 : V.cell? ⟨w.heap.size, 0, none⟩ = some cv := by simp [World.cell?, k0]
  have a1 : V.cell? ⟨w.heap.size, 1, none⟩ = some ev := by simp [World.cell?, k0]
  have a2 : V.cell? ⟨w.heap.size, 2, none⟩ = some (.int .i64 sh) := by simp [World.cell?, k0]
  have a3 : V.cell? ⟨w.heap.size, 3, none⟩ = some (.int .i64 lk) := by simp [World.cell?, k0]
  have l0 : w.heap.size < V.heap.size := by omega
  have HAW := Lib.hid (vawake_any AZ V (T.below bV))
  have HWV := Lib.hid (HW.belowG bV)
  have HEV := Lib.hid (HE.below bV)
  have HTV := Lib.hid (T.below bV)
  have BV := Lib.hid bV
  clear HW HE T bV sV k0
  go_enter Tryd.func4, Tryd.ntmps4
  go_upto_region 3 with (go_at_call 9; refine HAW.out.mono ?_; rintro e W1 ⟨rfl, hb1⟩)
  have e0 : W1.cell? ⟨w.heap.size, 0, none⟩ = _ := (hb1.cell (p := ⟨w.heap.size, 0, none⟩) l0).trans a0
  have e1 : W1.cell? ⟨w.heap.size, 1, none⟩ = _ := (hb1.cell (p := ⟨w.heap.size, 1, none⟩) l0).trans a1
  have e2 : W1.cell? ⟨w.heap.size, 2, none⟩ = _ := (hb1.cell (p := ⟨w.heap.size, 2, none⟩) l0).trans a2
  have e3 : W1.cell? ⟨w.heap.size, 3, none⟩ = _ := (hb1.cell (p := ⟨w.heap.size, 3, none⟩) l0).trans a3
  have l1 : w.heap.size < W1.heap.size := by have := hb1.size; omega
  have HGA := Lib.hid (graph_any cv ev sh lk n cd ents task W1 (HTV.out.below hb1) (HWV.out.belowG hb1) (HEV.out.below hb1))
  have B1 := Lib.hid (BV.out.trans (hb1.mono BV.out.size))
  have HT1 := Lib.hid (HTV.out.below hb1)
  clear hb1 hV a0 a1 a2 a3 l0 HAW HWV HEV HTV BV
  go_upto_region 4 with (go_at_call 15; refine HGA.out.mono ?_; rintro e W2 ⟨h, hb2⟩; rcases h with rfl | ⟨bv, pv, kt, G, P, rfl, rfl, hG⟩ <;> try (obtain ⟨GA, gcap, hbv, -, -, -⟩ := id hG.bks; obtain ⟨PA, pcap, hpv, -, -, -⟩ := id hG.lls; obtain ⟨gn, hgn⟩ : ∃ m, G.length = m := ⟨_, rfl⟩; obtain ⟨pn, hpn⟩ : ∃ m, P.length = m := ⟨_, rfl⟩; rw [hgn] at hbv; rw [hpn] at hpv; subst hbv hpv))
  · have B2 := (B1.out.trans (hb2.mono B1.out.size))
    go_wp2_with fail
    go_ret
    exact ⟨rfl, B2.alloc B2.size _⟩
  have HGN := Lib.hid hgn
  obtain ⟨b7, hb7⟩ : ∃ b, W2.heap.size = b := ⟨_, rfl⟩
  obtain ⟨X, hX⟩ : ∃ X, W2.alloc (.cells #[.slice GA gn gcap, .slice PA pn pcap] 48) = X := ⟨_, rfl⟩
  rw [hX]
  have bX : Below W2.heap.size W2 X := hX ▸ (Below.refl _ _).alloc (Nat.le_refl _) _
  have kX : X.heap[b7]? = some (.cells #[.slice GA gn gcap, .slice PA pn pcap] 48 (0, 0)) := by rw [← hb7, ← hX]; exact heap_alloc_new _ _
  rw [hb7]
  have b1X : Below W1.heap.size W1 X := hb2.trans (bX.mono hb2.size)
  have x0 : X.cell? ⟨w.heap.size, 0, none⟩ = _ := (b1X.cell (p := ⟨w.heap.size, 0, none⟩) l1).trans e0
  have x1 : X.cell? ⟨w.heap.size, 1, none⟩ = _ := (b1X.cell (p := ⟨w.heap.size, 1, none⟩) l1).trans e1
  have x2 : X.cell? ⟨w.heap.size, 2, none⟩ = _ := (b1X.cell (p := ⟨w.heap.size, 2, none⟩) l1).trans e2
  have x3 : X.cell? ⟨w.heap.size, 3, none⟩ = _ := (b1X.cell (p := ⟨w.heap.size, 3, none⟩) l1).trans e3
  have g0 : X.cell? ⟨b7, 0, none⟩ = some (.slice GA gn gcap) := by simp [World.cell?, kX]
  have g1 : X.cell? ⟨b7, 1, none⟩ = some (.slice PA pn pcap) := by simp [World.cell?, kX]
  have lX : w.heap.size < X.heap.size := by have := b1X.size; omega
  have lX7 : b7 < X.heap.size := lt_of_blk' kX
  have BX := Lib.hid (B1.out.trans (b1X.mono B1.out.size))
  have HTX := Lib.hid (HT1.out.below b1X)
  have HGX := Lib.hid (hG.below bX)
  have HAZ := Lib.hid (AZ cv ev (.slice GA gn gcap) (.slice PA pn pcap) sh lk n cd G P X HTX.out HGX.out.wd HGX.out.bks HGX.out.lls HGX.out.val HGX.out.pos HGX.out.len HGX.out.ok)
  have hgn3 : gn ≤ 1000 := by rw [← hgn]; exact HGX.out.len
  have hgn0 : 0 < gn := by rw [← hgn]; exact HGX.out.pos
  clear hX kX bX b1X hb7 hb2 e0 e1 e2 e3 l1 hG HGA HT1 B1 hgn hpn
  go_upto_region 7 with (go_at_call 16; refine HAZ.out.mono ?_; rintro e W3 ⟨⟨s, rv, iv, dv, hE, rfl, hR, hD, hN⟩, hb3⟩; have FX := Lib.hid (an_fx HGX.out.pos HGX.out.ok hE); obtain ⟨⟨RA, rcap, hrv, -, -, -⟩, ⟨IA, icap, hiv, -, -, -⟩⟩ := id hR; obtain ⟨DA, dcap, hdv, -⟩ := id hD; obtain ⟨dn, hdn⟩ : ∃ m, (deadK (absOf cd G) s G.length).length = m := ⟨_, rfl⟩; rw [hdn] at hdv; rw [FX.out.asi.l1, HGN.out] at hrv; rw [FX.out.asi.l2, HGN.out] at hiv; subst hrv hiv hdv)
  have HDN := Lib.hid hdn
  obtain ⟨b9, hb9⟩ : ∃ b, W3.heap.size = b := ⟨_, rfl⟩
  obtain ⟨Y, hY⟩ : ∃ Y, W3.alloc (.cells #[.slice RA gn rcap, .slice IA gn icap, .slice DA dn dcap] 55) = Y := ⟨_, rfl⟩
  rw [hY]
  have bY : Below W3.heap.size W3 Y := hY ▸ (Below.refl _ _).alloc (Nat.le_refl _) _
  have kY : Y.heap[b9]? = some (.cells #[.slice RA gn rcap, .slice IA gn icap, .slice DA dn dcap] 55 (0, 0)) := by rw [← hb9, ← hY]; exact heap_alloc_new _ _
  rw [hb9]
  have bXY : Below X.heap.size X Y := hb3.trans (bY.mono hb3.size)
  have y0 : Y.cell? ⟨w.heap.size, 0, none⟩ = _ := (bXY.cell (p := ⟨w.heap.size, 0, none⟩) lX).trans x0
  have y1 : Y.cell? ⟨w.heap.size, 1, none⟩ = _ := (bXY.cell (p := ⟨w.heap.size, 1, none⟩) lX).trans x1
  have y2 : Y.cell? ⟨w.heap.size, 2, none⟩ = _ := (bXY.cell (p := ⟨w.heap.size, 2, none⟩) lX).trans x2
  have y3 : Y.cell? ⟨w.heap.size, 3, none⟩ = _ := (bXY.cell (p := ⟨w.heap.size, 3, none⟩) lX).trans x3
  have h0 : Y.cell? ⟨b7, 0, none⟩ = _ := (bXY.cell (p := ⟨b7, 0, none⟩) lX7).trans g0
  have h1 : Y.cell? ⟨b7, 1, none⟩ = _ := (bXY.cell (p := ⟨b7, 1, none⟩) lX7).trans g1
  have r0 : Y.cell? ⟨b9, 0, none⟩ = some (.slice RA gn rcap) := by simp [World.cell?, kY]
  have r1 : Y.cell? ⟨b9, 1, none⟩ = some (.slice IA gn icap) := by simp [World.cell?, kY]
  have r2 : Y.cell? ⟨b9, 2, none⟩ = some (.slice DA dn dcap) := by simp [World.cell?, kY]
  have lY : w.heap.size < Y.heap.size := by have := bXY.size; omega
  have lY7 : b7 < Y.heap.size := by have := bXY.size; omega
  have lY9 : b9 < Y.heap.size := lt_of_blk' kY
  have BY := Lib.hid (BX.out.trans (bXY.mono BX.out.size))
  have HTY := Lib.hid (HTX.out.below bXY)
  have HGY := Lib.hid (HGX.out.below bXY)
  have HRY := Lib.hid (hR.below bY)
  have HDY := Lib.hid (hD.below bY)
  have HE := Lib.hid hE
  have HNV := Lib.hid hN
  have d1 : ((gn : Int) != (gn : Int)) = false := by simp
  clear hY kY bY bXY hb9 hb3 x0 x1 x2 x3 g0 g1 lX lX7 hR hD hE hN HGX HTX BX HAZ hdn
  obtain ⟨CA, ccap, hcv, cc1, cc2, hcc⟩ := HGY.out.wd.at_
  subst hcv
  have HCC := Lib.hid hcc
  have cc2' := max_63 cc2
  obtain ⟨gn3, rl3, il3⟩ : gn ≤ gcap ∧ gn ≤ rcap ∧ gn ≤ icap := by
    obtain ⟨_, _, e1, e2, _⟩ := id HGY.out.bks
    obtain ⟨⟨_, _, e3, e4, _⟩, ⟨_, _, e5, e6, _⟩⟩ := id HRY.out
    cases e1
    rw [FX.out.asi.l1, HGN.out] at e3
    rw [FX.out.asi.l2, HGN.out] at e5
    cases e3
    cases e5
    rw [FX.out.asi.l1] at e4
    rw [FX.out.asi.l2] at e6
    rw [HGN.out] at e2 e4 e6
    exact ⟨e2, e4, e6⟩
  have HL := Lib.hid FX.out.asi.r16
  have HOKB := Lib.hid (show ∀ x ∈ G, 0 ≤ x.lo ∧ ∀ a : Nat, x.lo ≤ (a : Int) → (a : Int) < x.hi → a < n ∧ (decI (cd a)).2 = 0 ∧ 0 ≤ (insAt cd (a : Int)).op from fun x hx => ⟨(HGY.out.ok x hx).lo, (HGY.out.ok x hx).cod⟩)
  obtain ⟨o, ho⟩ : ∃ o, befR cd G s.reach s.inn pc = o := ⟨_, rfl⟩
  obtain ⟨rr, hrr⟩ : ∃ r, o.getD zeroR = r := ⟨_, rfl⟩
  obtain ⟨cc, hcv'⟩ : ∃ c, o.isSome = c := ⟨_, rfl⟩
  have HO := Lib.hid ho
  have HRR := Lib.hid hrr
  have HCV := Lib.hid hcv'
  have R := Lib.hid (show R16 rr by rw [← hrr, ← ho]; exact befR_16 HGY.out.ok HL.out)
  have HBF := Lib.hid (show Calls Tryd.prog 17 #[.agg #[.slice CA n ccap, ev, .int .i64 sh, .int .i64 lk], .agg #[.slice GA gn gcap, .slice PA pn pcap], .agg #[.slice RA gn rcap, .slice IA gn icap, .slice DA dn dcap], .int .i64 pc] Y fun e w' => e = .returned (.tuple #[.agg (cellsR rr).toArray, .bool cc]) ∧ Below Y.heap.size Y w' by
    have := before_any (.slice CA n ccap) ev (.slice GA gn gcap) (.slice PA pn pcap) (.slice RA gn rcap) (.slice IA gn icap) (.slice DA dn dcap) sh lk n cd G s.reach s.inn pc Y HTY.out HGY.out.wd HGY.out.bks HRY.out HL.out HOKB.out
    rw [outR_eq, ho, hrr, hcv'] at this
    exact this)
  clear hcc ho hrr hcv'
  go_upto_region 10 with (first | (go_at_call 17; refine HBF.out.mono ?_; rintro e W4 ⟨rfl, hb4⟩) | (refine wpList_store_row rfl 27 (.tmp 11) (.tmp 64) rfl W4.heap.size (cellsR rr).toArray rfl rfl 27 _ (heap_alloc_new _ _) (hi4 R.out.len) (hi6 R.out.len zero16) (cellsR_one rr) ?_))
  obtain ⟨b11, hb11⟩ : ∃ b, W4.heap.size = b := ⟨_, rfl⟩
  obtain ⟨U, hU⟩ : ∃ U, (W4.alloc (.cells #[.int .i32 0, .int .i32 0, .int .i32 0, .int .i32 0, .int .i32 0, .int .i32 0, .int .i32 0, .int .i32 0, .int .i32 0, .int .i32 0, .int .i32 0, .int .i32 0, .int .i32 0, .int .i32 0, .int .i32 0, .int .i32 0, .int .i32 0, .int .i32 0, .int .i32 0, .int .i32 0, .int .i32 0, .int .i32 0, .int .i32 0, .int .i32 0, .int .i32 0, .int .i32 0, .int .i32 0, .int .i32 0, .int .i32 0, .int .i32 0, .int .i32 0, .int .i32 0] 27)).setRow W4.heap.size (cellsR rr).toArray = U := ⟨_, rfl⟩
  rw [hU]
  have bU : Below W4.heap.size W4 U := hU ▸ below_setRow ((Below.refl _ _).alloc (Nat.le_refl _) _) (Nat.le_refl _) _
  have kU : RBox U b11 27 rr := by rw [← hb11, ← hU]; exact RBox.row (z := zeroR) (heap_alloc_new _ _)
  rw [hb11]
  have bYU : Below Y.heap.size Y U := hb4.trans (bU.mono hb4.size)
  have u0 : U.cell? ⟨w.heap.size, 0, none⟩ = _ := (bYU.cell (p := ⟨w.heap.size, 0, none⟩) lY).trans y0
  have u1 : U.cell? ⟨w.heap.size, 1, none⟩ = _ := (bYU.cell (p := ⟨w.heap.size, 1, none⟩) lY).trans y1
  have u2 : U.cell? ⟨w.heap.size, 2, none⟩ = _ := (bYU.cell (p := ⟨w.heap.size, 2, none⟩) lY).trans y2
  have u3 : U.cell? ⟨w.heap.size, 3, none⟩ = _ := (bYU.cell (p := ⟨w.heap.size, 3, none⟩) lY).trans y3
  have v0 : U.cell? ⟨b7, 0, none⟩ = _ := (bYU.cell (p := ⟨b7, 0, none⟩) lY7).trans h0
  have v1 : U.cell? ⟨b7, 1, none⟩ = _ := (bYU.cell (p := ⟨b7, 1, none⟩) lY7).trans h1
  have w0 : U.cell? ⟨b9, 0, none⟩ = _ := (bYU.cell (p := ⟨b9, 0, none⟩) lY9).trans r0
  have w1 : U.cell? ⟨b9, 1, none⟩ = _ := (bYU.cell (p := ⟨b9, 1, none⟩) lY9).trans r1
  have lU : w.heap.size < U.heap.size := by have := bYU.size; omega
  have lU7 : b7 < U.heap.size := by have := bYU.size; omega
  have lU9 : b9 < U.heap.size := by have := bYU.size; omega
  have BU := Lib.hid (BY.out.trans (bYU.mono BY.out.size))
  have HTU := Lib.hid (HTY.out.below bYU)
  have HGU := Lib.hid (HGY.out.below bYU)
  have HRU := Lib.hid (HRY.out.below bYU)
  have KU := Lib.hid kU
  have RGU := Lib.hid kU.range
  have lU11 : b11 < U.heap.size := kU.lt
  have lo11 : Y.heap.size ≤ b11 := by rw [← hb11]; exact hb4.size
  have hCy : ∀ q, q < Y.heap.size → q < U.heap.size := fun q hq => by have := bYU.size; omega
  have HCU := Lib.hid (HGU.out.wd.at_)
  have HBK := Lib.hid (block_any (.slice GA gn gcap) (.slice PA pn pcap) G pc U HGU.out.bks)
  clear hU kU bU bYU hb11 hb4 y0 y1 y2 y3 h0 h1 r0 r1 r2 lY lY7 lY9 hCy HBF HDY HNV HGY HTY HRY BY HCC
  rcases hf : findB G pc with _ | kb
  · rw [hf] at HBK
    simp only [Option.getD_none, Option.isSome_none] at HBK
    have hon : o = none := by rw [← HO.out]; exact befR_none hf
    subst hon
    obtain rfl : cc = false := HCV.out.symm
    have heq := eq_zero (a := rr) HRR.out.symm
    clear hf
    go_wp2_with (first | (go_at_call 18; refine HBK.out.mono ?_; rintro e W5 ⟨rfl, hb5⟩; have rg5 := (KU.out.keep hb5).range) | (refine wpList_load_midG (by first | rfl | kernel_rfl) _ _ rfl _ _ rfl (cellsR rr) _ rg5 Tryd.underlying27 rfl (hi3 R.out.len) ?_))
    go_ret
    exact ⟨rfl, BU.out.trans (hb5.mono BU.out.size)⟩
  rw [hf] at HBK
  simp only [Option.getD_some, Option.isSome_some] at HBK
  obtain ⟨x, hx, hx1, hx2⟩ := findB_in hf
  have HB0 := Lib.hid (befR_some (cd := cd) FX.out.asi.l1 FX.out.asi.l2 hf hx)
  have hkl := (List.getElem?_eq_some_iff.1 hx).1
  rw [HGN.out] at hkl
  obtain ⟨rq, ro, hRA, rlt, hrc⟩ : ∃ rq ro, RA = some ⟨rq, ro, none⟩ ∧ rq < U.heap.size ∧ ∀ k, k < gn → U.cell? ⟨rq, ro + k, none⟩ = some (.bool (s.reach.getD k false)) := by
    obtain ⟨⟨_, _, e3, _, _, e4⟩, _⟩ := id HRU.out
    cases e3
    have e5 := FX.out.asi.l1
    rw [HGN.out] at e5
    rw [e5] at e4
    exact e4 (by omega)
  obtain ⟨iq, io, hIA, ilt, hic⟩ : ∃ iq io, IA = some ⟨iq, io, none⟩ ∧ iq < U.heap.size ∧ ∀ k, k < gn → U.rangeAt iq (io + k * 32) (cellsR (s.inn.getD k [])) := by
    obtain ⟨_, ⟨_, _, e3, _, _, e4⟩⟩ := id HRU.out
    cases e3
    have e5 := FX.out.asi.l2
    rw [HGN.out] at e5
    rw [e5] at e4
    exact e4 (by omega)
  obtain ⟨gq, go, hGA, glt, hgc⟩ : ∃ gq go, GA = some ⟨gq, go, none⟩ ∧ gq < U.heap.size ∧ U.cell? ⟨gq, go + kb * 3, none⟩ = some (.int .i64 x.lo) := by
    obtain ⟨_, _, e3, _, _, e4⟩ := id HGU.out.bks
    cases e3
    rw [HGN.out] at e4
    obtain ⟨b, off, e5, e6, e7⟩ := e4 (by omega)
    exact ⟨b, off, e5, e6, (e7 kb x hx).1⟩
  subst hRA hIA hGA
  have rck := hrc kb hkl
  have ick := hic kb hkl
  obtain ⟨rb, hrb⟩ : ∃ rb, s.reach.getD kb false = rb := ⟨_, rfl⟩
  obtain ⟨r, hr⟩ : ∃ r, s.inn.getD kb [] = r := ⟨_, rfl⟩
  have hli : kb < s.inn.length := by rw [FX.out.asi.l2, HGN.out]; exact hkl
  have r16 : R16 r := by
    rw [← hr, show s.inn.getD kb [] = s.inn[kb] by simp [List.getD, List.getElem?_eq_getElem hli]]
    exact HL.out _ (List.getElem_mem hli)
  rw [hrb] at rck HB0
  rw [hr] at ick HB0
  have dk1 : ((kb : Int) < 0) = False := by simp
  have dk2 : decide ((gn : Int) ≤ (kb : Int)) = false := decide_eq_false (by omega)
  have dk3 : (kb : Int) < (gn : Int) := by omega
  have XIN := Lib.hid (And.intro hx1 hx2)
  have XM := Lib.hid (HOKB.out x (List.mem_of_getElem? hx))
  have RK := Lib.hid r16
  have ICK := Lib.hid ick
  clear hf hx hrc hic hrb hr r16 hx1 hx2 hli ick
  rcases rb with _ | _
  · have hon : o = none := by rw [← HO.out, HB0.out]; rfl
    subst hon
    obtain rfl : cc = false := HCV.out.symm
    have heq := eq_zero (a := rr) HRR.out.symm
    go_upto_region 11 with (first | (go_at_call 18; refine HBK.out.mono ?_; rintro e W5 ⟨rfl, hb5⟩))
    have z0 : W5.cell? ⟨b9, 0, none⟩ = _ := (hb5.cell (p := ⟨b9, 0, none⟩) lU9).trans w0
    have z1 : W5.cell? ⟨rq, ro + kb, none⟩ = _ := (hb5.cell (p := ⟨rq, ro + kb, none⟩) rlt).trans rck
    have rg5 := (KU.out.keep hb5).range
    have BH := Lib.hid (BU.out.trans (hb5.mono BU.out.size))
    clear hb5
    go_wp2_with (first | (refine wpList_load_midG (by first | rfl | kernel_rfl) _ _ rfl _ _ rfl (cellsR rr) _ rg5 Tryd.underlying27 rfl (hi3 R.out.len) ?_))
    go_ret
    exact ⟨rfl, BH.out⟩
  · rw [if_pos rfl] at HB0
    go_upto_region 11 with (first | (go_at_call 18; refine HBK.out.mono ?_; rintro e W5 ⟨rfl, hb5⟩))
    have z0 : W5.cell? ⟨b9, 0, none⟩ = _ := (hb5.cell (p := ⟨b9, 0, none⟩) lU9).trans w0
    have z1 : W5.cell? ⟨rq, ro + kb, none⟩ = _ := (hb5.cell (p := ⟨rq, ro + kb, none⟩) rlt).trans rck
    have z2 : W5.cell? ⟨b9, 1, none⟩ = _ := (hb5.cell (p := ⟨b9, 1, none⟩) lU9).trans w1
    have RG5 := Lib.hid (show W5.rangeAt iq (io + kb * 32) (cellsR r) from fun j v hv => (hb5.cell (p := ⟨iq, io + kb * 32 + j, none⟩) ilt).trans (ICK.out j v hv))
    have H5 := Lib.hid hb5
    clear hb5
    go_upto_region 14 with (first | (refine wpList_load_mid rfl _ _ rfl _ _ rfl (cellsR r) _ RG5.out Tryd.underlying27 rfl (hi3 RK.out.len) ?_) | (refine wpList_store_row rfl 27 (.tmp 15) (.tmp 93) rfl W5.heap.size (cellsR r).toArray rfl rfl 27 _ (heap_alloc_new _ _) (hi4 RK.out.len) (hi6 RK.out.len zero16) (cellsR_one r) ?_))
    obtain ⟨X, hX⟩ : ∃ X, (W5.alloc (.cells #[.int .i32 0, .int .i32 0, .int .i32 0, .int .i32 0, .int .i32 0, .int .i32 0, .int .i32 0, .int .i32 0, .int .i32 0, .int .i32 0, .int .i32 0, .int .i32 0, .int .i32 0, .int .i32 0, .int .i32 0, .int .i32 0, .int .i32 0, .int .i32 0, .int .i32 0, .int .i32 0, .int .i32 0, .int .i32 0, .int .i32 0, .int .i32 0, .int .i32 0, .int .i32 0, .int .i32 0, .int .i32 0, .int .i32 0, .int .i32 0, .int .i32 0, .int .i32 0] 27)).setRow W5.heap.size (cellsR r).toArray = X := ⟨_, rfl⟩
    rw [hX]
    have bX : Below W5.heap.size W5 X := hX ▸ below_setRow ((Below.refl _ _).alloc (Nat.le_refl _) _) (Nat.le_refl _) _
    have kX : RBox X W5.heap.size 27 r := hX ▸ RBox.row (z := zeroR) (heap_alloc_new _ _)
    obtain ⟨b15, hb15⟩ : ∃ b, W5.heap.size = b := ⟨_, rfl⟩
    have L15 : U.heap.size ≤ b15 := by rw [← hb15]; exact H5.out.size
    rw [hb15] at kX
    rw [hb15]
    have bUX : Below U.heap.size U X := H5.out.trans (bX.mono H5.out.size)
    have x0 : X.cell? ⟨w.heap.size, 0, none⟩ = _ := (bUX.cell (p := ⟨w.heap.size, 0, none⟩) lU).trans u0
    have x1 : X.cell? ⟨w.heap.size, 1, none⟩ = _ := (bUX.cell (p := ⟨w.heap.size, 1, none⟩) lU).trans u1
    have x2 : X.cell? ⟨w.heap.size, 2, none⟩ = _ := (bUX.cell (p := ⟨w.heap.size, 2, none⟩) lU).trans u2
    have x3 : X.cell? ⟨w.heap.size, 3, none⟩ = _ := (bUX.cell (p := ⟨w.heap.size, 3, none⟩) lU).trans u3
    have p0 : X.cell? ⟨b7, 0, none⟩ = _ := (bUX.cell (p := ⟨b7, 0, none⟩) lU7).trans v0
    have p1 : X.cell? ⟨b7, 1, none⟩ = _ := (bUX.cell (p := ⟨b7, 1, none⟩) lU7).trans v1
    have p2 : X.cell? ⟨gq, go + kb * 3, none⟩ = _ := (bUX.cell (p := ⟨gq, go + kb * 3, none⟩) glt).trans hgc
    have BUX := Lib.hid bUX
    have KX := Lib.hid kX
    have KX11 := Lib.hid (KU.out.keep bUX)
    obtain ⟨xlo, hxlo⟩ : ∃ v, x.lo = v := ⟨_, rfl⟩
    have hlo0 := XM.out.1
    have hp1 := XIN.out.1
    have hp2 := XIN.out.2
    rw [hxlo] at p2 hlo0 hp1 HB0
    obtain ⟨ln, rfl⟩ : ∃ ln : Nat, xlo = (ln : Int) := ⟨xlo.toNat, by omega⟩
    obtain ⟨pq, rfl⟩ : ∃ pn : Nat, pc = (pn : Int) := ⟨pc.toNat, by omega⟩
    obtain ⟨mm, hmm⟩ : ∃ mm : Nat, pq = ln + mm := ⟨pq - ln, by omega⟩
    have HMM := Lib.hid hmm
    have HBR := Lib.hid (show runR (codeFrom cd (ln : Int) mm) r = o by rw [← HO.out, HB0.out]; congr 2; omega)
    have hn6 : n ≤ 1000000 := HGU.out.wd.le
    have hpn : pq ≤ 1000000 := by
      have := (XM.out.2 pq (by rw [hxlo]; omega) (by omega))
      omega
    have XMM := Lib.hid (show ∀ a : Nat, ln ≤ a → a < pq → a < n ∧ (decI (cd a)).2 = 0 ∧ 0 ≤ (insAt cd (a : Int)).op from fun a h1 h2 => XM.out.2 a (by rw [hxlo]; omega) (by omega))
    have lX : X.heap.size = b15 + 1 := by rw [← hb15, ← hX]; simp [World.setRow]
    clear hX bX hb15 bUX z0 z1 z2 v0 v1 w0 w1 hgc u0 u1 u2 u3 hxlo hlo0 hp1 hp2 hmm rck
    go_upto_region 15 with fail
    have HCX := Lib.hid (show 0 < n → ∃ q off, CA = some ⟨q, off, none⟩ ∧ q < U.heap.size ∧ ∀ i, i < n → X.cell? ⟨q, off + i, none⟩ = some (.int .u32 (cd i)) from fun h0 => by
      obtain ⟨_, _, e3, _, _, e4⟩ := HCU.out
      cases e3
      obtain ⟨b, off, e5, e6, e7⟩ := e4 h0
      exact ⟨b, off, e5, e6, fun i hi => (BUX.out.cell (p := ⟨b, off + i, none⟩) e6).trans (e7 i hi)⟩)
    have HTX := Lib.hid (HTU.out.below BUX.out)
    have HGX := Lib.hid (HGU.out.below BUX.out)
    clear p2 HCU HBK HRU RGU ICK
    go_loopw [16, 17] (fun a16 a17 wr => ∃ (j : Nat) (acc : Option RG), j ≤ mm ∧ a16 = .bool acc.isSome ∧ a17 = .int .i64 ((ln : Int) + (j : Int)) ∧ runR (codeFrom cd (ln : Int) j) r = acc ∧ R16 (acc.getD zeroR) ∧ Below b15 X wr ∧ RBox wr b15 27 (acc.getD zeroR)) (fun _ a17 _ => pq - (intOf a17).toNat)
    case atStart => exact ⟨0, some r, by omega, rfl, rfl, rfl, RK.out, Below.refl _ _, KX.out⟩
    case round =>
      obtain ⟨j, acc, hj, rfl, rfl, hrun, hr1, hb, kr⟩ := hrel
      have HRUN := Lib.hid hrun
      have R1 := Lib.hid hr1
      have HB := Lib.hid hb
      have KR := Lib.hid kr
      have lsX := hb.size
      have HTL := Lib.hid (show runR (codeFrom cd (ln : Int) j) r = none → runR (codeFrom cd (ln : Int) mm) r = none from fun hn => by
        rw [show mm = j + (mm - j) by omega, codeFrom_add, runR_append, hn])
      have KW11 := Lib.hid (show RBox wr b11 27 rr from (hb.block _ (by omega)).trans KX11.out)
      have BW := Lib.hid (show Below w.heap.size w wr from (BU.out.trans (BUX.out.mono BU.out.size)).trans (hb.mono (by omega)))
      have rg11 := KW11.out.range
      clear hrun hr1 hb kr
      rcases acc with _ | r1
      · -- an instruction could not be done
        have hon : o = none := by rw [← HBR.out]; exact HTL.out HRUN.out
        subst hon
        obtain rfl : cc = false := HCV.out.symm
        have heq := eq_zero (a := rr) HRR.out.symm
        go_wp2_with (first | (refine wpList_load_midG (by first | rfl | kernel_rfl) _ _ rfl _ _ rfl (cellsR rr) _ rg11 Tryd.underlying27 rfl (hi3 R.out.len) ?_))
        go_ret
        exact ⟨rfl, BW.out⟩
      by_cases hlt : j < mm
      · have dl : decide ((ln : Int) + (j : Int) < (pq : Int)) = true := decide_eq_true (by have := HMM.out; omega)
        obtain ⟨m1, m2, m3⟩ := XMM.out (ln + j) (by omega) (by have := HMM.out; omega)
        obtain ⟨cq, co, hCA, hcq, hcc⟩ := HCX.out (by omega)
        subst hCA
        have t0 : wr.cell? ⟨w.heap.size, 0, none⟩ = _ := (HB.out.cell (p := ⟨w.heap.size, 0, none⟩) (show w.heap.size < b15 by omega)).trans x0
        have t1 : wr.cell? ⟨cq, co + (ln + j), none⟩ = _ := (HB.out.cell (p := ⟨cq, co + (ln + j), none⟩) (show cq < b15 by omega)).trans (hcc (ln + j) m1)
        have lwr : w.heap.size < wr.heap.size := by omega
        have lcq : cq < wr.heap.size := by omega
        have di1 : ((ln : Int) + (j : Int) < 0) = False := by simp; omega
        have di2 : decide ((n : Int) ≤ (ln : Int) + (j : Int)) = false := decide_eq_false (by omega)
        have di3 : (ln : Int) + (j : Int) < (n : Int) := by omega
        have di4 : ((ln : Int) + (j : Int)).toNat = ln + j := by omega
        have wl : IntKind.i64.wrap ((ln : Int) + (j : Int) + 1) = (ln : Int) + (j : Int) + 1 := IntWalk.i64_in _ (by have := HMM.out; omega)
        have hwd := HGX.out.wd.wd (ln + j) m1
        obtain ⟨op, ia, ic, id, im, hi⟩ : ∃ op ia ic id im, insAt cd ((ln : Int) + (j : Int)) = ⟨op, ia, ic, id, im⟩ := ⟨_, _, _, _, _, rfl⟩
        have hi' : (decI (cd (ln + j))).1 = ⟨op, ia, ic, id, im⟩ := by
          rw [← hi]
          unfold insAt
          rw [show ((ln : Int) + (j : Int)).toNat = ln + j by omega]
        have HDE := Lib.hid (show Calls Tryd.prog 19 #[.int .u32 (cd (ln + j))] wr fun e w' => e = .returned (.tuple #[.agg #[.int .u8 op, .int .i64 ia, .int .i64 ic, .int .i64 id, .int .i64 im], .int .i64 0]) ∧ Below wr.heap.size wr w' from by
          have := decode_any (cd (ln + j)) hwd.1 hwd.2 wr (HTU.out.below (BUX.out.trans (HB.out.mono L15)))
          rw [hi', m2] at this
          exact this)
        rw [Int.natCast_add, hi] at m3
        have HI := Lib.hid hi
        have M3 := Lib.hid m3
        clear m1 m2 m3 hi hi' hwd hcc
        go_upto_region 20 with (first | (go_at_call 19; refine HDE.out.mono ?_; rintro e w2 ⟨rfl, hb2⟩))
        obtain ⟨Z, hZ⟩ : ∃ Z, w2.alloc (.cells #[.int .u8 op, .int .i64 ia, .int .i64 ic, .int .i64 id, .int .i64 im] 23) = Z := ⟨_, rfl⟩
        rw [hZ]
        have bZ : Below w2.heap.size w2 Z := hZ ▸ (Below.refl _ _).alloc (Nat.le_refl _) _
        obtain ⟨z0, z1, z2, z3, z4, lZ⟩ := ins_block (show Z.heap[w2.heap.size]? = some (.cells #[.int .u8 op, .int .i64 ia, .int .i64 ic, .int .i64 id, .int .i64 im] 23 (0, 0)) from hZ ▸ heap_alloc_new _ _)
        obtain ⟨q18, hq18⟩ : ∃ q, w2.heap.size = q := ⟨_, rfl⟩
        have bRZ : Below wr.heap.size wr Z := hb2.trans (bZ.mono hb2.size)
        rw [hq18] at z0 z1 z2 z3 z4 lZ
        rw [hq18]
        have KZ := Lib.hid (show RBox Z b15 27 r1 from RBox.keep (show RBox wr b15 27 r1 from KR.out) bRZ)
        have R1' := Lib.hid (show R16 r1 from R1.out)
        have HRG1 := Lib.hid KZ.out.range
        have BXZ := Lib.hid (HB.out.trans (bRZ.mono (by omega)))
        have HTR := Lib.hid (transfer_any op ia ic id im M3.out r1 R1'.out Z (HTU.out.below (BUX.out.trans (BXZ.out.mono L15))))
        have lZ15 : b15 < Z.heap.size := KZ.out.lt
        have HST := Lib.hid (show runR (codeFrom cd (ln : Int) (j + 1)) r = transR ⟨op, ia, ic, id, im⟩ r1 by
          rw [codeFrom_succ, runR_append, HRUN.out]
          have e : insAt cd ((ln : Int) + (j : Int)) = ⟨op, ia, ic, id, im⟩ := by rw [← HI.out]
          rw [e]
          simp only [runR]
          cases transR ⟨op, ia, ic, id, im⟩ r1 <;> rfl)
        obtain ⟨o2, ho2⟩ : ∃ o2, transR ⟨op, ia, ic, id, im⟩ r1 = o2 := ⟨_, rfl⟩
        obtain ⟨r2, hr2⟩ : ∃ r2, o2.getD zeroR = r2 := ⟨_, rfl⟩
        obtain ⟨c2, hc2⟩ : ∃ c2, o2.isSome = c2 := ⟨_, rfl⟩
        have R2 := Lib.hid (show R16 r2 by
          rw [← hr2]
          cases o2 with
          | none => exact R16.zero
          | some a => exact transR_16 M3.out R1'.out ho2)
        rw [ho2] at HST HTR
        rw [outR_eq, hr2, hc2] at HTR
        have HR2 := Lib.hid hr2
        have HC2 := Lib.hid hc2
        clear hZ bZ bRZ hq18 hb2 t0 t1 lwr lcq ho2 hr2 hc2
        go_wp2_with (first | (refine wpList_load_mid rfl _ _ rfl _ _ rfl (cellsR r1) _ HRG1.out Tryd.underlying27 rfl (hi3 R1'.out.len) ?_) | (go_at_call 20; refine HTR.out.mono ?_; rintro e w4 ⟨rfl, hb4⟩) | (refine wpList_store_row rfl 27 (.tmp 15) (.tmp 123) rfl b15 (cellsR r2).toArray rfl rfl 27 _ (KZ.out.keep hb4) (hi4 R2.out.len) (hi6 R2.out.len R1'.out.len) (cellsR_one r2) ?_))
        go_roundw
        case rel => exact ⟨j + 1, o2, by omega, by rw [HC2.out], by first | rfl | (congr 1; omega) | go_num, HST.out, by rw [HR2.out]; exact R2.out, below_setRow (BXZ.out.trans (hb4.mono (by omega))) (Nat.le_refl _) _, by rw [HR2.out]; exact RBox.row (KZ.out.keep hb4)⟩
        case measure => simp [intOf]; have := HMM.out; omega
      · obtain rfl : j = mm := by omega
        have dl : decide ((ln : Int) + (j : Int) < (pq : Int)) = false := decide_eq_false (by have := HMM.out; omega)
        have hos : o = some r1 := by rw [← HBR.out]; exact HRUN.out
        subst hos
        obtain rfl : cc = true := HCV.out.symm
        have hrr : rr = r1 := HRR.out.symm
        have R1' := Lib.hid (show R16 r1 from R1.out)
        have heq := eq_true R.out.len R1'.out.len hrr
        clear hrr
        have lw15 : w.heap.size < b15 := by omega
        have l715 : b7 < b15 := by omega
        have t0 : wr.cell? ⟨w.heap.size, 0, none⟩ = _ := (HB.out.cell (p := ⟨w.heap.size, 0, none⟩) lw15).trans x0
        have t1 : wr.cell? ⟨w.heap.size, 1, none⟩ = _ := (HB.out.cell (p := ⟨w.heap.size, 1, none⟩) lw15).trans x1
        have t2 : wr.cell? ⟨w.heap.size, 2, none⟩ = _ := (HB.out.cell (p := ⟨w.heap.size, 2, none⟩) lw15).trans x2
        have t3 : wr.cell? ⟨w.heap.size, 3, none⟩ = _ := (HB.out.cell (p := ⟨w.heap.size, 3, none⟩) lw15).trans x3
        have s0 : wr.cell? ⟨b7, 0, none⟩ = _ := (HB.out.cell (p := ⟨b7, 0, none⟩) l715).trans p0
        have s1 : wr.cell? ⟨b7, 1, none⟩ = _ := (HB.out.cell (p := ⟨b7, 1, none⟩) l715).trans p1
        have lwr : w.heap.size < wr.heap.size := by omega
        have lw7 : b7 < wr.heap.size := by omega
        have bUw := BUX.out.trans (HB.out.mono L15)
        have HBN := Lib.hid (show Calls Tryd.prog 17 #[.agg #[.slice CA n ccap, ev, .int .i64 sh, .int .i64 lk], .agg #[.slice (some ⟨gq, go, none⟩) gn gcap, .slice PA pn pcap], .agg #[.slice none 0 0, .slice none 0 0, .slice none 0 0], .int .i64 (pq : Int)] wr fun e w' => e = .returned (.tuple #[.agg (cellsR zeroR).toArray, .bool false]) ∧ Below wr.heap.size wr w' by
          have := before_any (.slice CA n ccap) ev (.slice (some ⟨gq, go, none⟩) gn gcap) (.slice PA pn pcap) (.slice none 0 0) (.slice none 0 0) (.slice none 0 0) sh lk n cd G [] [] (pq : Int) wr (HTU.out.below bUw) (HGU.out.wd.below bUw) (HGU.out.bks.below bUw) (res_nil wr) (by simp) HOKB.out
          rw [befR_nil HGU.out.pos] at this
          exact this)
        clear bUw
        go_upto_region 24 with (first | (go_at_call 17; refine HBN.out.mono ?_; rintro e w5 ⟨rfl, hb5⟩) | (refine wpList_store_row rfl 27 (.tmp 20) (.tmp 140) rfl w5.heap.size (cellsR zeroR).toArray rfl rfl 27 _ (heap_alloc_new _ _) (hi4 zero16) (hi6 zero16 zero16) (cellsR_one zeroR) ?_))
        obtain ⟨Z, hZ⟩ : ∃ Z, (w5.alloc (.cells #[.int .i32 0, .int .i32 0, .int .i32 0, .int .i32 0, .int .i32 0, .int .i32 0, .int .i32 0, .int .i32 0, .int .i32 0, .int .i32 0, .int .i32 0, .int .i32 0, .int .i32 0, .int .i32 0, .int .i32 0, .int .i32 0, .int .i32 0, .int .i32 0, .int .i32 0, .int .i32 0, .int .i32 0, .int .i32 0, .int .i32 0, .int .i32 0, .int .i32 0, .int .i32 0, .int .i32 0, .int .i32 0, .int .i32 0, .int .i32 0, .int .i32 0, .int .i32 0] 27)).setRow w5.heap.size (cellsR zeroR).toArray = Z := ⟨_, rfl⟩
        rw [hZ]
        have bZ : Below w5.heap.size w5 Z := hZ ▸ below_setRow ((Below.refl _ _).alloc (Nat.le_refl _) _) (Nat.le_refl _) _
        have bwZ : Below wr.heap.size wr Z := hb5.trans (bZ.mono hb5.size)
        have rgA := (KW11.out.keep bwZ).range
        have rgB := (RBox.keep (show RBox wr b15 27 r1 from KR.out) bwZ).range
        have BZ := Lib.hid (BW.out.trans (bwZ.mono BW.out.size))
        clear hZ bZ bwZ hb5 t0 t1 t2 t3 s0 s1
        go_wp2_with (first | (refine wpList_load_midG (by first | rfl | kernel_rfl) _ _ rfl _ _ rfl (cellsR rr) _ rgA Tryd.underlying27 rfl (hi3 R.out.len) ?_) | (refine wpList_load_midG (by first | rfl | kernel_rfl) _ _ rfl _ _ rfl (cellsR r1) _ rgB Tryd.underlying27 rfl (hi3 R1'.out.len) ?_))
        go_ret
        exact ⟨rfl, BZ.out⟩

end Go.Proofs.YtebklpnkcicpjaaDoor


