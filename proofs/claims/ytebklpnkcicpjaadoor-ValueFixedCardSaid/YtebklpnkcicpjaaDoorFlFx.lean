/-
 What is proved here: what ValueFixed returns.
-/
import Derived.Test.YtebklpnkcicpjaaDoorFlMp
import Derived.Test.YtebklpnkcicpjaaDoorFlFp
import Derived.BigQuiet
namespace Go.Proofs.YtebklpnkcicpjaaDoor
open Go.RowKit
set_option linter.unusedVariables false
set_option linter.unusedSimpArgs false

theorem neq_zero {a : RG} (h : a = zeroR) (w : World) : (binOp .neq 27 (.agg (cellsR a).toArray) (.agg #[.int .i32 0, .int .i32 0, .int .i32 0, .int .i32 0, .int .i32 0, .int .i32 0, .int .i32 0, .int .i32 0, .int .i32 0, .int .i32 0, .int .i32 0, .int .i32 0, .int .i32 0, .int .i32 0, .int .i32 0, .int .i32 0, .int .i32 0, .int .i32 0, .int .i32 0, .int .i32 0, .int .i32 0, .int .i32 0, .int .i32 0, .int .i32 0, .int .i32 0, .int .i32 0, .int .i32 0, .int .i32 0, .int .i32 0, .int .i32 0, .int .i32 0, .int .i32 0])).run Tryd.prog w = .ok (.bool false) w := by
 subst h
 have h1 := eqIn_regs 9997 zero16 zero16 w
 rw [decide_eq_true rfl] at h1
 have h2 : (cellsR zeroR).toArray = #[.int .i32 0, .int .i32 0, .int .i32 0, .int .i32 0, .int .i32 0, .int .i32 0, .int .i32 0, .int .i32 0, .int .i32 0, .int .i32 0, .int .i32 0, .int .i32 0, .int .i32 0, .int .i32 0, .int .i32 0, .int .i32 0, .int .i32 0, .int .i32 0, .int .i32 0, .int .i32 0, .int .i32 0, .int .i32 0, .int .i32 0, .int .i32 0, .int .i32 0, .int .i32 0, .int .i32 0, .int .i32 0, .int .i32 0, .int .i32 0, .int .i32 0, .int .i32 0] := rfl
 rw [h2] at h1 ⊢
 simp [binOp, Op.equal, Op.maxDepth, h1]
theorem ne24 {op : Int} (h : op = 22 ∨ op = 23) : (op == 24) = false ∧ decide (op = 24) = false := by rcases h with rfl | rfl <;> exact ⟨rfl, rfl⟩
theorem branch_yes {op : Int} (h : op = 22 ∨ op = 23) (W : World) : Calls Tryd.prog 22 #[.int .u8 op] W fun e w' => e = .returned (.bool true) ∧ W = w' := by
 have := isBranch_any op W
 rw [show isBr op = true by rcases h with rfl | rfl <;> rfl] at this
 exact this
theorem branch_no {op : Int} (h : ¬ (op = 22 ∨ op = 23)) (h2 : ¬ op = 24) (W : World) : Calls Tryd.prog 22 #[.int .u8 op] W fun e w' => e = .returned (.bool false) ∧ W = w' := by
 have := isBranch_any op W
 rw [show isBr op = false by unfold isBr; simp; omega] at this
 exact this
theorem bne_not (a b : Bool) : ((!a) == b) = (a != b) := by cases a <;> cases b <;> rfl
theorem beq_one (k : Nat) : ((k : Int) == 1) = decide (k = 1) := by rw [Bool.eq_iff_iff]; simp; omega
theorem beq_two' {n : Nat} (h : n = 2) : ((n : Int) == 2) = true := by rw [h]; rfl
theorem beq_two {n : Nat} (h : ¬ n = 2) : ((n : Int) == 2) = false := by simp; omega
theorem zeros_at : ∀ k : Nat, k < 16 → zeros.getD k 0 = 0 := by decide
theorem range_cell {w : World} {b o : Nat} {r : RG} (h : w.rangeAt b o (cellsR r)) (hr : r.length = 16) {k : Nat} (hk : k < 16) : w.cell? ⟨b, o + k * 2, none⟩ = some (.int .i32 (rg r (k : Int)).1) ∧ w.cell? ⟨b, o + k * 2 + 1, none⟩ = some (.int .i32 (rg r (k : Int)).2) := by
 have h1 := h (k * 2 + 0) _ (by rw [cellsR_at r k 0 _ (get_rg (by omega)) (by omega)]; rfl)
 have h2 := h (k * 2 + 1) _ (by rw [cellsR_at r k 1 _ (get_rg (by omega)) (by omega)]; rfl)
 exact ⟨h1, h2⟩
theorem tr_range {w w' : World} {b o : Nat} {cs : List Value} (h : w.rangeAt b o cs) (hb : Below w.heap.size w w') (hl : b < w.heap.size) : w'.rangeAt b o cs := fun j v hv => (hb.cell (p := ⟨b, o + j, none⟩) hl).trans (h j v hv)
theorem ints_cell {w : World} {A : Option Addr} {m cap : Nat} {l : List Int} (h : Ints w (.slice A m cap) l) {k : Nat} (hk : k < m) : ∃ q off, A = some ⟨q, off, none⟩ ∧ q < w.heap.size ∧ w.cell? ⟨q, off + k, none⟩ = some (.int .i64 (l.getD k 0)) ∧ l.length = m := by
 obtain ⟨A', cap', hv, _, _, h4⟩ := h
 cases hv
 obtain ⟨b, off, rfl, hlt, hc⟩ := h4 (by omega)
 refine ⟨b, off, rfl, hlt, ?_, rfl⟩
 rw [hc k hk]
theorem befR_end {cd : Nat → Int} {G : List Blk} {rl : List Bool} {il : List RG} {n : Nat} (h1 : rl.length = G.length) (h2 : il.length = G.length) (hok : ∀ x ∈ G, GOk n cd G x) {z : Int} (hv : okL G.length 0 G z) {b : Nat} {x : Blk} (hx : G[b]? = some x) (hr : rl.getD b false = true) :
  befR cd G rl il (x.hi - 1) = runR (codeFrom cd x.lo (x.hi - 1 - x.lo).toNat) (il.getD b []) := by
 have ho := hok x (List.mem_of_getElem? hx)
 rw [befR_some h1 h2 (findB_val hv hx (by have := ho.lt; omega) (by omega)) hx, if_pos hr]
set_option maxRecDepth 100000 in
set_option maxHeartbeats 16000000 in
theorem vfixed_any (AZ : AnlSpec) (cv ev : Value) (sh lk : Int) (n : Nat) (cd : Nat → Int) (ents : List Ent) (task : Int) (w : World) (T : Tab w) (HW : WordsN w cv n cd) (HE : Ents w ev ents) :
  Calls Tryd.prog 5 #[.agg #[cv, ev, .int .i64 sh, .int .i64 lk], .int .i64 task] w fun e w' => e = .returned (.bool true) ∧ Below w.heap.size w w' := by
 obtain ⟨V, hV, k0, bV, sV⟩ := one_new w #[cv, ev, .int .i64 sh, .int .i64 lk] 38
 have a0 : V.cell? ⟨w.heap.size, 0, none⟩ = some cv := by simp [World.cell?, k0]
 have a1 : V.cell? ⟨w.heap.size, 1, none⟩ = some ev := by simp [World.cell?, k0]
 have a2 : V.cell? ⟨w.heap.size, 2, none⟩ = some (.int .i64 sh) := by simp [World.cell?, k0]
 have a3 : V.cell? ⟨w.heap.size, 3, none⟩ = some (.int .i64 lk) := by simp [World.cell?, k0]
 have l0 : w.heap.size < V.heap.size := by omega
 have HAW := Lib.hid (vawake_any AZ V (T.below bV))
 have HWV := Lib.hid (HW.belowG bV)
 have HEV := Lib.hid (HE.below bV)
 have HTV := Lib.hid (T.below bV)
 have BV := Lib.hid bV
 clear HW HE T bV sV k0
 go_enter Tryd.func5, Tryd.ntmps5
 go_upto_region 3 with (go_at_call 9; refine HAW.out.mono ?_; rintro e W1 ⟨rfl, hb1⟩)
 have e0 : W1.cell? ⟨w.heap.size, 0, none⟩ = _ := (hb1.cell (p := ⟨w.heap.size, 0, none⟩) l0).trans a0
 have e1 : W1.cell? ⟨w.heap.size, 1, none⟩ = _ := (hb1.cell (p := ⟨w.heap.size, 1, none⟩) l0).trans a1
 have e2 : W1.cell? ⟨w.heap.size, 2, none⟩ = _ := (hb1.cell (p := ⟨w.heap.size, 2, none⟩) l0).trans a2
 have e3 : W1.cell? ⟨w.heap.size, 3, none⟩ = _ := (hb1.cell (p := ⟨w.heap.size, 3, none⟩) l0).trans a3
 have l1 : w.heap.size < W1.heap.size := by have := hb1.size; omega
 have HGA := Lib.hid (graph_any cv ev sh lk n cd ents task W1 (HTV.out.below hb1) (HWV.out.belowG hb1) (HEV.out.below hb1))
 have B1 := Lib.hid (BV.out.trans (hb1.mono BV.out.size))
 have HT1 := Lib.hid (HTV.out.below hb1)
 clear hb1 hV a0 a1 a2 a3 l0 HAW HWV HEV HTV BV
 go_upto_region 4 with (go_at_call 15; refine HGA.out.mono ?_; rintro e W2 ⟨h, hb2⟩; rcases h with rfl | ⟨bv, pv, kt, G, P, rfl, rfl, hG⟩ <;> try (obtain ⟨GA, gcap, hbv, -, -, -⟩ := id hG.bks; obtain ⟨PA, pcap, hpv, -, -, -⟩ := id hG.lls; obtain ⟨gn, hgn⟩ : ∃ m, G.length = m := ⟨_, rfl⟩; obtain ⟨pn, hpn⟩ : ∃ m, P.length = m := ⟨_, rfl⟩; rw [hgn] at hbv; rw [hpn] at hpv; subst hbv hpv))
 ·have B2 := (B1.out.trans (hb2.mono B1.out.size))
  go_wp2_with fail
  go_ret
  exact ⟨rfl, B2.alloc B2.size _⟩
 have HGN := Lib.hid hgn
 obtain ⟨b7, hb7⟩ : ∃ b, W2.heap.size = b := ⟨_, rfl⟩
 obtain ⟨X, hX⟩ : ∃ X, W2.alloc (.cells #[.slice GA gn gcap, .slice PA pn pcap] 48) = X := ⟨_, rfl⟩
 rw [hX]
 have bX : Below W2.heap.size W2 X := hX ▸ (Below.refl _ _).alloc (Nat.le_refl _) _
 have kX : X.heap[b7]? = some (.cells #[.slice GA gn gcap, .slice PA pn pcap] 48 (0, 0)) := by rw [← hb7, ← hX]; exact heap_alloc_new _ _
 rw [hb7]
 have b1X : Below W1.heap.size W1 X := hb2.trans (bX.mono hb2.size)
 have x0 : X.cell? ⟨w.heap.size, 0, none⟩ = _ := (b1X.cell (p := ⟨w.heap.size, 0, none⟩) l1).trans e0
 have x1 : X.cell? ⟨w.heap.size, 1, none⟩ = _ := (b1X.cell (p := ⟨w.heap.size, 1, none⟩) l1).trans e1
 have x2 : X.cell? ⟨w.heap.size, 2, none⟩ = _ := (b1X.cell (p := ⟨w.heap.size, 2, none⟩) l1).trans e2
 have x3 : X.cell? ⟨w.heap.size, 3, none⟩ = _ := (b1X.cell (p := ⟨w.heap.size, 3, none⟩) l1).trans e3
 have g0 : X.cell? ⟨b7, 0, none⟩ = some (.slice GA gn gcap) := by simp [World.cell?, kX]
 have g1 : X.cell? ⟨b7, 1, none⟩ = some (.slice PA pn pcap) := by simp [World.cell?, kX]
 have lX : w.heap.size < X.heap.size := by have := b1X.size; omega
 have lX7 : b7 < X.heap.size := lt_of_blk' kX
 have BX := Lib.hid (B1.out.trans (b1X.mono B1.out.size))
 have HTX := Lib.hid (HT1.out.below b1X)
 have HGX := Lib.hid (hG.below bX)
 have HAZ := Lib.hid (AZ cv ev (.slice GA gn gcap) (.slice PA pn pcap) sh lk n cd G P X HTX.out HGX.out.wd HGX.out.bks HGX.out.lls HGX.out.val HGX.out.pos HGX.out.len HGX.out.ok)
 have hgn3 : gn ≤ 1000 := by rw [← hgn]; exact HGX.out.len
 have hgn0 : 0 < gn := by rw [← hgn]; exact HGX.out.pos
 clear hX kX bX b1X hb7 hb2 e0 e1 e2 e3 l1 hG HGA HT1 B1 hgn hpn
 go_upto_region 7 with (go_at_call 16; refine HAZ.out.mono ?_; rintro e W3 ⟨⟨s, rv, iv, dv, hE, rfl, hR, hD, hN⟩, hb3⟩; have FX := Lib.hid (an_fx HGX.out.pos HGX.out.ok hE); obtain ⟨⟨RA, rcap, hrv, -, -, -⟩, ⟨IA, icap, hiv, -, -, -⟩⟩ := id hR; obtain ⟨DA, dcap, hdv, -⟩ := id hD; obtain ⟨dn, hdn⟩ : ∃ m, (deadK (absOf cd G) s G.length).length = m := ⟨_, rfl⟩; rw [hdn] at hdv; rw [FX.out.asi.l1, HGN.out] at hrv; rw [FX.out.asi.l2, HGN.out] at hiv; subst hrv hiv hdv)
 have HDN := Lib.hid hdn
 obtain ⟨b9, hb9⟩ : ∃ b, W3.heap.size = b := ⟨_, rfl⟩
 obtain ⟨Y, hY⟩ : ∃ Y, W3.alloc (.cells #[.slice RA gn rcap, .slice IA gn icap, .slice DA dn dcap] 55) = Y := ⟨_, rfl⟩
 rw [hY]
 have bY : Below W3.heap.size W3 Y := hY ▸ (Below.refl _ _).alloc (Nat.le_refl _) _
 have kY : Y.heap[b9]? = some (.cells #[.slice RA gn rcap, .slice IA gn icap, .slice DA dn dcap] 55 (0, 0)) := by rw [← hb9, ← hY]; exact heap_alloc_new _ _
 rw [hb9]
 have bXY : Below X.heap.size X Y := hb3.trans (bY.mono hb3.size)
 have y0 : Y.cell? ⟨w.heap.size, 0, none⟩ = _ := (bXY.cell (p := ⟨w.heap.size, 0, none⟩) lX).trans x0
 have y1 : Y.cell? ⟨w.heap.size, 1, none⟩ = _ := (bXY.cell (p := ⟨w.heap.size, 1, none⟩) lX).trans x1
 have y2 : Y.cell? ⟨w.heap.size, 2, none⟩ = _ := (bXY.cell (p := ⟨w.heap.size, 2, none⟩) lX).trans x2
 have y3 : Y.cell? ⟨w.heap.size, 3, none⟩ = _ := (bXY.cell (p := ⟨w.heap.size, 3, none⟩) lX).trans x3
 have h0 : Y.cell? ⟨b7, 0, none⟩ = _ := (bXY.cell (p := ⟨b7, 0, none⟩) lX7).trans g0
 have h1 : Y.cell? ⟨b7, 1, none⟩ = _ := (bXY.cell (p := ⟨b7, 1, none⟩) lX7).trans g1
 have r0 : Y.cell? ⟨b9, 0, none⟩ = some (.slice RA gn rcap) := by simp [World.cell?, kY]
 have r1 : Y.cell? ⟨b9, 1, none⟩ = some (.slice IA gn icap) := by simp [World.cell?, kY]
 have r2 : Y.cell? ⟨b9, 2, none⟩ = some (.slice DA dn dcap) := by simp [World.cell?, kY]
 have lY : w.heap.size < Y.heap.size := by have := bXY.size; omega
 have lY7 : b7 < Y.heap.size := by have := bXY.size; omega
 have lY9 : b9 < Y.heap.size := lt_of_blk' kY
 have BY := Lib.hid (BX.out.trans (bXY.mono BX.out.size))
 have HTY := Lib.hid (HTX.out.below bXY)
 have HGY := Lib.hid (HGX.out.below bXY)
 have HRY := Lib.hid (hR.below bY)
 have HDY := Lib.hid (hD.below bY)
 have HE := Lib.hid hE
 have HNV := Lib.hid hN
 have d1 : ((gn : Int) != (gn : Int)) = false := by simp
 clear hY kY bY bXY hb9 hb3 x0 x1 x2 x3 g0 g1 lX lX7 hR hD hE hN HGX HTX BX HAZ hdn
 obtain ⟨CA, ccap, hcv, cc1, cc2, -⟩ := HGY.out.wd.at_
 subst hcv
 have cc2' := max_63 cc2
 obtain ⟨gn3, rl3, il3, gn63, rl63, il63⟩ : gn ≤ gcap ∧ gn ≤ rcap ∧ gn ≤ icap ∧ gcap ≤ 2 ^ 63 - 1 ∧ rcap ≤ 2 ^ 63 - 1 ∧ icap ≤ 2 ^ 63 - 1 := by
  obtain ⟨_, _, e1, e2, e2'⟩ := id HGY.out.bks
  obtain ⟨⟨_, _, e3, e4, e4', _⟩, ⟨_, _, e5, e6, e6', _⟩⟩ := id HRY.out
  have m2 := max_63 e2'.1
  have m4 := max_63 e4'
  have m6 := max_63 e6'
  cases e1
  rw [FX.out.asi.l1, HGN.out] at e3
  rw [FX.out.asi.l2, HGN.out] at e5
  cases e3
  cases e5
  rw [FX.out.asi.l1] at e4
  rw [FX.out.asi.l2] at e6
  rw [HGN.out] at e2 e4 e6
  exact ⟨e2, e4, e6, m2, m4, m6⟩
 obtain ⟨rq, ro, hRA, rlt, hrc⟩ : ∃ rq ro, RA = some ⟨rq, ro, none⟩ ∧ rq < Y.heap.size ∧ ∀ k, k < gn → Y.cell? ⟨rq, ro + k, none⟩ = some (.bool (s.reach.getD k false)) := by
  obtain ⟨⟨_, _, e3, _, _, e4⟩, _⟩ := id HRY.out
  cases e3
  have e5 := FX.out.asi.l1
  rw [HGN.out] at e5
  rw [e5] at e4
  exact e4 (by omega)
 obtain ⟨iq, io, hIA, ilt, hic⟩ : ∃ iq io, IA = some ⟨iq, io, none⟩ ∧ iq < Y.heap.size ∧ ∀ k, k < gn → Y.rangeAt iq (io + k * 32) (cellsR (s.inn.getD k [])) := by
  obtain ⟨_, ⟨_, _, e3, _, _, e4⟩⟩ := id HRY.out
  cases e3
  have e5 := FX.out.asi.l2
  rw [HGN.out] at e5
  rw [e5] at e4
  exact e4 (by omega)
 obtain ⟨gq, go, hGA, glt, hgc⟩ : ∃ gq go, GA = some ⟨gq, go, none⟩ ∧ gq < Y.heap.size ∧ ∀ k x, G[k]? = some x → Y.cell? ⟨gq, go + k * 3, none⟩ = some (.int .i64 x.lo) ∧ Y.cell? ⟨gq, go + k * 3 + 1, none⟩ = some (.int .i64 x.hi) ∧ ∃ nv, Y.cell? ⟨gq, go + k * 3 + 2, none⟩ = some nv ∧ Ints Y nv x.nx := by
  obtain ⟨_, _, e3, _, _, e4⟩ := id HGY.out.bks
  cases e3
  rw [HGN.out] at e4
  obtain ⟨b, off, e5, e6, e7⟩ := e4 (by omega)
  exact ⟨b, off, e5, e6, fun k x hx => e7 k x hx⟩
 subst hRA hIA hGA
 have rc0 : Y.cell? ⟨rq, ro, none⟩ = some (.bool true) := by
  have := hrc 0 hgn0
  rw [FX.out.r0] at this
  exact this
 obtain ⟨ra, hra⟩ : ∃ r, s.inn.getD 0 [] = r := ⟨_, rfl⟩
 have RA16 := Lib.hid (show R16 ra by rw [← hra]; exact FX.out.asi.get (by rw [HGN.out]; exact hgn0))
 have RAZ := Lib.hid (show InR zeros ra by rw [← hra]; exact FX.out.c0)
 have rg0 : Y.rangeAt iq io (cellsR ra) := by
  have := hic 0 hgn0
  rw [hra] at this
  simpa using this
 have HRC := Lib.hid hrc
 have HIC := Lib.hid hic
 have HGC := Lib.hid hgc
 clear hra hrc hic hgc
 go_upto_region 10 with (first | (refine wpList_load_mid rfl _ _ rfl _ _ rfl (cellsR ra) _ rg0 Tryd.underlying27 rfl (hi3 RA16.out.len) ?_))
 clear rg0 rc0
 go_loopw [75] (fun a75 wr => ∃ k : Nat, k ≤ 16 ∧ a75 = .int .i64 (k : Int) ∧ Below Y.heap.size Y wr) (fun a75 _ => 16 - (intOf a75).toNat)
 case atStart => exact ⟨0, by omega, rfl, Below.refl _ _⟩
 case round =>
  obtain ⟨k, hk, rfl, hb⟩ := hrel
  have HB := Lib.hid hb
  have hsz := hb.size
  clear hb
  by_cases hlt : k < 16
  ·have dl : decide ((k : Int) < 16) = true := decide_eq_true (by omega)
   have dk2 : decide ((16 : Int) ≤ (k : Int)) = false := decide_eq_false (by omega)
   have dk3 : (k : Int) < 16 := by omega
   have hix := index_regs RA16.out.len hlt
   obtain ⟨lo, hlo⟩ : ∃ lo, (rg ra (k : Int)).1 = lo := ⟨_, rfl⟩
   obtain ⟨hi, hhi⟩ : ∃ hi, (rg ra (k : Int)).2 = hi := ⟨_, rfl⟩
   rw [hlo, hhi] at hix
   have HC := Lib.hid (show ∀ W, Calls Tryd.prog 21 #[.agg #[.int .i32 lo, .int .i32 hi], .int .i32 0] W fun e w' => e = .returned (.bool true) ∧ Below W.heap.size W w' from fun W => by
    have := contains_any lo hi 0 W
    have hm := RAZ.out k hlt
    unfold Mem at hm
    rw [hlo, hhi, zeros_at k hlt] at hm
    rw [decide_eq_true hm.1, decide_eq_true hm.2] at this
    exact this)
   clear hlo hhi
   go_upto_region 12 with fail
   obtain ⟨X, hX⟩ : ∃ X, wr.alloc (.cells #[.int .i32 lo, .int .i32 hi] 25) = X := ⟨_, rfl⟩
   rw [hX]
   have bX : Below wr.heap.size wr X := hX ▸ (Below.refl _ _).alloc (Nat.le_refl _) _
   have kX : X.heap[wr.heap.size]? = some (.cells #[.int .i32 lo, .int .i32 hi] 25 (0, 0)) := hX ▸ heap_alloc_new _ _
   have z0 : X.cell? ⟨wr.heap.size, 0, none⟩ = some (.int .i32 lo) := by simp [World.cell?, kX]
   have z1 : X.cell? ⟨wr.heap.size, 1, none⟩ = some (.int .i32 hi) := by simp [World.cell?, kX]
   have HX := Lib.hid (HB.out.trans (bX.mono hsz))
   have hsX := HX.out.size
   clear hX bX kX
   go_wp2_with (go_at_call 21; refine (HC.out _).mono ?_; rintro e W1 ⟨rfl, hb1⟩)
   go_roundw
   case rel => exact ⟨k + 1, by omega, by go_num, HX.out.trans (hb1.mono hsX)⟩
   case measure => simp [intOf]; omega
  ·have dl : decide ((k : Int) < 16) = false := decide_eq_false (by omega)
   go_upto_region 15 with fail
   obtain ⟨Z0, hZ0⟩ : ∃ Z0 : World, Z0 = wr := ⟨_, rfl⟩
   subst hZ0
   obtain ⟨hc, hf⟩ := bcell HB.out
   have lZ00 : w.heap.size < Z0.heap.size := by omega
   have lZ07 : b7 < Z0.heap.size := by omega
   have lZ09 : b9 < Z0.heap.size := by omega
   have lZ0r : rq < Z0.heap.size := by omega
   have lZ0i : iq < Z0.heap.size := by omega
   have lZ0g : gq < Z0.heap.size := by omega
   obtain ⟨mb, hmb⟩ : ∃ m, Z0.heap.size = m := ⟨_, rfl⟩
   obtain ⟨M, hM⟩ : ∃ M, Z0.alloc (.map #[] 0) = M := ⟨_, rfl⟩
   have hmm := @run_makeMap Tryd.prog
   go_upto_region 16 with fail
   have bZM : Below Z0.heap.size Z0 M := hM ▸ (Below.refl _ _).alloc (Nat.le_refl _) _
   have PMH := Lib.hid (show Pm M mb (pmOf []) by rw [← hM, ← hmb, pmOf_nil]; exact Pm.made Z0)
   have HYM := Lib.hid (HB.out.trans (bZM.mono hsz))
   have lM := PMH.out.lt
   have hYm : Y.heap.size ≤ mb := by rw [← hmb]; exact hsz
   have hsM := HYM.out.size
   clear hM hmb hmm bZM hc hf HB hsz RAZ RA16
   clear lZ00 lZ07 lZ09 lZ0r lZ0i lZ0g
   have lM0 : w.heap.size < M.heap.size := by omega
   have lM7 : b7 < M.heap.size := by omega
   have lM9 : b9 < M.heap.size := by omega
   have lMr : rq < M.heap.size := by omega
   have lMi : iq < M.heap.size := by omega
   have lMg : gq < M.heap.size := by omega
   obtain ⟨hcM, hfM⟩ := bcell HYM.out
   obtain ⟨DL, hDL⟩ : ∃ L, deadK (absOf cd G) s G.length = L := ⟨_, rfl⟩
   obtain ⟨dle, d63, hdc⟩ : dn ≤ dcap ∧ dcap ≤ 2 ^ 63 - 1 ∧ (0 < dn → ∃ b off, DA = some ⟨b, off, none⟩ ∧ b < Y.heap.size ∧ ∀ i p, DL[i]? = some p → Y.cell? ⟨b, off + i * 2, none⟩ = some (.int .i64 p.1) ∧ Y.cell? ⟨b, off + i * 2 + 1, none⟩ = some (.int .i64 p.2)) := by
    obtain ⟨_, _, e1, e2, e3, e4⟩ := HDY.out
    rw [hDL] at e1 e2 e4
    have e5 := HDN.out
    rw [hDL] at e5
    rw [e5] at e1 e2 e4
    cases e1
    exact ⟨e2, e3, e4⟩
   have HDC := Lib.hid hdc
   rw [hDL] at HDN
   have HDL := Lib.hid hDL
   clear hdc hDL
   go_upto_region 17 with fail
   go_loopw [86] (fun a86 wr => ∃ k : Nat, k ≤ dn ∧ a86 = .int .i64 (k : Int) ∧ Pm wr mb (pmOf (DL.take k)) ∧ Below Y.heap.size Y wr) (fun a86 _ => dn - (intOf a86).toNat)
   case atStart => exact ⟨0, by omega, rfl, PMH.out, HYM.out⟩
   case round =>
    obtain ⟨k, hk, rfl, hp, hb⟩ := hrel
    have HP := Lib.hid hp
    have HB := Lib.hid hb
    have hsz := hb.size
    have lmb := hp.lt
    clear hp hb
    by_cases hlt : k < dn
    ·have dl : decide ((k : Int) < (dn : Int)) = true := decide_eq_true (by omega)
     have dk2 : decide ((dn : Int) ≤ (k : Int)) = false := decide_eq_false (by omega)
     obtain ⟨dq, dof, rfl, hdq, hdcc⟩ := HDC.out (by omega)
     obtain ⟨p, hp⟩ : ∃ p, DL[k]? = some p := ⟨_, List.getElem?_eq_getElem (by rw [HDN.out]; exact hlt)⟩
     obtain ⟨c0, c1⟩ := hdcc k p hp
     have hpw : pwf p := by
      have h := deadK_in HGY.out.ok (p := p) (s := s) (by rw [HDL.out]; exact List.mem_of_getElem? hp)
      rw [HGN.out] at h
      exact ⟨kwf_of (by omega) (by omega), kwf_of (by omega) (by omega)⟩
     have HPW := Lib.hid hpw
     have HST := Lib.hid (pmOf_step hp)
     obtain ⟨p1, p2⟩ := p
     simp only at c0 c1
     obtain ⟨hc, hf⟩ := bcell HB.out
     have ldq : dq < wr.heap.size := by omega
     clear hdcc hpw hp
     go_upto_region 19 with fail
     obtain ⟨X, hX⟩ : ∃ X, wr.alloc (.cells #[.int .i64 p1, .int .i64 p2] 72) = X := ⟨_, rfl⟩
     rw [hX]
     have bX : Below wr.heap.size wr X := hX ▸ (Below.refl _ _).alloc (Nat.le_refl _) _
     have kX : X.heap[wr.heap.size]? = some (.cells #[.int .i64 p1, .int .i64 p2] 72 (0, 0)) := hX ▸ heap_alloc_new _ _
     have z0 : X.cell? ⟨wr.heap.size, 0, none⟩ = some (.int .i64 p1) := by simp [World.cell?, kX]
     have z1 : X.cell? ⟨wr.heap.size, 1, none⟩ = some (.int .i64 p2) := by simp [World.cell?, kX]
     have HPX := Lib.hid (HP.out.below bX lmb)
     obtain ⟨X2, hput, hp2, o1, o2, o3, o4, o5⟩ := HPX.out.put pairKey Tryd.underlying71 HPW.out (.bool true)
     have HP2 := Lib.hid hp2
     have hB2 : Below Y.heap.size Y X2 := (HB.out.trans (bX.mono hsz)).trans ⟨o1, o2, o3, by omega, fun i hi => o5 i (by omega)⟩
     have HB2 := Lib.hid hB2
     have hlX : wr.heap.size < X.heap.size := lt_of_blk' kX
     clear hX bX kX hp2 o1 o2 o3 o4 o5 hB2 hc hf
     go_wp2_with fail
     go_roundw
     case rel => exact ⟨k + 1, by omega, by go_num, by rw [← HST.out]; exact HP2.out, HB2.out⟩
     case measure => simp [intOf]; omega
    ·obtain rfl : dn = k := by omega
     have dl : decide ((dn : Int) < (dn : Int)) = false := by simp
     obtain ⟨Z1, hZ1⟩ : ∃ Z1 : World, Z1 = wr := ⟨_, rfl⟩
     subst hZ1
     have PM1 := Lib.hid (show Pm Z1 mb (pmOf DL) by have := HP.out; rwa [List.take_of_length_le (by rw [HDN.out]; exact Nat.le_refl _)] at this)
     obtain ⟨hc, hf⟩ := bcell HB.out
     have H1 := Lib.hid HB.out
     have hs1 := H1.out.size
     have lm1 := PM1.out.lt
     have lZ10 : w.heap.size < Z1.heap.size := by omega
     have lZ17 : b7 < Z1.heap.size := by omega
     have lZ19 : b9 < Z1.heap.size := by omega
     have lZ1r : rq < Z1.heap.size := by omega
     have lZ1i : iq < Z1.heap.size := by omega
     have lZ1g : gq < Z1.heap.size := by omega
     clear lM0 lM7 lM9 lMr lMi lMg
     clear hcM hfM
     go_upto_region 22 with fail
     clear hc hf HP
     go_loopw [96] (fun a96 wr => ∃ b : Nat, b ≤ gn ∧ a96 = .int .i64 (b : Int) ∧ Below Z1.heap.size Z1 wr) (fun a96 _ => gn - (intOf a96).toNat)
     case atStart => exact ⟨0, by omega, rfl, Below.refl _ _⟩
     case round =>
      obtain ⟨b, hbn, rfl, hb⟩ := hrel
      obtain ⟨w3, hw3⟩ : ∃ w3 : World, w3 = wr := ⟨_, rfl⟩
      subst hw3
      have HBZ := Lib.hid hb
      have HB3 := Lib.hid (H1.out.trans (hb.mono hs1))
      have hsz := HB3.out.size
      have hsz1 := hb.size
      obtain ⟨hc, hf⟩ := bcell HB3.out
      have lw30 : w.heap.size < w3.heap.size := by omega
      have lw37 : b7 < w3.heap.size := by omega
      have lw39 : b9 < w3.heap.size := by omega
      have lw3r : rq < w3.heap.size := by omega
      have lw3i : iq < w3.heap.size := by omega
      have lw3g : gq < w3.heap.size := by omega
      clear lZ10 lZ17 lZ19 lZ1r lZ1i lZ1g
      clear hb
      by_cases hlt : b < gn
      ·have dl : decide ((b : Int) < (gn : Int)) = true := decide_eq_true (by omega)
       have dk2 : decide ((gn : Int) ≤ (b : Int)) = false := decide_eq_false (by omega)
       have dk3 : (b : Int) < (gn : Int) := by omega
       obtain ⟨x, hx⟩ : ∃ x, G[b]? = some x := ⟨_, List.getElem?_eq_getElem (by rw [HGN.out]; exact hlt)⟩
       obtain ⟨g0, g1, nv, g2, hnv⟩ := HGC.out b x hx
       obtain ⟨NA, ncap, hnve, n1, n2⟩ := hnv.slice
       obtain ⟨nl, hnl⟩ : ∃ m, x.nx.length = m := ⟨_, rfl⟩
       rw [hnl] at hnve n1
       subst hnve
       have rcb := HRC.out b hlt
       have icb := HIC.out b hlt
       have hxo := HGY.out.ok x (List.mem_of_getElem? hx)
       obtain ⟨xl, hxl⟩ : ∃ v, x.lo = v := ⟨_, rfl⟩
       obtain ⟨xh, hxh⟩ : ∃ v, x.hi = v := ⟨_, rfl⟩
       obtain ⟨rb, hrb⟩ : ∃ v, s.reach.getD b false = v := ⟨_, rfl⟩
       obtain ⟨r, hr⟩ : ∃ v, s.inn.getD b [] = v := ⟨_, rfl⟩
       have R := Lib.hid (show R16 r by rw [← hr]; exact FX.out.asi.get (by rw [HGN.out]; exact hlt))
       have HUN := Lib.hid (show rb = false → r = zeroR from fun h => by rw [← hr]; exact FX.out.un b (by rw [HGN.out]; exact hlt) (by rw [hrb]; exact h))
       rw [hxl] at g0
       rw [hxh] at g1
       rw [hrb] at rcb
       rw [hr] at icb
       have HX := Lib.hid hx
       have HXO := Lib.hid hxo
       have HNL := Lib.hid hnl
       have HXL := Lib.hid hxl
       have HXH := Lib.hid hxh
       have HRB := Lib.hid hrb
       have HR := Lib.hid hr
       have HNV2 := Lib.hid hnv
       clear hx hxo hnl hxl hxh hrb hr hnv
       go_upto_region 24 with fail
       obtain ⟨X, hX⟩ : ∃ X, w3.alloc (.cells #[.int .i64 xl, .int .i64 xh, .slice NA nl ncap] 64) = X := ⟨_, rfl⟩
       obtain ⟨q15, hq15⟩ : ∃ q, w3.heap.size = q := ⟨_, rfl⟩
       rw [hX, hq15]
       have bX : Below w3.heap.size w3 X := hX ▸ (Below.refl _ _).alloc (Nat.le_refl _) _
       have kX : X.heap[q15]? = some (.cells #[.int .i64 xl, .int .i64 xh, .slice NA nl ncap] 64 (0, 0)) := by rw [← hq15, ← hX]; exact heap_alloc_new _ _
       have z0 : X.cell? ⟨q15, 0, none⟩ = some (.int .i64 xl) := by simp [World.cell?, kX]
       have z1 : X.cell? ⟨q15, 1, none⟩ = some (.int .i64 xh) := by simp [World.cell?, kX]
       have z2 : X.cell? ⟨q15, 2, none⟩ = some (.slice NA nl ncap) := by simp [World.cell?, kX]
       have HYX := Lib.hid (HB3.out.trans (bX.mono hsz))
       have HZX := Lib.hid (HBZ.out.trans (bX.mono hsz1))
       have hsX := HYX.out.size
       have lX15 : q15 < X.heap.size := lt_of_blk' kX
       have lX0 : w.heap.size < X.heap.size := by omega
       have lX7 : b7 < X.heap.size := by omega
       have lX9 : b9 < X.heap.size := by omega
       have lXr : rq < X.heap.size := by omega
       have lXi : iq < X.heap.size := by omega
       have lXg : gq < X.heap.size := by omega
       clear lw30 lw37 lw39 lw3r lw3i lw3g
       have hYq : Y.heap.size ≤ q15 := by rw [← hq15]; exact hsz
       clear hX hq15 bX kX hc hf
       obtain ⟨hcX, hfX⟩ := bcell HYX.out
       rcases rb with _ | _
       ·have hneq := neq_zero (HUN.out rfl)
        have RGX := tr_range icb HYX.out ilt
        go_wp2_with (first | (refine wpList_load_mid rfl _ _ rfl _ _ rfl (cellsR r) _ RGX Tryd.underlying27 rfl (hi3 R.out.len) ?_))
        go_roundw
        case rel => exact ⟨b + 1, by omega, by go_num, HZX.out⟩
        case measure => simp [intOf]; omega
       ·have hxo := HXO.out
        have q1 := hxo.lo
        have q2 := hxo.lt
        rw [HXL.out] at q1 q2
        rw [HXH.out] at q2
        obtain ⟨ln, hln⟩ : ∃ ln : Nat, xh - 1 = (ln : Int) := ⟨(xh - 1).toNat, by omega⟩
        obtain ⟨m1, m2, m3⟩ := hxo.cod ln (by rw [HXL.out]; omega) (by rw [HXH.out]; omega)
        have hn6 : n ≤ 1000000 := HGY.out.wd.le
        have hwd := HGY.out.wd.wd ln m1
        obtain ⟨op, ja, jb, jc, jm, hi⟩ : ∃ op ja jb jc jm, insAt cd (ln : Int) = ⟨op, ja, jb, jc, jm⟩ := ⟨_, _, _, _, _, rfl⟩
        obtain ⟨o1, ho1⟩ : ∃ o, runR (codeFrom cd xl ((ln : Int) - xl).toNat) r = o := ⟨_, rfl⟩
        have HBFR := Lib.hid (show befR cd G s.reach s.inn (ln : Int) = o1 by
         obtain ⟨z, hz⟩ := HGY.out.val.ok
         have := befR_end FX.out.asi.l1 FX.out.asi.l2 HGY.out.ok hz HX.out HRB.out
         rw [HXH.out, HXL.out, HR.out, hln, ho1] at this
         exact this)
        obtain ⟨O, hO⟩ : ∃ O, runR (codeFrom cd xl (xh - xl).toNat) r = O := ⟨_, rfl⟩
        have HO := Lib.hid (show O = o1.bind (transR ⟨op, ja, jb, jc, jm⟩) by
         have := run_last hxo r
         rw [HXH.out, HXL.out, hln, ho1, hO, hi] at this
         rw [this]
         cases o1 <;> rfl)
        have HFE := Lib.hid (show ∀ k, k < nl → ((b : Int), x.nx.getD k 0) ∉ DL → ∃ aft, O = some aft ∧ R16 aft ∧ s.reach.getD (x.nx.getD k 0).toNat false = true ∧ (x.nx.getD k 0).toNat < G.length ∧
          (¬ (op = 22 ∨ op = 23) → SubR aft (s.inn.getD (x.nx.getD k 0).toNat [])) ∧
          ((op = 22 ∨ op = 23) → ∀ tk a, (nl = 2 → tk = decide (k = 1)) → refR ⟨op, ja, jb, jc, jm⟩ aft tk = some a → SubR a (s.inn.getD (x.nx.getD k 0).toNat [])) from fun k hk hd => by
         have := fixed_edge HE.out FX.out HGY.out.ok HX.out HRB.out (by rw [HNL.out]; exact hk) (by rw [HDL.out]; exact hd)
         simp only [HXL.out, HXH.out, HR.out, hO, hln, hi, HNL.out] at this
         exact this)
        have hop0 : 0 ≤ op := by have := m3; rw [hi] at this; exact this
        have HOP := Lib.hid hop0
        have HNXB := Lib.hid (show ∀ k, k < nl → 0 ≤ x.nx.getD k 0 ∧ x.nx.getD k 0 < (gn : Int) from fun k hk => by
         have hk2 : k < x.nx.length := by rw [HNL.out]; exact hk
         have := hxo.nx (x.nx.getD k 0) (by rw [show x.nx.getD k 0 = x.nx[k] by simp [List.getD, List.getElem?_eq_getElem hk2]]; exact List.getElem_mem hk2)
         rwa [HGN.out] at this)
        obtain ⟨rr1, hrr1⟩ : ∃ q, o1.getD zeroR = q := ⟨_, rfl⟩
        obtain ⟨c1, hc1⟩ : ∃ q, o1.isSome = q := ⟨_, rfl⟩
        have hl16 : ∀ r ∈ s.inn, R16 r := FX.out.asi.r16
        have RR1 := Lib.hid (show R16 rr1 by
         rw [← hrr1]
         have := befR_16 (rl := s.reach) (pc := (ln : Int)) HGY.out.ok hl16
         rwa [HBFR.out] at this)
        have HOKB := Lib.hid (show ∀ x ∈ G, 0 ≤ x.lo ∧ ∀ a : Nat, x.lo ≤ (a : Int) → (a : Int) < x.hi → a < n ∧ (decI (cd a)).2 = 0 ∧ 0 ≤ (insAt cd (a : Int)).op from fun x hx => ⟨(HGY.out.ok x hx).lo, (HGY.out.ok x hx).cod⟩)
        have HBF := Lib.hid (show Calls Tryd.prog 17 #[.agg #[.slice CA n ccap, ev, .int .i64 sh, .int .i64 lk], .agg #[.slice (some ⟨gq, go, none⟩) gn gcap, .slice PA pn pcap], .agg #[.slice (some ⟨rq, ro, none⟩) gn rcap, .slice (some ⟨iq, io, none⟩) gn icap, .slice DA dn dcap], .int .i64 (ln : Int)] X fun e w' => e = .returned (.tuple #[.agg (cellsR rr1).toArray, .bool c1]) ∧ Below X.heap.size X w' by
         have := before_any (.slice CA n ccap) ev (.slice (some ⟨gq, go, none⟩) gn gcap) (.slice PA pn pcap) (.slice (some ⟨rq, ro, none⟩) gn rcap) (.slice (some ⟨iq, io, none⟩) gn icap) (.slice DA dn dcap) sh lk n cd G s.reach s.inn (ln : Int) X (HTY.out.below HYX.out) (HGY.out.wd.below HYX.out) (HGY.out.bks.below HYX.out) (HRY.out.below HYX.out) hl16 HOKB.out
         rw [outR_eq, HBFR.out, hrr1, hc1] at this
         exact this)
        have HRR1 := Lib.hid hrr1
        have HC1 := Lib.hid hc1
        have M2 := Lib.hid m2
        have HI := Lib.hid hi
        have HWD := Lib.hid hwd
        obtain ⟨cq, co, hCA, hcq, hcc⟩ : ∃ cq co, CA = some ⟨cq, co, none⟩ ∧ cq < Y.heap.size ∧ Y.cell? ⟨cq, co + ln, none⟩ = some (.int .u32 (cd ln)) := by
         obtain ⟨_, _, e3, _, _, e4⟩ := HGY.out.wd.at_
         cases e3
         obtain ⟨b, off, e5, e6, e7⟩ := e4 (by omega)
         exact ⟨b, off, e5, e6, e7 ln m1⟩
        subst hCA
        have HOP0 := Lib.hid hop0
        clear hxo q1 ho1 hO hrr1 hc1 m2 m3 hi hwd hl16 hop0
        go_upto_region 28 with fail
        clear hln
        go_upto_region 29 with (first | (go_at_call 17; refine HBF.out.mono ?_; rintro e W4 ⟨rfl, hb4⟩) | (refine wpList_store_row rfl 27 (.tmp 17) (.tmp 123) rfl W4.heap.size (cellsR rr1).toArray rfl rfl 27 _ (heap_alloc_new _ _) (hi4 RR1.out.len) (hi6 RR1.out.len zero16) (cellsR_one rr1) ?_))
        obtain ⟨b17, hb17⟩ : ∃ b, W4.heap.size = b := ⟨_, rfl⟩
        obtain ⟨U, hU⟩ : ∃ U, (W4.alloc (.cells #[.int .i32 0, .int .i32 0, .int .i32 0, .int .i32 0, .int .i32 0, .int .i32 0, .int .i32 0, .int .i32 0, .int .i32 0, .int .i32 0, .int .i32 0, .int .i32 0, .int .i32 0, .int .i32 0, .int .i32 0, .int .i32 0, .int .i32 0, .int .i32 0, .int .i32 0, .int .i32 0, .int .i32 0, .int .i32 0, .int .i32 0, .int .i32 0, .int .i32 0, .int .i32 0, .int .i32 0, .int .i32 0, .int .i32 0, .int .i32 0, .int .i32 0, .int .i32 0] 27)).setRow W4.heap.size (cellsR rr1).toArray = U := ⟨_, rfl⟩
        rw [hU]
        have bU : Below W4.heap.size W4 U := hU ▸ below_setRow ((Below.refl _ _).alloc (Nat.le_refl _) _) (Nat.le_refl _) _
        have kU : RBox U b17 27 rr1 := by rw [← hb17, ← hU]; exact RBox.row (z := zeroR) (heap_alloc_new _ _)
        rw [hb17]
        have bXU : Below X.heap.size X U := hb4.trans (bU.mono hb4.size)
        have hYU := HYX.out.trans (bXU.mono HYX.out.size)
        have HZU := Lib.hid (HZX.out.trans (bXU.mono HZX.out.size))
        have lo17 : X.heap.size ≤ b17 := by rw [← hb17]; exact hb4.size
        have KU := Lib.hid kU
        have lU17 := kU.lt
        have u2 : U.cell? ⟨q15, 2, none⟩ = _ := (bXU.cell (p := ⟨q15, 2, none⟩) lX15).trans z2
        have hsU := hYU.size
        have lU15 : q15 < U.heap.size := by have := bXU.size; omega
        have lU0 : w.heap.size < U.heap.size := by omega
        have lU7 : b7 < U.heap.size := by omega
        have lU9 : b9 < U.heap.size := by omega
        have lUr : rq < U.heap.size := by omega
        have lUi : iq < U.heap.size := by omega
        have lUg : gq < U.heap.size := by omega
        clear lX0 lX7 lX9 lXr lXi lXg
        obtain ⟨hcU, hfU⟩ := bcell hYU
        have lUc : cq < U.heap.size := by omega
        have HYU := Lib.hid hYU
        have HDE := Lib.hid (show Calls Tryd.prog 19 #[.int .u32 (cd ln)] U fun e w' => e = .returned (.tuple #[.agg #[.int .u8 op, .int .i64 ja, .int .i64 jb, .int .i64 jc, .int .i64 jm], .int .i64 0]) ∧ Below U.heap.size U w' from by
         have := decode_any (cd ln) HWD.out.1 HWD.out.2 U (HTY.out.below hYU)
         have hi' : (decI (cd ln)).1 = ⟨op, ja, jb, jc, jm⟩ := by
          rw [← HI.out]
          unfold insAt
          rw [Int.toNat_natCast]
         rw [hi', M2.out] at this
         exact this)
        have dc1 : ((ln : Int) < 0) = False := by simp
        have dc2 : decide ((n : Int) ≤ (ln : Int)) = false := decide_eq_false (by omega)
        have dc3 : (ln : Int) < (n : Int) := by omega
        clear hU bU kU hb17 bXU hb4 hYU hcX hfX z0 z1 z2 HBF
        go_upto_region 30 with (go_at_call 19; refine HDE.out.mono ?_; rintro e W5 ⟨rfl, hb5⟩)
        obtain ⟨q19, hq19⟩ : ∃ q, W5.heap.size = q := ⟨_, rfl⟩
        obtain ⟨D, hD⟩ : ∃ D, W5.alloc (.cells #[.int .u8 op, .int .i64 ja, .int .i64 jb, .int .i64 jc, .int .i64 jm] 23) = D := ⟨_, rfl⟩
        rw [hD]
        have bD : Below W5.heap.size W5 D := hD ▸ (Below.refl _ _).alloc (Nat.le_refl _) _
        have kD : D.heap[W5.heap.size]? = some (.cells #[.int .u8 op, .int .i64 ja, .int .i64 jb, .int .i64 jc, .int .i64 jm] 23 (0, 0)) := hD ▸ heap_alloc_new _ _
        rw [hq19] at kD
        rw [hq19]
        obtain ⟨d0, d1', d2, d3, d4, lD19⟩ := ins_block kD
        have bUD : Below U.heap.size U D := hb5.trans (bD.mono hb5.size)
        have KD := Lib.hid (KU.out.keep bUD)
        have HYD := Lib.hid (HYU.out.trans (bUD.mono HYU.out.size))
        have HZD := Lib.hid (HZU.out.trans (bUD.mono HZU.out.size))
        have e2 : D.cell? ⟨q15, 2, none⟩ = _ := (bUD.cell (p := ⟨q15, 2, none⟩) lU15).trans u2
        have lD15 : q15 < D.heap.size := by have := bUD.size; omega
        have hsD := HYD.out.size
        have lUD : U.heap.size ≤ q19 := by rw [← hq19]; exact hb5.size
        have KI := Lib.hid kD
        clear y0 y1 y2 y3 h0 h1 r2 g0 g1 g2 hcc rcb icb
        have lD0 : w.heap.size < D.heap.size := by omega
        have lD7 : b7 < D.heap.size := by omega
        have lD9 : b9 < D.heap.size := by omega
        have lDr : rq < D.heap.size := by omega
        have lDi : iq < D.heap.size := by omega
        have lDg : gq < D.heap.size := by omega
        clear lU0 lU7 lU9 lUr lUi lUg
        clear hD bD hq19 bUD hb5 hcU hfU u2 HDE kD dc1 dc2 dc3
        rcases o1 with _ | rx
        ·have hOn : O = none := HO.out
         subst hOn
         obtain rfl : c1 = false := HC1.out.symm
         go_upto_region 35 with fail
         obtain ⟨hcL, hfL⟩ := bcell HYD.out
         clear hcL hfL
         go_loopw [146] (fun a146 wr => ∃ k : Nat, k ≤ nl ∧ a146 = .int .i64 (k : Int) ∧ Below D.heap.size D wr) (fun a146 _ => nl - (intOf a146).toNat)
         case atStart => exact ⟨0, by omega, rfl, Below.refl _ _⟩
         case round =>
          obtain ⟨k, hk, rfl, hb⟩ := hrel
          obtain ⟨w4, hw4⟩ : ∃ w4 : World, w4 = wr := ⟨_, rfl⟩
          subst hw4
          have HB4 := Lib.hid hb
          have HY4 := Lib.hid (HYD.out.trans (hb.mono HYD.out.size))
          have HZ4 := Lib.hid (HZD.out.trans (hb.mono HZD.out.size))
          have hsz4 := hb.size
          clear hb
          by_cases hlt4 : k < nl
          ·have dl4 : decide ((k : Int) < (nl : Int)) = true := decide_eq_true (by omega)
           have di2 : decide ((nl : Int) ≤ (k : Int)) = false := decide_eq_false (by omega)
           obtain ⟨nq, no, rfl, hnq, hnc, -⟩ := ints_cell HNV2.out hlt4
           obtain ⟨tn, htn⟩ : ∃ tn : Nat, x.nx.getD k 0 = (tn : Int) := ⟨(x.nx.getD k 0).toNat, by have := (HNXB.out k hlt4).1; omega⟩
           have htg : tn < gn := by have := (HNXB.out k hlt4).2; omega
           have hmem : ((b : Int), (tn : Int)) ∈ DL := Classical.byContradiction fun hno => by
            obtain ⟨aft, h, _⟩ := HFE.out k hlt4 (by rw [htn]; exact hno)
            cases h
           have hlk := edge_look (PM1.out.below HZ4.out lm1) (x := (b : Int)) (y := (tn : Int)) (kwf_of (by omega) (by omega)) (kwf_of (by omega) (by omega))
           rw [decide_eq_true hmem] at hlk
           rw [htn] at hnc
           obtain ⟨hc4, hf4⟩ := bcell HY4.out
           clear htn hmem
           go_wp2_with fail
           go_roundw
           case rel => exact ⟨k + 1, by omega, by go_num, HB4.out⟩
           case measure => simp [intOf]; omega
          ·obtain rfl : nl = k := by omega
           have dl4 : decide ((nl : Int) < (nl : Int)) = false := by simp
           go_wp2_with fail
           go_roundw
           case rel => exact ⟨b + 1, by omega, by go_num, HZ4.out⟩
           case measure => simp [intOf]; omega
        ·obtain rfl : c1 = true := HC1.out.symm
         have hr1 : rx = rr1 := HRR1.out
         have hOt : O = transR ⟨op, ja, jb, jc, jm⟩ rr1 := by rw [← hr1]; exact HO.out
         obtain ⟨rr2, hrr2⟩ : ∃ q, O.getD zeroR = q := ⟨_, rfl⟩
         obtain ⟨c2, hc2⟩ : ∃ q, O.isSome = q := ⟨_, rfl⟩
         have HTR := Lib.hid (show Calls Tryd.prog 20 #[.agg #[.int .u8 op, .int .i64 ja, .int .i64 jb, .int .i64 jc, .int .i64 jm], .agg (cellsR rr1).toArray] D fun e w' => e = .returned (.tuple #[.agg (cellsR rr2).toArray, .bool c2]) ∧ Below D.heap.size D w' by
          have := transfer_any op ja jb jc jm HOP.out rr1 RR1.out D (HTY.out.below HYD.out)
          rw [outR_eq, ← hOt, hrr2, hc2] at this
          exact this)
         have RR2 := Lib.hid (show R16 rr2 by
          rw [← hrr2]
          cases hO : O with
          | none => exact R16.zero
          | some a => exact transR_16 HOP.out RR1.out (hOt.symm.trans hO))
         have HRR2 := Lib.hid hrr2
         have HC2 := Lib.hid hc2
         have rgD := KD.out.range
         clear hr1 hOt hrr2 hc2
         go_upto_region 34 with (first | (refine wpList_load_mid rfl _ _ rfl _ _ rfl (cellsR rr1) _ rgD Tryd.underlying27 rfl (hi3 RR1.out.len) ?_) | (go_at_call 20; refine HTR.out.mono ?_; rintro e W6 ⟨rfl, hb6⟩) | (refine wpList_store_row rfl 27 (.tmp 17) (.tmp 141) rfl b17 (cellsR rr2).toArray rfl rfl 27 _ (KD.out.keep hb6) (hi4 RR2.out.len) (hi6 RR2.out.len RR1.out.len) (cellsR_one rr2) ?_))
         obtain ⟨E, hE6⟩ : ∃ E, W6.setRow b17 (cellsR rr2).toArray = E := ⟨_, rfl⟩
         rw [hE6]
         have hs6 := hb6.size
         have KE := Lib.hid (show RBox E b17 27 rr2 from hE6 ▸ RBox.row (KD.out.keep hb6))
         have hYE : Below Y.heap.size Y E := hE6 ▸ below_setRow (HYD.out.trans (hb6.mono HYD.out.size)) (by omega) _
         have hZE : Below Z1.heap.size Z1 E := hE6 ▸ below_setRow (HZD.out.trans (hb6.mono HZD.out.size)) (by have := HZX.out.size; omega) _
         have f2 : E.cell? ⟨q15, 2, none⟩ = _ := (World.cell?_of_block (hE6 ▸ setRow_other W6 _ _ _ (show q15 ≠ b17 by omega))).trans ((hb6.cell (p := ⟨q15, 2, none⟩) lD15).trans e2)
         have kE : E.heap[q19]? = some (.cells #[.int .u8 op, .int .i64 ja, .int .i64 jb, .int .i64 jc, .int .i64 jm] 23 (0, 0)) := (hE6 ▸ setRow_other W6 _ _ _ (show q19 ≠ b17 by omega)).trans ((hb6.block q19 lD19).trans KI.out)
         obtain ⟨g0', g1', g2', g3', g4', lE19⟩ := ins_block kE
         have hEs : E.heap.size = W6.heap.size := by rw [← hE6]; simp [World.setRow]
         have lE15 : q15 < E.heap.size := by omega
         have lE17 := KE.out.lt
         have KIE := Lib.hid kE
         have HYE := Lib.hid hYE
         have HZE := Lib.hid hZE
         have hsE := hYE.size
         have lE0 : w.heap.size < E.heap.size := by omega
         have lE7 : b7 < E.heap.size := by omega
         have lE9 : b9 < E.heap.size := by omega
         have lEr : rq < E.heap.size := by omega
         have lEi : iq < E.heap.size := by omega
         have lEg : gq < E.heap.size := by omega
         clear lD0 lD7 lD9 lDr lDi lDg
         clear hE6 hb6 hs6 hYE hZE kE rgD d0 d1' d2 d3 d4 e2 HTR hEs
         go_upto_region 35 with fail
         clear lE0 lE7 lE9 lEr lEi lEg
         rcases O with _ | aft
         ·obtain rfl : c2 = false := HC2.out.symm
          obtain ⟨hcL, hfL⟩ := bcell HYE.out
          clear hcL hfL
          go_loopw [146] (fun a146 wr => ∃ k : Nat, k ≤ nl ∧ a146 = .int .i64 (k : Int) ∧ Below E.heap.size E wr) (fun a146 _ => nl - (intOf a146).toNat)
          case atStart => exact ⟨0, by omega, rfl, Below.refl _ _⟩
          case round =>
           obtain ⟨k, hk, rfl, hb⟩ := hrel
           obtain ⟨w4, hw4⟩ : ∃ w4 : World, w4 = wr := ⟨_, rfl⟩
           subst hw4
           have HB4 := Lib.hid hb
           have HY4 := Lib.hid (HYE.out.trans (hb.mono HYE.out.size))
           have HZ4 := Lib.hid (HZE.out.trans (hb.mono HZE.out.size))
           have hsz4 := hb.size
           clear hb
           by_cases hlt4 : k < nl
           ·have dl4 : decide ((k : Int) < (nl : Int)) = true := decide_eq_true (by omega)
            have di2 : decide ((nl : Int) ≤ (k : Int)) = false := decide_eq_false (by omega)
            obtain ⟨nq, no, rfl, hnq, hnc, -⟩ := ints_cell HNV2.out hlt4
            obtain ⟨tn, htn⟩ : ∃ tn : Nat, x.nx.getD k 0 = (tn : Int) := ⟨(x.nx.getD k 0).toNat, by have := (HNXB.out k hlt4).1; omega⟩
            have htg : tn < gn := by have := (HNXB.out k hlt4).2; omega
            have hmem : ((b : Int), (tn : Int)) ∈ DL := Classical.byContradiction fun hno => by
             obtain ⟨aft, h, _⟩ := HFE.out k hlt4 (by rw [htn]; exact hno)
             cases h
            have hlk := edge_look (PM1.out.below HZ4.out lm1) (x := (b : Int)) (y := (tn : Int)) (kwf_of (by omega) (by omega)) (kwf_of (by omega) (by omega))
            rw [decide_eq_true hmem] at hlk
            rw [htn] at hnc
            obtain ⟨hc4, hf4⟩ := bcell HY4.out
            clear htn hmem
            go_wp2_with fail
            go_roundw
            case rel => exact ⟨k + 1, by omega, by go_num, HB4.out⟩
            case measure => simp [intOf]; omega
           ·obtain rfl : nl = k := by omega
            have dl4 : decide ((nl : Int) < (nl : Int)) = false := by simp
            go_wp2_with fail
            go_roundw
            case rel => exact ⟨b + 1, by omega, by go_num, HZ4.out⟩
            case measure => simp [intOf]; omega
         ·obtain rfl : c2 = true := HC2.out.symm
          have haft : aft = rr2 := HRR2.out
          subst haft
          go_loopw [146] (fun a146 wr => ∃ k : Nat, k ≤ nl ∧ a146 = .int .i64 (k : Int) ∧ Below E.heap.size E wr) (fun a146 _ => nl - (intOf a146).toNat)
          case atStart => exact ⟨0, by omega, rfl, Below.refl _ _⟩
          case round =>
           obtain ⟨k, hk, rfl, hb⟩ := hrel
           obtain ⟨w4, hw4⟩ : ∃ w4 : World, w4 = wr := ⟨_, rfl⟩
           subst hw4
           have HB4 := Lib.hid hb
           have HY4 := Lib.hid (HYE.out.trans (hb.mono HYE.out.size))
           have HZ4 := Lib.hid (HZE.out.trans (hb.mono HZE.out.size))
           have hsz4 := hb.size
           have hs4 := HY4.out.size
           clear hb
           by_cases hlt4 : k < nl
           ·have dl4 : decide ((k : Int) < (nl : Int)) = true := decide_eq_true (by omega)
            have di2 : decide ((nl : Int) ≤ (k : Int)) = false := decide_eq_false (by omega)
            obtain ⟨nq, no, rfl, hnq, hnc, -⟩ := ints_cell HNV2.out hlt4
            obtain ⟨tn, htn⟩ : ∃ tn : Nat, x.nx.getD k 0 = (tn : Int) := ⟨(x.nx.getD k 0).toNat, by have := (HNXB.out k hlt4).1; omega⟩
            have htg : tn < gn := by have := (HNXB.out k hlt4).2; omega
            have hlk := edge_look (PM1.out.below HZ4.out lm1) (x := (b : Int)) (y := (tn : Int)) (kwf_of (by omega) (by omega)) (kwf_of (by omega) (by omega))
            obtain ⟨hc4, hf4⟩ := bcell HY4.out
            by_cases hmem : ((b : Int), (tn : Int)) ∈ DL
            ·rw [decide_eq_true hmem] at hlk
             rw [htn] at hnc
             clear htn hmem
             go_wp2_with fail
             go_roundw
             case rel => exact ⟨k + 1, by omega, by go_num, HB4.out⟩
             case measure => simp [intOf]; omega
            ·obtain ⟨aft', hO', ha16, hre, htl, hs1', hs2⟩ := HFE.out k hlt4 (by rw [htn]; exact hmem)
             obtain rfl : aft = aft' := Option.some.inj hO'
             obtain ⟨ri, hri⟩ : ∃ q, s.inn.getD tn [] = q := ⟨_, rfl⟩
             have RI := Lib.hid (show R16 ri by rw [← hri]; exact FX.out.asi.get (by rw [HGN.out]; exact htg))
             have rct := HRC.out tn htg
             have ict := HIC.out tn htg
             rw [htn] at hnc hre hs1' hs2
             rw [Int.toNat_natCast] at hre hs1' hs2
             rw [hri] at ict hs1' hs2
             rw [hre] at rct
             rw [decide_eq_false hmem] at hlk
             have HS1 := Lib.hid hs1'
             have HS2 := Lib.hid hs2
             have AFT := Lib.hid ha16
             have HTN := Lib.hid htn
             have dt2 : decide ((gn : Int) ≤ (tn : Int)) = false := decide_eq_false (by omega)
             have dt3 : (tn : Int) < (gn : Int) := by omega
             clear htn hmem hO' ha16 hre htl hs1' hs2 hri
             go_upto_region 41 with fail
             obtain ⟨V5, hV5⟩ : ∃ V, w4.alloc (.cells #[.bool false, .bool true] 4) = V := ⟨_, rfl⟩
             obtain ⟨vb, hvb⟩ : ∃ q, w4.heap.size = q := ⟨_, rfl⟩
             rw [hV5, hvb]
             have bV5 : Below w4.heap.size w4 V5 := hV5 ▸ (Below.refl _ _).alloc (Nat.le_refl _) _
             have kV5 : V5.heap[vb]? = some (.cells #[.bool false, .bool true] 4 (0, 0)) := by rw [← hvb, ← hV5]; exact heap_alloc_new _ _
             have HE5 := Lib.hid (HB4.out.trans (bV5.mono hsz4))
             have HYV5 := Lib.hid (HY4.out.trans (bV5.mono hs4))
             have KV5 := Lib.hid kV5
             have lV5 : vb < V5.heap.size := lt_of_blk' kV5
             clear hV5 hvb bV5 kV5 hc4 hf4 hlk rct hnc
             go_loopw [168] (fun a168 wr => ∃ j : Nat, j ≤ 2 ∧ a168 = .int .i64 (j : Int) ∧ Below V5.heap.size V5 wr) (fun a168 _ => 2 - (intOf a168).toNat)
             case atStart => exact ⟨0, by omega, rfl, Below.refl _ _⟩
             case round =>
              obtain ⟨j, hj, rfl, hb⟩ := hrel
              obtain ⟨w5, hw5⟩ : ∃ w5 : World, w5 = wr := ⟨_, rfl⟩
              subst hw5
              have HB5 := Lib.hid hb
              have HE55 := Lib.hid (HE5.out.trans (hb.mono HE5.out.size))
              have HY5 := Lib.hid (HYV5.out.trans (hb.mono HYV5.out.size))
              have hsz5 := hb.size
              clear hb
              by_cases hlt5 : j < 2
              ·have dl5 : decide ((j : Int) < 2) = true := decide_eq_true (by omega)
               have dq2 : decide ((2 : Int) ≤ (j : Int)) = false := decide_eq_false (by omega)
               obtain ⟨tk, htk⟩ : ∃ t, decide (j = 1) = t := ⟨_, rfl⟩
               have cj : w5.cell? ⟨vb, j, none⟩ = some (.bool tk) := by
                rw [HB5.out.cell (p := ⟨vb, j, none⟩) lV5, ← htk]
                have : j = 0 ∨ j = 1 := by omega
                rcases this with rfl | rfl <;> simp [World.cell?, KV5.out]
               have lw5 : vb < w5.heap.size := by omega
               have p2 : w5.cell? ⟨q15, 2, none⟩ = _ := (HE55.out.cell (p := ⟨q15, 2, none⟩) lE15).trans f2
               have k5 : w5.heap[q19]? = some (.cells #[.int .u8 op, .int .i64 ja, .int .i64 jb, .int .i64 jc, .int .i64 jm] 23 (0, 0)) := (HE55.out.block q19 lE19).trans KIE.out
               obtain ⟨i0', i1', i2', i3', i4', l519⟩ := ins_block k5
               have hs55 := HE55.out.size
               have l515 : q15 < w5.heap.size := by omega
               have k17 := KE.out.keep HE55.out
               have rg17 := k17.range
               have K17 := Lib.hid k17
               obtain ⟨o3, ho3⟩ : ∃ o, refR ⟨op, ja, jb, jc, jm⟩ aft tk = o := ⟨_, rfl⟩
               obtain ⟨r3, hr3⟩ : ∃ q, o3.getD zeroR = q := ⟨_, rfl⟩
               obtain ⟨c3, hc3⟩ : ∃ q, o3.isSome = q := ⟨_, rfl⟩
               have HRF := Lib.hid (show Calls Tryd.prog 13 #[.agg #[.int .u8 op, .int .i64 ja, .int .i64 jb, .int .i64 jc, .int .i64 jm], .agg (cellsR aft).toArray, .bool tk] w5 fun e w' => e = .returned (.tuple #[.agg (cellsR r3).toArray, .bool c3]) ∧ Below w5.heap.size w5 w' by
                have := refine_any op ja jb jc jm HOP.out aft AFT.out tk w5 (HTY.out.below HY5.out)
                rw [outR_eq, ho3, hr3, hc3] at this
                exact this)
               have R3 := Lib.hid (show R16 r3 by
                rw [← hr3]
                cases h3 : o3 with
                | none => exact R16.zero
                | some a => exact refR_16 AFT.out (ho3.trans h3))
               have HO3 := Lib.hid ho3
               have HR3 := Lib.hid hr3
               have HC3 := Lib.hid hc3
               have HTK := Lib.hid htk
               clear ho3 hr3 hc3 htk k17 k5
               go_upto_region 44 with (first | (refine wpList_load_mid rfl _ _ rfl _ _ rfl (cellsR aft) _ rg17 Tryd.underlying27 rfl (hi3 AFT.out.len) ?_) | (go_at_call 13; refine HRF.out.mono ?_; rintro e W7 ⟨rfl, hb7⟩) | (refine wpList_store_row rfl 27 (.tmp 25) (.tmp 177) rfl W7.heap.size (cellsR r3).toArray rfl rfl 27 _ (heap_alloc_new _ _) (hi4 R3.out.len) (hi6 R3.out.len zero16) (cellsR_one r3) ?_))
               obtain ⟨b25, hb25⟩ : ∃ b, W7.heap.size = b := ⟨_, rfl⟩
               obtain ⟨Q, hQ⟩ : ∃ Q, (W7.alloc (.cells #[.int .i32 0, .int .i32 0, .int .i32 0, .int .i32 0, .int .i32 0, .int .i32 0, .int .i32 0, .int .i32 0, .int .i32 0, .int .i32 0, .int .i32 0, .int .i32 0, .int .i32 0, .int .i32 0, .int .i32 0, .int .i32 0, .int .i32 0, .int .i32 0, .int .i32 0, .int .i32 0, .int .i32 0, .int .i32 0, .int .i32 0, .int .i32 0, .int .i32 0, .int .i32 0, .int .i32 0, .int .i32 0, .int .i32 0, .int .i32 0, .int .i32 0, .int .i32 0] 27)).setRow W7.heap.size (cellsR r3).toArray = Q := ⟨_, rfl⟩
               rw [hQ]
               have bQ : Below W7.heap.size W7 Q := hQ ▸ below_setRow ((Below.refl _ _).alloc (Nat.le_refl _) _) (Nat.le_refl _) _
               have kQ : RBox Q b25 27 r3 := by rw [← hb25, ← hQ]; exact RBox.row (z := zeroR) (heap_alloc_new _ _)
               rw [hb25]
               have b5Q : Below w5.heap.size w5 Q := hb7.trans (bQ.mono hb7.size)
               have KQ := Lib.hid kQ
               have HYQ := Lib.hid (HY5.out.trans (b5Q.mono HY5.out.size))
               have HVQ := Lib.hid (HB5.out.trans (b5Q.mono hsz5))
               have s2 : Q.cell? ⟨q15, 2, none⟩ = _ := (b5Q.cell (p := ⟨q15, 2, none⟩) l515).trans p2
               have s19 : Q.cell? ⟨q19, 0, none⟩ = _ := (b5Q.cell (p := ⟨q19, 0, none⟩) l519).trans i0'
               have lQ19 : q19 < Q.heap.size := by have := b5Q.size; omega
               have lQ15 : q15 < Q.heap.size := by have := b5Q.size; omega
               have hb25l : w5.heap.size ≤ b25 := by rw [← hb25]; exact hb7.size
               have rgQ := (K17.out.keep b5Q).range
               have hYb : Y.heap.size ≤ b25 := by have := HY5.out.size; omega
               have hVb : V5.heap.size ≤ b25 := by omega
               clear hQ bQ kQ hb25 hb7 b5Q p2 i0' i1' i2' i3' i4' cj rg17 HRF
               by_cases hbr : op = 22 ∨ op = 23
               ·obtain ⟨g24, g24'⟩ := ne24 hbr
                have HIC2 := Lib.hid (branch_yes hbr)
                by_cases hsk : nl = 2 ∧ ¬ (tk = decide (k = 1))
                ·obtain ⟨hn2, htk⟩ := hsk
                 have dn1 : ((nl : Int) == 2) = true := beq_two' hn2
                 have dn2 : decide ((nl : Int) = 2) = true := beq_two' hn2
                 have dn3 : (nl == 2) = true := by rw [hn2]; rfl
                 have dn4 : decide (nl = 2) = true := decide_eq_true hn2
                 have hne2 : (tk != ((k : Int) == 1)) = true := by
                  rw [beq_one]; simpa using htk
                 have hne3 : (tk != decide ((k : Int) = 1)) = true := hne2
                 have hne4 : (!tk == ((k : Int) == 1)) = true := hne2
                 have hne5 : ((!tk) == ((k : Int) == 1)) = true := (bne_not _ _).trans hne2
                 clear htk hn2
                 go_upto_region 46 with (go_at_call 22; refine (HIC2.out _).mono ?_; rintro e w' ⟨rfl, rfl⟩)
                 go_wp2_with fail
                 go_roundw
                 case rel => exact ⟨j + 1, by omega, by go_num, HVQ.out⟩
                 case measure => simp [intOf]; omega
                ·have HSUB := Lib.hid (show c3 = true → SubR r3 ri from fun h3 => by
                  obtain ⟨a, ha⟩ : ∃ a, o3 = some a := by
                   cases h : o3 with
                   | none => rw [← HC3.out, h] at h3; cases h3
                   | some a => exact ⟨a, rfl⟩
                  have h4 := HS2.out hbr tk a (fun h2 => Classical.byContradiction fun h5 => hsk ⟨h2, h5⟩) (HO3.out.trans ha)
                  have h5 : r3 = a := by rw [← HR3.out, ha]; rfl
                  rw [h5]; exact h4)
                 by_cases hn2 : nl = 2
                 ·have htk : tk = decide (k = 1) := Classical.byContradiction fun h5 => hsk ⟨hn2, h5⟩
                  have hne2 : (tk != ((k : Int) == 1)) = false := by
                   rw [beq_one]; simp [htk]
                  have hne3 : (tk != decide ((k : Int) = 1)) = false := hne2
                  have hne4 : (!tk == ((k : Int) == 1)) = false := hne2
                  have hne5 : ((!tk) == ((k : Int) == 1)) = false := (bne_not _ _).trans hne2
                  have dn1 : ((nl : Int) == 2) = true := beq_two' hn2
                  have dn2 : decide ((nl : Int) = 2) = true := beq_two' hn2
                  have dn3 : (nl == 2) = true := by rw [hn2]; rfl
                  have dn4 : decide (nl = 2) = true := decide_eq_true hn2
                  clear htk hsk hn2
                  go_upto_region 48 with (go_at_call 22; refine (HIC2.out _).mono ?_; rintro e w' ⟨rfl, rfl⟩)
                  rcases c3 with _ | _
                  all_goals
                   go_loopw [199] (fun a199 wr => ∃ i : Nat, i ≤ 16 ∧ a199 = .int .i64 (i : Int) ∧ Below Q.heap.size Q wr) (fun a199 _ => 16 - (intOf a199).toNat)
                   case atStart => exact ⟨0, by omega, rfl, Below.refl _ _⟩
                   case round =>
                    obtain ⟨i, hi16, rfl, hb⟩ := hrel
                    obtain ⟨w6, hw6⟩ : ∃ w6 : World, w6 = wr := ⟨_, rfl⟩
                    subst hw6
                    have HB6 := Lib.hid hb
                    have HY6 := Lib.hid (HYQ.out.trans (hb.mono HYQ.out.size))
                    have hsz6 := hb.size
                    have k6 := KQ.out.keep hb
                    have hs0 := HY6.out.size
                    have l6b := k6.lt
                    clear hb
                    by_cases hlt6 : i < 16
                    ·have dl6 : decide ((i : Int) < 16) = true := decide_eq_true (by omega)
                     have dj2 : decide ((16 : Int) ≤ (i : Int)) = false := decide_eq_false (by omega)
                     have dj3 : (i : Int) < 16 := by omega
                     have n1 := k6.lo (k := i) (by rw [R3.out.len]; exact hlt6)
                     have n2 := k6.hi (k := i) (by rw [R3.out.len]; exact hlt6)
                     obtain ⟨n3, n4⟩ := range_cell (tr_range ict HY6.out ilt) RI.out.len hlt6
                     have n5 : w6.cell? ⟨b9, 1, none⟩ = _ := (HY6.out.cell (p := ⟨b9, 1, none⟩) lY9).trans r1
                     have l69 : b9 < w6.heap.size := by omega
                     have l6i : iq < w6.heap.size := by omega
                     obtain ⟨v1, hv1⟩ : ∃ v, (rg r3 (i : Int)).1 = v := ⟨_, rfl⟩
                     obtain ⟨v2, hv2⟩ : ∃ v, (rg r3 (i : Int)).2 = v := ⟨_, rfl⟩
                     obtain ⟨v3, hv3⟩ : ∃ v, (rg ri (i : Int)).1 = v := ⟨_, rfl⟩
                     obtain ⟨v4, hv4⟩ : ∃ v, (rg ri (i : Int)).2 = v := ⟨_, rfl⟩
                     rw [hv1] at n1
                     rw [hv2] at n2
                     rw [hv3] at n3
                     rw [hv4] at n4
                     first
                      |
                       have HWI := Lib.hid (show ∀ W : World, Calls Tryd.prog 23 #[.agg #[.int .i32 v1, .int .i32 v2], .agg #[.int .i32 v3, .int .i32 v4]] W fun e w' => e = .returned (.bool true) ∧ Below W.heap.size W w' from fun W => by
                        have h := within_any v1 v2 v3 v4 W
                        have h2 := HSUB.out rfl (i : Int)
                        have h3 : withinI (v1, v2) (v3, v4) = true := (within_iff _ _).2 (by unfold Sub at h2; rw [hv1, hv2, hv3, hv4] at h2; exact h2)
                        rw [h3] at h
                        exact h)
                       clear hv1 hv2 hv3 hv4 k6
                       go_upto_region 50 with fail
                       refine wp_region_ext (by kernel_rfl) (by kernel_rfl) ?_
                       repeat (go_big_quiet_step ((go_at_call 23; with_reducible exact Calls.extq (HWI.out _))))
                       refine wpQuiet_nil ?_
                       rintro _ ⟨x6, rfl⟩
                       go_wp2_with fail
                       go_roundw
                       case rel => exact ⟨i + 1, by omega, by go_num, HB6.out.trans (x6.h.mono hsz6)⟩
                       case measure => simp [intOf]; omega
                      |
                       clear hv1 hv2 hv3 hv4 k6
                       go_upto_region 50 with fail
                       refine wp_region_ext (by kernel_rfl) (by kernel_rfl) ?_
                       repeat (go_big_quiet_step (fail))
                       refine wpQuiet_nil ?_
                       rintro _ ⟨x6, rfl⟩
                       go_wp2_with fail
                       go_roundw
                       case rel => exact ⟨i + 1, by omega, by go_num, HB6.out.trans (x6.h.mono hsz6)⟩
                       case measure => simp [intOf]; omega
                    ·obtain rfl : i = 16 := by omega
                     have dl6 : decide ((16 : Int) < 16) = false := by decide
                     go_wp2_with fail
                     go_roundw
                     case rel => exact ⟨j + 1, by omega, by go_num, HVQ.out.trans (HB6.out.mono HVQ.out.size)⟩
                     case measure => simp [intOf]; omega
                 ·have hn3 : ((nl : Int) == 2) = false := beq_two hn2
                  have hn4 : decide ((nl : Int) = 2) = false := beq_two hn2
                  have hn5 : decide (nl = 2) = false := decide_eq_false hn2
                  have hn6 : (nl == 2) = false := by simpa using hn2
                  clear hsk
                  go_upto_region 48 with (go_at_call 22; refine (HIC2.out _).mono ?_; rintro e w' ⟨rfl, rfl⟩)
                  rcases c3 with _ | _
                  all_goals
                   go_loopw [199] (fun a199 wr => ∃ i : Nat, i ≤ 16 ∧ a199 = .int .i64 (i : Int) ∧ Below Q.heap.size Q wr) (fun a199 _ => 16 - (intOf a199).toNat)
                   case atStart => exact ⟨0, by omega, rfl, Below.refl _ _⟩
                   case round =>
                    obtain ⟨i, hi16, rfl, hb⟩ := hrel
                    obtain ⟨w6, hw6⟩ : ∃ w6 : World, w6 = wr := ⟨_, rfl⟩
                    subst hw6
                    have HB6 := Lib.hid hb
                    have HY6 := Lib.hid (HYQ.out.trans (hb.mono HYQ.out.size))
                    have hsz6 := hb.size
                    have k6 := KQ.out.keep hb
                    have hs0 := HY6.out.size
                    have l6b := k6.lt
                    clear hb
                    by_cases hlt6 : i < 16
                    ·have dl6 : decide ((i : Int) < 16) = true := decide_eq_true (by omega)
                     have dj2 : decide ((16 : Int) ≤ (i : Int)) = false := decide_eq_false (by omega)
                     have dj3 : (i : Int) < 16 := by omega
                     have n1 := k6.lo (k := i) (by rw [R3.out.len]; exact hlt6)
                     have n2 := k6.hi (k := i) (by rw [R3.out.len]; exact hlt6)
                     obtain ⟨n3, n4⟩ := range_cell (tr_range ict HY6.out ilt) RI.out.len hlt6
                     have n5 : w6.cell? ⟨b9, 1, none⟩ = _ := (HY6.out.cell (p := ⟨b9, 1, none⟩) lY9).trans r1
                     have l69 : b9 < w6.heap.size := by omega
                     have l6i : iq < w6.heap.size := by omega
                     obtain ⟨v1, hv1⟩ : ∃ v, (rg r3 (i : Int)).1 = v := ⟨_, rfl⟩
                     obtain ⟨v2, hv2⟩ : ∃ v, (rg r3 (i : Int)).2 = v := ⟨_, rfl⟩
                     obtain ⟨v3, hv3⟩ : ∃ v, (rg ri (i : Int)).1 = v := ⟨_, rfl⟩
                     obtain ⟨v4, hv4⟩ : ∃ v, (rg ri (i : Int)).2 = v := ⟨_, rfl⟩
                     rw [hv1] at n1
                     rw [hv2] at n2
                     rw [hv3] at n3
                     rw [hv4] at n4
                     first
                      |
                       have HWI := Lib.hid (show ∀ W : World, Calls Tryd.prog 23 #[.agg #[.int .i32 v1, .int .i32 v2], .agg #[.int .i32 v3, .int .i32 v4]] W fun e w' => e = .returned (.bool true) ∧ Below W.heap.size W w' from fun W => by
                        have h := within_any v1 v2 v3 v4 W
                        have h2 := HSUB.out rfl (i : Int)
                        have h3 : withinI (v1, v2) (v3, v4) = true := (within_iff _ _).2 (by unfold Sub at h2; rw [hv1, hv2, hv3, hv4] at h2; exact h2)
                        rw [h3] at h
                        exact h)
                       clear hv1 hv2 hv3 hv4 k6
                       go_upto_region 50 with fail
                       refine wp_region_ext (by kernel_rfl) (by kernel_rfl) ?_
                       repeat (go_big_quiet_step ((go_at_call 23; with_reducible exact Calls.extq (HWI.out _))))
                       refine wpQuiet_nil ?_
                       rintro _ ⟨x6, rfl⟩
                       go_wp2_with fail
                       go_roundw
                       case rel => exact ⟨i + 1, by omega, by go_num, HB6.out.trans (x6.h.mono hsz6)⟩
                       case measure => simp [intOf]; omega
                      |
                       clear hv1 hv2 hv3 hv4 k6
                       go_upto_region 50 with fail
                       refine wp_region_ext (by kernel_rfl) (by kernel_rfl) ?_
                       repeat (go_big_quiet_step (fail))
                       refine wpQuiet_nil ?_
                       rintro _ ⟨x6, rfl⟩
                       go_wp2_with fail
                       go_roundw
                       case rel => exact ⟨i + 1, by omega, by go_num, HB6.out.trans (x6.h.mono hsz6)⟩
                       case measure => simp [intOf]; omega
                    ·obtain rfl : i = 16 := by omega
                     have dl6 : decide ((16 : Int) < 16) = false := by decide
                     go_wp2_with fail
                     go_roundw
                     case rel => exact ⟨j + 1, by omega, by go_num, HVQ.out.trans (HB6.out.mono HVQ.out.size)⟩
                     case measure => simp [intOf]; omega
               ·have HSUB := Lib.hid (show true = true → SubR aft ri from fun _ => HS1.out hbr)
                by_cases h24 : op = 24
                ·have g24 : (op == 24) = true := beq_iff_eq.2 h24
                 have g24' : decide (op = 24) = true := decide_eq_true h24
                 clear h24 hbr
                 go_upto_region 48 with (first | (refine wpList_load_mid rfl _ _ rfl _ _ rfl (cellsR aft) _ rgQ Tryd.underlying27 rfl (hi3 AFT.out.len) ?_) | (refine wpList_store_row rfl 27 (.tmp 25) (.tmp 188) rfl b25 (cellsR aft).toArray rfl rfl 27 _ KQ.out (hi4 AFT.out.len) (hi6 AFT.out.len R3.out.len) (cellsR_one aft) ?_))
                 obtain ⟨Q2, hQ2⟩ : ∃ E, Q.setRow b25 (cellsR aft).toArray = E := ⟨_, rfl⟩
                 rw [hQ2]
                 have KQ2 := Lib.hid (show RBox Q2 b25 27 aft from hQ2 ▸ RBox.row KQ.out)
                 have HYQ2 := Lib.hid (show Below Y.heap.size Y Q2 from hQ2 ▸ below_setRow HYQ.out hYb _)
                 have HVQ2 := Lib.hid (show Below V5.heap.size V5 Q2 from hQ2 ▸ below_setRow HVQ.out hVb _)
                 clear hQ2
                 go_loopw [199] (fun a199 wr => ∃ i : Nat, i ≤ 16 ∧ a199 = .int .i64 (i : Int) ∧ Below Q2.heap.size Q2 wr) (fun a199 _ => 16 - (intOf a199).toNat)
                 case atStart => exact ⟨0, by omega, rfl, Below.refl _ _⟩
                 case round =>
                  obtain ⟨i, hi16, rfl, hb⟩ := hrel
                  obtain ⟨w6, hw6⟩ : ∃ w6 : World, w6 = wr := ⟨_, rfl⟩
                  subst hw6
                  have HB6 := Lib.hid hb
                  have HY6 := Lib.hid (HYQ2.out.trans (hb.mono HYQ2.out.size))
                  have hsz6 := hb.size
                  have k6 := KQ2.out.keep hb
                  have hs0 := HY6.out.size
                  have l6b := k6.lt
                  clear hb
                  by_cases hlt6 : i < 16
                  ·have dl6 : decide ((i : Int) < 16) = true := decide_eq_true (by omega)
                   have dj2 : decide ((16 : Int) ≤ (i : Int)) = false := decide_eq_false (by omega)
                   have dj3 : (i : Int) < 16 := by omega
                   have n1 := k6.lo (k := i) (by rw [AFT.out.len]; exact hlt6)
                   have n2 := k6.hi (k := i) (by rw [AFT.out.len]; exact hlt6)
                   obtain ⟨n3, n4⟩ := range_cell (tr_range ict HY6.out ilt) RI.out.len hlt6
                   have n5 : w6.cell? ⟨b9, 1, none⟩ = _ := (HY6.out.cell (p := ⟨b9, 1, none⟩) lY9).trans r1
                   have l69 : b9 < w6.heap.size := by omega
                   have l6i : iq < w6.heap.size := by omega
                   obtain ⟨v1, hv1⟩ : ∃ v, (rg aft (i : Int)).1 = v := ⟨_, rfl⟩
                   obtain ⟨v2, hv2⟩ : ∃ v, (rg aft (i : Int)).2 = v := ⟨_, rfl⟩
                   obtain ⟨v3, hv3⟩ : ∃ v, (rg ri (i : Int)).1 = v := ⟨_, rfl⟩
                   obtain ⟨v4, hv4⟩ : ∃ v, (rg ri (i : Int)).2 = v := ⟨_, rfl⟩
                   rw [hv1] at n1
                   rw [hv2] at n2
                   rw [hv3] at n3
                   rw [hv4] at n4
                   have HWI := Lib.hid (show ∀ W : World, Calls Tryd.prog 23 #[.agg #[.int .i32 v1, .int .i32 v2], .agg #[.int .i32 v3, .int .i32 v4]] W fun e w' => e = .returned (.bool true) ∧ Below W.heap.size W w' from fun W => by
                    have h := within_any v1 v2 v3 v4 W
                    have h2 := HSUB.out trivial (i : Int)
                    have h3 : withinI (v1, v2) (v3, v4) = true := (within_iff _ _).2 (by unfold Sub at h2; rw [hv1, hv2, hv3, hv4] at h2; exact h2)
                    rw [h3] at h
                    exact h)
                   clear hv1 hv2 hv3 hv4 k6
                   go_upto_region 50 with fail
                   refine wp_region_ext (by kernel_rfl) (by kernel_rfl) ?_
                   repeat (go_big_quiet_step ((go_at_call 23; with_reducible exact Calls.extq (HWI.out _))))
                   refine wpQuiet_nil ?_
                   rintro _ ⟨x6, rfl⟩
                   go_wp2_with fail
                   go_roundw
                   case rel => exact ⟨i + 1, by omega, by go_num, HB6.out.trans (x6.h.mono hsz6)⟩
                   case measure => simp [intOf]; omega
                  ·obtain rfl : i = 16 := by omega
                   have dl6 : decide ((16 : Int) < 16) = false := by decide
                   go_wp2_with fail
                   go_roundw
                   case rel => exact ⟨j + 1, by omega, by go_num, HVQ2.out.trans (HB6.out.mono HVQ2.out.size)⟩
                   case measure => simp [intOf]; omega
                ·have g24 : (op == 24) = false := beq_eq_false_iff_ne.2 h24
                 have g24' : decide (op = 24) = false := decide_eq_false h24
                 have HIC3 := Lib.hid (branch_no hbr h24)
                 clear h24 hbr
                 go_upto_region 48 with (first | (go_at_call 22; refine (HIC3.out _).mono ?_; rintro e w' ⟨rfl, rfl⟩) | (refine wpList_load_mid rfl _ _ rfl _ _ rfl (cellsR aft) _ rgQ Tryd.underlying27 rfl (hi3 AFT.out.len) ?_) | (refine wpList_store_row rfl 27 (.tmp 25) (.tmp 188) rfl b25 (cellsR aft).toArray rfl rfl 27 _ KQ.out (hi4 AFT.out.len) (hi6 AFT.out.len R3.out.len) (cellsR_one aft) ?_))
                 obtain ⟨Q2, hQ2⟩ : ∃ E, Q.setRow b25 (cellsR aft).toArray = E := ⟨_, rfl⟩
                 rw [hQ2]
                 have KQ2 := Lib.hid (show RBox Q2 b25 27 aft from hQ2 ▸ RBox.row KQ.out)
                 have HYQ2 := Lib.hid (show Below Y.heap.size Y Q2 from hQ2 ▸ below_setRow HYQ.out hYb _)
                 have HVQ2 := Lib.hid (show Below V5.heap.size V5 Q2 from hQ2 ▸ below_setRow HVQ.out hVb _)
                 clear hQ2
                 go_loopw [199] (fun a199 wr => ∃ i : Nat, i ≤ 16 ∧ a199 = .int .i64 (i : Int) ∧ Below Q2.heap.size Q2 wr) (fun a199 _ => 16 - (intOf a199).toNat)
                 case atStart => exact ⟨0, by omega, rfl, Below.refl _ _⟩
                 case round =>
                  obtain ⟨i, hi16, rfl, hb⟩ := hrel
                  obtain ⟨w6, hw6⟩ : ∃ w6 : World, w6 = wr := ⟨_, rfl⟩
                  subst hw6
                  have HB6 := Lib.hid hb
                  have HY6 := Lib.hid (HYQ2.out.trans (hb.mono HYQ2.out.size))
                  have hsz6 := hb.size
                  have k6 := KQ2.out.keep hb
                  have hs0 := HY6.out.size
                  have l6b := k6.lt
                  clear hb
                  by_cases hlt6 : i < 16
                  ·have dl6 : decide ((i : Int) < 16) = true := decide_eq_true (by omega)
                   have dj2 : decide ((16 : Int) ≤ (i : Int)) = false := decide_eq_false (by omega)
                   have dj3 : (i : Int) < 16 := by omega
                   have n1 := k6.lo (k := i) (by rw [AFT.out.len]; exact hlt6)
                   have n2 := k6.hi (k := i) (by rw [AFT.out.len]; exact hlt6)
                   obtain ⟨n3, n4⟩ := range_cell (tr_range ict HY6.out ilt) RI.out.len hlt6
                   have n5 : w6.cell? ⟨b9, 1, none⟩ = _ := (HY6.out.cell (p := ⟨b9, 1, none⟩) lY9).trans r1
                   have l69 : b9 < w6.heap.size := by omega
                   have l6i : iq < w6.heap.size := by omega
                   obtain ⟨v1, hv1⟩ : ∃ v, (rg aft (i : Int)).1 = v := ⟨_, rfl⟩
                   obtain ⟨v2, hv2⟩ : ∃ v, (rg aft (i : Int)).2 = v := ⟨_, rfl⟩
                   obtain ⟨v3, hv3⟩ : ∃ v, (rg ri (i : Int)).1 = v := ⟨_, rfl⟩
                   obtain ⟨v4, hv4⟩ : ∃ v, (rg ri (i : Int)).2 = v := ⟨_, rfl⟩
                   rw [hv1] at n1
                   rw [hv2] at n2
                   rw [hv3] at n3
                   rw [hv4] at n4
                   have HWI := Lib.hid (show ∀ W : World, Calls Tryd.prog 23 #[.agg #[.int .i32 v1, .int .i32 v2], .agg #[.int .i32 v3, .int .i32 v4]] W fun e w' => e = .returned (.bool true) ∧ Below W.heap.size W w' from fun W => by
                    have h := within_any v1 v2 v3 v4 W
                    have h2 := HSUB.out trivial (i : Int)
                    have h3 : withinI (v1, v2) (v3, v4) = true := (within_iff _ _).2 (by unfold Sub at h2; rw [hv1, hv2, hv3, hv4] at h2; exact h2)
                    rw [h3] at h
                    exact h)
                   clear hv1 hv2 hv3 hv4 k6
                   go_upto_region 50 with fail
                   refine wp_region_ext (by kernel_rfl) (by kernel_rfl) ?_
                   repeat (go_big_quiet_step ((go_at_call 23; with_reducible exact Calls.extq (HWI.out _))))
                   refine wpQuiet_nil ?_
                   rintro _ ⟨x6, rfl⟩
                   go_wp2_with fail
                   go_roundw
                   case rel => exact ⟨i + 1, by omega, by go_num, HB6.out.trans (x6.h.mono hsz6)⟩
                   case measure => simp [intOf]; omega
                  ·obtain rfl : i = 16 := by omega
                   have dl6 : decide ((16 : Int) < 16) = false := by decide
                   go_wp2_with fail
                   go_roundw
                   case rel => exact ⟨j + 1, by omega, by go_num, HVQ2.out.trans (HB6.out.mono HVQ2.out.size)⟩
                   case measure => simp [intOf]; omega
              ·obtain rfl : j = 2 := by omega
               have dl5 : decide ((2 : Int) < 2) = false := by decide
               go_wp2_with fail
               go_roundw
               case rel => exact ⟨k + 1, by omega, by go_num, HE55.out⟩
               case measure => simp [intOf]; omega
           ·obtain rfl : nl = k := by omega
            have dl4 : decide ((nl : Int) < (nl : Int)) = false := by simp
            go_wp2_with fail
            go_roundw
            case rel => exact ⟨b + 1, by omega, by go_num, HZ4.out⟩
            case measure => simp [intOf]; omega
      ·obtain rfl : gn = b := by omega
       have dl : decide ((gn : Int) < (gn : Int)) = false := by simp
       go_wp2_with fail
       go_ret
       exact ⟨rfl, BY.out.trans (HB3.out.mono BY.out.size)⟩

end Go.Proofs.YtebklpnkcicpjaaDoor


