/-
 What is proved here: what ValueSound returns.
-/
import Derived.Test.YtebklpnkcicpjaaDoorRlMp
import Derived.Test.YtebklpnkcicpjaaDoorRlSp
import Derived.Test.YtebklpnkcicpjaaDoorRlIn
import Derived.Test.YtebklpnkcicpjaaDoorRlBf
import Derived.Test.YtebklpnkcicpjaaDoorRbKc
import Derived.Deep.WholeRow
import Derived.Deep.QuietTactic
import Derived.BigQuiet
namespace Go.Proofs.YtebklpnkcicpjaaDoor
open Go.RowKit
set_option linter.unusedVariables false
set_option linter.unusedSimpArgs false

theorem sfn_any (x q : Int) (nb ib : Nat) (iv : Value) (il : List Int) (w0 W : World) (HI : I32s w0 iv il) (hl : il.length ≤ 100) (hb : Below w0.heap.size w0 W) (hnb : w0.heap.size ≤ nb) (hq0 : 0 ≤ q) (hq1 : q ≤ 1000000)
  (hn : W.heap[nb]? = some (.cells #[.int .i64 q] 3 (0, 0))) (hi : W.cell? ⟨ib, 0, none⟩ = some iv) (hlt : ib < W.heap.size) (hne : nb ≠ ib) :
  Calls Tryd.prog 29 #[.int .i64 x, .pointer (some ⟨nb, 0, none⟩), .pointer (some ⟨ib, 0, none⟩)] W fun e w' => (∃ v, W32 v ∧ e = .returned (.int .i32 v)) ∧ Fr (· = nb) W w' ∧ w'.heap[nb]? = some (.cells #[.int .i64 (q + 1)] 3 (0, 0)) := by
 obtain ⟨A, cap, rfl, h1, h2, h3⟩ := HI.at_
 have HWD := Lib.hid HI.wd
 have n0 : W.cell? ⟨nb, 0, none⟩ = some (.int .i64 q) := by simp [World.cell?, hn]
 have nf : W.frozen? ⟨nb, 0, none⟩ = false := by simp [World.frozen?, hn]
 have ln := lt_of_blk' hn
 have HN := Lib.hid hn
 have HF := Lib.hid (show Fr (· = nb) W (W.setCell ⟨nb, 0, none⟩ (.int .i64 (q + 1))) ∧ (W.setCell ⟨nb, 0, none⟩ (.int .i64 (q + 1))).heap[nb]? = some (.cells #[.int .i64 (q + 1)] 3 (0, 0)) from
  ⟨(Fr.refl (· = nb) W).set _ (.inl rfl), by rw [heap_setCell_same W nb 0 _ _ _ hn]; rfl⟩)
 have wq : IntKind.i64.wrap (q + 1) = q + 1 := IntWalk.i64_in _ (by omega)
 have wq2 : IntKind.i64.wrap (q + 1 - 1) = q := by rw [show q + 1 - 1 = q by omega]; exact IntWalk.i64_in _ (by omega)
 have wq3 : IntKind.i64.wrap q = q := IntWalk.i64_in _ (by omega)
 clear hn HI
 by_cases hgt : (il.length : Int) < q + 1
 ·have d := decide_eq_true hgt
  clear h3 hgt
  go_enter Tryd.func29, Tryd.ntmps29
  go_wp2
  go_ret
  exact ⟨⟨0, by unfold W32; omega, rfl⟩, HF.out⟩
 ·have d := decide_eq_false hgt
  obtain ⟨k, rfl⟩ : ∃ k : Nat, q = (k : Int) := ⟨q.toNat, by omega⟩
  obtain ⟨b, off, rfl, hbb, hc⟩ := h3 (by omega)
  have c0 : W.cell? ⟨b, off + k, none⟩ = some (.int .i32 (il.getD k 0)) := by rw [hb.cell (p := ⟨b, off + k, none⟩) hbb]; exact hc k (by omega)
  have hbn : nb ≠ b := by omega
  have HGT := Lib.hid (show k < il.length by omega)
  have g1 : (k : Int) < (il.length : Int) := by omega
  have g2 : decide ((il.length : Int) ≤ (k : Int)) = false := decide_eq_false (by omega)
  have lb : b < W.heap.size := by have := hb.size; omega
  have hv : W32 (il.getD k 0) := by
   have e : il.getD k 0 = il[k]'HGT.out := by simp [List.getD, List.getElem?_eq_getElem HGT.out]
   rw [e]
   exact HWD.out _ (List.getElem_mem _)
  obtain ⟨v, hve⟩ : ∃ v, il.getD k 0 = v := ⟨_, rfl⟩
  rw [hve] at c0 hv
  clear h3 hc hgt hve
  go_enter Tryd.func29, Tryd.ntmps29
  go_wp2
  go_ret
  exact ⟨⟨v, hv, rfl⟩, HF.out⟩

def RunCnt (nb : Nat) (q : Int) (W : World) : Prop := ∃ q', 0 ≤ q' ∧ q' ≤ q + 1 ∧ W.heap[nb]? = some (.cells #[.int .i64 q'] 3 (0, 0))
theorem sound_port {w0 w : World} {nb ib : Nat} {q : Int} {iv : Value} {il : List Int} (HI : I32s w0 iv il) (hl : il.length ≤ 100) (hb : Below w0.heap.size w0 w) (hnb : w0.heap.size ≤ nb) (hq0 : 0 ≤ q) (hq1 : q ≤ 1000000)
  (hn : w.heap[nb]? = some (.cells #[.int .i64 q] 3 (0, 0))) (hi : w.cell? ⟨ib, 0, none⟩ = some iv) (hlt : ib < w.heap.size) (hne : nb ≠ ib) :
  Port w (.func (.func 29) #[] #[.pointer (some ⟨nb, 0, none⟩), .pointer (some ⟨ib, 0, none⟩)]) (· = nb) (RunCnt nb q) := by
 refine ⟨fun k hk => by have h9 : k = nb := hk; have := lt_of_blk' hn; omega, fun S W W' ⟨q', h1, h2, h3⟩ f hs => ⟨q', h1, h2, (f.block nb (lt_of_blk' h3) (hs nb rfl)).trans h3⟩, .inr ⟨_, _, rfl, fun _ _ => by kernel_rfl, fun _ => by kernel_rfl, fun x W hW => ?_⟩⟩
 refine (sfn_any x q nb ib iv il w0 W HI hl (hb.trans (hW.mono hb.size)) hnb hq0 hq1 ((hW.block nb (lt_of_blk' hn)).trans hn) ((hW.cell (p := ⟨ib, 0, none⟩) hlt).trans hi) (Nat.lt_of_lt_of_le hlt hW.size) hne).mono fun e w' ⟨⟨v, h1, h2⟩, h3, h4⟩ => ⟨v, h1, h2, h3, q + 1, by omega, Int.le_refl _, h4⟩
structure RunV (X wr : World) (sb nb mb : Nat) (dv sv : Value) (DL : List (Int × Int)) (i : Nat) (s : St) (ml ml2 : List Int) : Prop where
 j : Job wr sb s ml sv ml2
 d : s.d = dv
 bx : Below X.heap.size X wr
 n : ∃ q : Int, 0 ≤ q ∧ q ≤ (i : Int) ∧ wr.heap[nb]? = some (.cells #[.int .i64 q] 3 (0, 0))
 m : Pm wr mb (pmOf DL)
theorem RunV.later {X wr w' : World} {sb nb mb : Nat} {dv sv : Value} {DL : List (Int × Int)} {i : Nat} {s : St} {ml ml2 : List Int} (h : RunV X wr sb nb mb dv sv DL i s ml ml2) (b : Below wr.heap.size wr w') : RunV X w' sb nb mb dv sv DL i s ml ml2 := by
 obtain ⟨q, q1, q2, q3⟩ := h.n
 exact ⟨h.j.later b, h.d, h.bx.trans (b.mono h.bx.size), ⟨q, q1, q2, (b.block nb (lt_of_blk' q3)).trans q3⟩, h.m.below b h.m.lt⟩
theorem RunV.step {X wr W5 : World} {sb nb mb : Nat} {dv sv : Value} {DL : List (Int × Int)} {i : Nat} {s s' : St} {ml ml2 ml' ml2' : List Int} {I : Ins} {lk nx q : Int} (h : RunV X wr sb nb mb dv sv DL i s ml ml2) (hjb : ∀ k, Jb sb dv sv k → X.heap.size ≤ k ∧ k ≠ nb ∧ k ≠ mb) (hnb : X.heap.size ≤ nb) (hnm : nb ≠ mb)
  (q1 : 0 ≤ q) (q2 : q ≤ (i : Int)) (q3 : wr.heap[nb]? = some (.cells #[.int .i64 q] 3 (0, 0))) (hok : StepOk I lk s ml ml2 nx s' ml' ml2') (hJ : Job W5 sb { s' with pc := nx } ml' sv ml2') (hf : Fr (fun k => Jb sb s.d sv k ∨ k = nb) wr W5) (hor : Fr (Jb sb s.d sv) wr W5 ∨ RunCnt nb q W5) :
  RunV X W5 sb nb mb dv sv DL (i + 1) { s' with pc := nx } ml' ml2' := by
 have hb : Below X.heap.size wr W5 := hf.below h.bx.size (fun k hk => by
  rcases hk with hk | hk
  ·rw [h.d] at hk; exact (hjb k hk).1
  ·omega)
 refine ⟨hJ, hok.dat.trans h.d, h.bx.trans hb, ?_, h.m.keep (hf.block mb h.m.lt (fun hk => ?_))⟩
 ·rcases hor with h1 | ⟨q', h1, h2, h3⟩
  ·refine ⟨q, q1, by omega, (h1.block nb (lt_of_blk' q3) (fun hk => ?_)).trans q3⟩
   rw [h.d] at hk
   exact (hjb nb hk).2.1 rfl
  ·exact ⟨q', h1, by omega, h3⟩
 ·rcases hk with hk | hk
  ·rw [h.d] at hk
   exact (hjb mb hk).2.2 rfl
  ·exact hnm hk.symm
theorem stc_len {s : St} (h : s.r.length = 16) : s.cells.toList.length = 20 := by simp [St.cells, h]
theorem tr_range {w w' : World} {b o : Nat} {cs : List Value} (h : w.rangeAt b o cs) (hb : Below w.heap.size w w') (hl : b < w.heap.size) : w'.rangeAt b o cs := fun j v hv => (hb.cell (p := ⟨b, o + j, none⟩) hl).trans (h j v hv)
theorem ints_cell {w : World} {A : Option Addr} {m cap : Nat} {l : List Int} (h : Ints w (.slice A m cap) l) {k : Nat} (hk : k < m) : ∃ q off, A = some ⟨q, off, none⟩ ∧ q < w.heap.size ∧ w.cell? ⟨q, off + k, none⟩ = some (.int .i64 (l.getD k 0)) ∧ l.length = m := by
 obtain ⟨A', cap', hv, _, _, h4⟩ := h
 cases hv
 obtain ⟨b, off, rfl, hlt, hc⟩ := h4 (by omega)
 refine ⟨b, off, rfl, hlt, ?_, rfl⟩
 rw [hc k hk]
set_option maxRecDepth 100000 in
set_option maxHeartbeats 32000000 in
theorem vsound_any (AZ : AnlSpec) (cv ev : Value) (sh lk : Int) (n : Nat) (cd : Nat → Int) (ents : List Ent) (task : Int) (dv sv0 iv : Value) (dl sl il : List Int) (w : World) (T : Tab w) (OT : OpTab w) (HW : WordsN w cv n cd) (HE : Ents w ev ents) (HD : I32s w dv dl) (HS : I32s w sv0 sl) (HI : I32s w iv il) :
  Calls Tryd.prog 8 #[.agg #[cv, ev, .int .i64 sh, .int .i64 lk], .int .i64 task, dv, sv0, iv] w fun e w' => e = .returned (.bool true) ∧ Below w.heap.size w w' := by
 obtain ⟨dA, dcap0, hdv0, hd1, hd2, -⟩ := HD.at_
 obtain ⟨sA, scap0, hsv0, hs1, hs2, -⟩ := HS.at_
 obtain ⟨iA, icap0, hiv0, hi1, hi2, -⟩ := HI.at_
 subst hdv0 hsv0 hiv0
 have hd63 := max_63 hd2
 have hs63 := max_63 hs2
 have hi63 := max_63 hi2
 obtain ⟨V, hV, k0, k1, bV, sV⟩ := two_new w #[cv, ev, .int .i64 sh, .int .i64 lk] #[.slice iA il.length icap0] 38 28
 have KIN := Lib.hid k1
 have HENT := Lib.hid (HE.below bV)
 have HOV := Lib.hid (OT.below bV)
 have HDV := Lib.hid (HD.below bV)
 have HSV := Lib.hid (HS.below bV)
 have HIV := Lib.hid (HI.below bV)
 have a0 : V.cell? ⟨w.heap.size, 0, none⟩ = some cv := by simp [World.cell?, k0]
 have a1 : V.cell? ⟨w.heap.size, 1, none⟩ = some ev := by simp [World.cell?, k0]
 have a2 : V.cell? ⟨w.heap.size, 2, none⟩ = some (.int .i64 sh) := by simp [World.cell?, k0]
 have a3 : V.cell? ⟨w.heap.size, 3, none⟩ = some (.int .i64 lk) := by simp [World.cell?, k0]
 have l0 : w.heap.size < V.heap.size := by omega
 have HAW := Lib.hid (vawake_any AZ V (T.below bV))
 have HWV := Lib.hid (HW.belowG bV)
 have HEV := Lib.hid (HE.below bV)
 have HTV := Lib.hid (T.below bV)
 have BV := Lib.hid bV
 clear HW HE T OT HD HS HI bV sV k0 k1
 go_enter Tryd.func8, Tryd.ntmps8
 go_upto_region 3 with (go_at_call 9; refine HAW.out.mono ?_; rintro e W1 ⟨rfl, hb1⟩)
 have e0 : W1.cell? ⟨w.heap.size, 0, none⟩ = _ := (hb1.cell (p := ⟨w.heap.size, 0, none⟩) l0).trans a0
 have e1 : W1.cell? ⟨w.heap.size, 1, none⟩ = _ := (hb1.cell (p := ⟨w.heap.size, 1, none⟩) l0).trans a1
 have e2 : W1.cell? ⟨w.heap.size, 2, none⟩ = _ := (hb1.cell (p := ⟨w.heap.size, 2, none⟩) l0).trans a2
 have e3 : W1.cell? ⟨w.heap.size, 3, none⟩ = _ := (hb1.cell (p := ⟨w.heap.size, 3, none⟩) l0).trans a3
 have l1 : w.heap.size < W1.heap.size := by have := hb1.size; omega
 have HGA := Lib.hid (graph_any cv ev sh lk n cd ents task W1 (HTV.out.below hb1) (HWV.out.belowG hb1) (HEV.out.below hb1))
 have B1 := Lib.hid (BV.out.trans (hb1.mono BV.out.size))
 have HT1 := Lib.hid (HTV.out.below hb1)
 have HV1 := Lib.hid hb1
 clear hb1 hV a0 a1 a2 a3 l0 HAW HWV HEV HTV BV
 go_upto_region 4 with (go_at_call 15; refine HGA.out.mono ?_; rintro e W2 ⟨h, hb2⟩; rcases h with rfl | ⟨bv, pv, kt, G, P, rfl, rfl, hG⟩ <;> try (obtain ⟨GA, gcap, hbv, -, -, -⟩ := id hG.bks; obtain ⟨PA, pcap, hpv, -, -, -⟩ := id hG.lls; obtain ⟨gn, hgn⟩ : ∃ m, G.length = m := ⟨_, rfl⟩; obtain ⟨pn, hpn⟩ : ∃ m, P.length = m := ⟨_, rfl⟩; rw [hgn] at hbv; rw [hpn] at hpv; subst hbv hpv))
 ·have B2 := (B1.out.trans (hb2.mono B1.out.size))
  go_wp2_with fail
  go_ret
  exact ⟨rfl, B2.alloc B2.size _⟩
 have HGN := Lib.hid hgn
 obtain ⟨b7, hb7⟩ : ∃ b, W2.heap.size = b := ⟨_, rfl⟩
 obtain ⟨X, hX⟩ : ∃ X, W2.alloc (.cells #[.slice GA gn gcap, .slice PA pn pcap] 48) = X := ⟨_, rfl⟩
 rw [hX]
 have bX : Below W2.heap.size W2 X := hX ▸ (Below.refl _ _).alloc (Nat.le_refl _) _
 have kX : X.heap[b7]? = some (.cells #[.slice GA gn gcap, .slice PA pn pcap] 48 (0, 0)) := by rw [← hb7, ← hX]; exact heap_alloc_new _ _
 rw [hb7]
 have b1X : Below W1.heap.size W1 X := hb2.trans (bX.mono hb2.size)
 have x0 : X.cell? ⟨w.heap.size, 0, none⟩ = _ := (b1X.cell (p := ⟨w.heap.size, 0, none⟩) l1).trans e0
 have x1 : X.cell? ⟨w.heap.size, 1, none⟩ = _ := (b1X.cell (p := ⟨w.heap.size, 1, none⟩) l1).trans e1
 have x2 : X.cell? ⟨w.heap.size, 2, none⟩ = _ := (b1X.cell (p := ⟨w.heap.size, 2, none⟩) l1).trans e2
 have x3 : X.cell? ⟨w.heap.size, 3, none⟩ = _ := (b1X.cell (p := ⟨w.heap.size, 3, none⟩) l1).trans e3
 have g0 : X.cell? ⟨b7, 0, none⟩ = some (.slice GA gn gcap) := by simp [World.cell?, kX]
 have g1 : X.cell? ⟨b7, 1, none⟩ = some (.slice PA pn pcap) := by simp [World.cell?, kX]
 have lX : w.heap.size < X.heap.size := by have := b1X.size; omega
 have lX7 : b7 < X.heap.size := lt_of_blk' kX
 have BX := Lib.hid (B1.out.trans (b1X.mono B1.out.size))
 have HTX := Lib.hid (HT1.out.below b1X)
 have HVX := Lib.hid (HV1.out.trans (b1X.mono HV1.out.size))
 have HGX := Lib.hid (hG.below bX)
 have HAZ := Lib.hid (AZ cv ev (.slice GA gn gcap) (.slice PA pn pcap) sh lk n cd G P X HTX.out HGX.out.wd HGX.out.bks HGX.out.lls HGX.out.val HGX.out.pos HGX.out.len HGX.out.ok)
 have hgn3 : gn ≤ 1000 := by rw [← hgn]; exact HGX.out.len
 have hgn0 : 0 < gn := by rw [← hgn]; exact HGX.out.pos
 clear hX kX bX b1X hb7 hb2 e0 e1 e2 e3 l1 hG HGA HT1 B1 hgn hpn
 have kin := (HVX.out.block _ (lt_of_blk' KIN.out)).trans KIN.out
 have x4 : X.cell? ⟨w.heap.size + 1, 0, none⟩ = some (.slice iA il.length icap0) := by simp [World.cell?, kin]
 have lXi : w.heap.size + 1 < X.heap.size := lt_of_blk' kin
 clear kin
 by_cases c1 : (512 : Int) < (dl.length : Int)
 case pos =>
  have g9 := decide_eq_true c1
  have g9n : decide (512 < dl.length) = true := decide_eq_true (by omega)
  clear c1
  go_wp2_with fail
  go_ret
  exact ⟨rfl, BX.out⟩
 have g9 := decide_eq_false c1
 have g9n : decide (512 < dl.length) = false := decide_eq_false (by omega)
 clear c1
 by_cases c2 : (64 : Int) < (sl.length : Int)
 case pos =>
  have g8 := decide_eq_true c2
  have g8n : decide (64 < sl.length) = true := decide_eq_true (by omega)
  clear c2
  go_wp2_with fail
  go_ret
  exact ⟨rfl, BX.out⟩
 have g8 := decide_eq_false c2
 have g8n : decide (64 < sl.length) = false := decide_eq_false (by omega)
 clear c2
 by_cases c3 : (40 : Int) < (il.length : Int)
 case pos =>
  have g7 := decide_eq_true c3
  have g7n : decide (40 < il.length) = true := decide_eq_true (by omega)
  clear c3
  go_wp2_with fail
  go_ret
  exact ⟨rfl, BX.out⟩
 have hil : il.length ≤ 100 := by omega
 have g7 := decide_eq_false c3
 have g7n : decide (40 < il.length) = false := decide_eq_false (by omega)
 clear c3
 go_upto_region 7 with (go_at_call 16; refine HAZ.out.mono ?_; rintro e W3 ⟨⟨s, rv, iv, dv, hE, rfl, hR, hD, hN⟩, hb3⟩; have FX := Lib.hid (an_fx HGX.out.pos HGX.out.ok hE); obtain ⟨⟨RA, rcap, hrv, -, -, -⟩, ⟨IA, icap, hiv, -, -, -⟩⟩ := id hR; obtain ⟨DA, dcap, hdv, -⟩ := id hD; obtain ⟨dn, hdn⟩ : ∃ m, (deadK (absOf cd G) s G.length).length = m := ⟨_, rfl⟩; rw [hdn] at hdv; rw [FX.out.asi.l1, HGN.out] at hrv; rw [FX.out.asi.l2, HGN.out] at hiv; subst hrv hiv hdv)
 have HDN := Lib.hid hdn
 obtain ⟨b9, hb9⟩ : ∃ b, W3.heap.size = b := ⟨_, rfl⟩
 obtain ⟨Y, hY⟩ : ∃ Y, W3.alloc (.cells #[.slice RA gn rcap, .slice IA gn icap, .slice DA dn dcap] 55) = Y := ⟨_, rfl⟩
 rw [hY]
 have bY : Below W3.heap.size W3 Y := hY ▸ (Below.refl _ _).alloc (Nat.le_refl _) _
 have kY : Y.heap[b9]? = some (.cells #[.slice RA gn rcap, .slice IA gn icap, .slice DA dn dcap] 55 (0, 0)) := by rw [← hb9, ← hY]; exact heap_alloc_new _ _
 rw [hb9]
 have bXY : Below X.heap.size X Y := hb3.trans (bY.mono hb3.size)
 have y0 : Y.cell? ⟨w.heap.size, 0, none⟩ = _ := (bXY.cell (p := ⟨w.heap.size, 0, none⟩) lX).trans x0
 have y1 : Y.cell? ⟨w.heap.size, 1, none⟩ = _ := (bXY.cell (p := ⟨w.heap.size, 1, none⟩) lX).trans x1
 have y2 : Y.cell? ⟨w.heap.size, 2, none⟩ = _ := (bXY.cell (p := ⟨w.heap.size, 2, none⟩) lX).trans x2
 have y3 : Y.cell? ⟨w.heap.size, 3, none⟩ = _ := (bXY.cell (p := ⟨w.heap.size, 3, none⟩) lX).trans x3
 have h0 : Y.cell? ⟨b7, 0, none⟩ = _ := (bXY.cell (p := ⟨b7, 0, none⟩) lX7).trans g0
 have h1 : Y.cell? ⟨b7, 1, none⟩ = _ := (bXY.cell (p := ⟨b7, 1, none⟩) lX7).trans g1
 have r0 : Y.cell? ⟨b9, 0, none⟩ = some (.slice RA gn rcap) := by simp [World.cell?, kY]
 have r1 : Y.cell? ⟨b9, 1, none⟩ = some (.slice IA gn icap) := by simp [World.cell?, kY]
 have r2 : Y.cell? ⟨b9, 2, none⟩ = some (.slice DA dn dcap) := by simp [World.cell?, kY]
 have lY : w.heap.size < Y.heap.size := by have := bXY.size; omega
 have lY7 : b7 < Y.heap.size := by have := bXY.size; omega
 have lY9 : b9 < Y.heap.size := lt_of_blk' kY
 have BY := Lib.hid (BX.out.trans (bXY.mono BX.out.size))
 have HTY := Lib.hid (HTX.out.below bXY)
 have HVY := Lib.hid (HVX.out.trans (bXY.mono HVX.out.size))
 have HGY := Lib.hid (HGX.out.below bXY)
 have HRY := Lib.hid (hR.below bY)
 have HDY := Lib.hid (hD.below bY)
 have HE := Lib.hid hE
 have HNV := Lib.hid hN
 have d1 : ((gn : Int) != (gn : Int)) = false := by simp
 clear hY kY bY bXY hb9 hb3 x0 x1 x2 x3 g0 g1 lX lX7 hR hD hE hN HGX HTX BX HAZ hdn
 clear x4 g9 g9n g8 g8n g7 g7n lXi
 obtain ⟨e, D, L, hen, hGI, hstD, hLL, hGG⟩ := HGY.out.run
 have hda := HGY.out.gd.da e (List.mem_of_getElem? hen)
 have hsb := HGY.out.gd.shB
 have hent := HENT.out.below HVY.out
 have HNW := Lib.hid (new_any cv ev sh lk ents kt e Y hent hen hda.1 hda.2)
 obtain ⟨zn, hzn⟩ : ∃ zn, e.da.toNat = zn := ⟨_, rfl⟩
 rw [hzn] at HNW
 have hzn2 : zn ≤ 512 := by omega
 obtain ⟨st, hste⟩ : ∃ st, e.st = st := ⟨_, rfl⟩
 rw [hste] at HNW hGI hstD hLL
 have HGI := Lib.hid hGI
 have HSTD := Lib.hid hstD
 have HLL := Lib.hid hLL
 have HGG := Lib.hid hGG
 have HEN := Lib.hid hen
 have HSTE := Lib.hid hste
 clear hen hGI hstD hLL hGG hda hent hzn hste
 go_upto_region 8 with (first | (go_at_call 28; refine HNW.out.mono ?_; rintro e' W4 ⟨⟨g, rfl, hgX, hrow⟩, hb4⟩) | (refine wpList_store_row rfl 34 (.tmp 15) (.tmp 64) rfl W4.heap.size #[.int .i64 st, .int .i32 0, .int .i32 0, .int .i32 0, .int .i32 0, .int .i32 0, .int .i32 0, .int .i32 0, .int .i32 0, .int .i32 0, .int .i32 0, .int .i32 0, .int .i32 0, .int .i32 0, .int .i32 0, .int .i32 0, .int .i32 0, .slice (some ⟨g, 0, none⟩) zn zn, .bool false, .int .i64 (-1)] rfl rfl 34 _ (heap_alloc_new _ _) (by kernel_rfl) rfl (by simp [Value.oneCell']) ?_))
 rw [World.setRow_alloc_new]
 obtain ⟨sb, hsbe⟩ : ∃ sb, W4.heap.size = sb := ⟨_, rfl⟩
 obtain ⟨N, hN⟩ : ∃ N, W4.alloc (.cells #[.int .i64 st, .int .i32 0, .int .i32 0, .int .i32 0, .int .i32 0, .int .i32 0, .int .i32 0, .int .i32 0, .int .i32 0, .int .i32 0, .int .i32 0, .int .i32 0, .int .i32 0, .int .i32 0, .int .i32 0, .int .i32 0, .int .i32 0, .slice (some ⟨g, 0, none⟩) zn zn, .bool false, .int .i64 (-1)] 34) = N := ⟨_, rfl⟩
 have bN : Below W4.heap.size W4 N := hN ▸ (Below.refl _ _).alloc (Nat.le_refl _) _
 have kN : N.heap[W4.heap.size]? = some (.cells #[.int .i64 st, .int .i32 0, .int .i32 0, .int .i32 0, .int .i32 0, .int .i32 0, .int .i32 0, .int .i32 0, .int .i32 0, .int .i32 0, .int .i32 0, .int .i32 0, .int .i32 0, .int .i32 0, .int .i32 0, .int .i32 0, .int .i32 0, .slice (some ⟨g, 0, none⟩) zn zn, .bool false, .int .i64 (-1)] 34) := hN ▸ heap_alloc_new _ _
 rw [hN]
 rw [hsbe] at kN ⊢
 have hs4 := hb4.size
 have hYN : Below Y.heap.size Y N := hb4.trans (bN.mono hs4)
 have BYN := Lib.hid hYN
 have HRN := Lib.hid (ownsRow_below hrow bN)
 have KN := Lib.hid kN
 have hgN : g < N.heap.size := (HRN.out.lt g rfl).2
 have hsbN : sb < N.heap.size := lt_of_blk' kN
 have hsbY : Y.heap.size ≤ sb := by omega
 have n17 : N.cell? ⟨sb, 17, none⟩ = some (.slice (some ⟨g, 0, none⟩) zn zn) := by simp [World.cell?, kN]
 have n2 : N.cell? ⟨w.heap.size, 2, none⟩ = _ := (hYN.cell (p := ⟨w.heap.size, 2, none⟩) lY).trans y2
 have nh0 : N.cell? ⟨b7, 0, none⟩ = _ := (hYN.cell (p := ⟨b7, 0, none⟩) lY7).trans h0
 have nr0 : N.cell? ⟨b9, 0, none⟩ = _ := (hYN.cell (p := ⟨b9, 0, none⟩) lY9).trans r0
 have nr1 : N.cell? ⟨b9, 1, none⟩ = _ := (hYN.cell (p := ⟨b9, 1, none⟩) lY9).trans r1
 have nr2 : N.cell? ⟨b9, 2, none⟩ = _ := (hYN.cell (p := ⟨b9, 2, none⟩) lY9).trans r2
 have lN : w.heap.size < N.heap.size := by have := hYN.size; omega
 have lN7 : b7 < N.heap.size := by have := hYN.size; omega
 have lN9 : b9 < N.heap.size := by have := hYN.size; omega
 clear hN bN kN hb4 hYN hrow hsbe HNW hs4
 go_upto_region 10 with fail
 clear nr0 nr1 nh0 d1
 go_upto_region 11 with (refine wpList_copy_words rfl (.tmp 91) (.tmp 92) rfl g zn zn (List.replicate zn 0) dl _ rfl rfl HRN.out (fun x hx => by rw [(List.mem_replicate.1 hx).2]; unfold W32; omega) (HDV.out.below (HVY.out.trans (BYN.out.mono HVY.out.size))) ?_; intro Z ml kk hml hmw hrz hfz)
 obtain ⟨sn, rfl⟩ : ∃ sn : Nat, sh = (sn : Int) := ⟨sh.toNat, by omega⟩
 have hsn : sn ≤ 64 := by omega
 have HFZ := Lib.hid hfz
 have HRZ := Lib.hid hrz
 have hgY : g ≠ w.heap.size := by omega
 have z2 : Z.cell? ⟨w.heap.size, 2, none⟩ = some (.int .i64 (sn : Int)) := (hfz.cell 2 lN (fun h9 => hgY h9.symm)).trans n2
 have hmn : ml.length = zn := by rw [hml]; simp
 have HMN := Lib.hid hmn
 have HMW := Lib.hid hmw
 obtain ⟨i1, hi, hz0, hz1, hz2⟩ := info_parts infoW32
 have hr := run_make (P := Tryd.prog) Z 28 21 i1 _ Tryd.underlying28 hi hz0 .i64 .i64 (sn : Int) (sn : Int) (by omega) (Int.le_refl _) (by rw [hz2]; omega) (by omega)
 rw [hz1, Int.toNat_natCast] at hr
 obtain ⟨Z1, hZ1⟩ : ∃ Z1, Z.alloc (.cells (madeCells (Value.int .i32 0).cells (sn * 1)) 21) = Z1 := ⟨_, rfl⟩
 have bZ1 : Below Z.heap.size Z Z1 := hZ1 ▸ ((Below.refl _ _).alloc (Nat.le_refl _) _)
 have HRO := Lib.hid (show Z1.ownsRow 0 21 1 (.slice (some ⟨Z.heap.size, 0, none⟩) sn sn) sn (i32s (List.replicate sn 0)) from by rw [← hZ1]; exact made_row Z sn (by omega))
 rw [hZ1] at hr
 have sZ1 : Z.heap.size < Z1.heap.size := (HRO.out.lt _ rfl).2
 obtain ⟨wb, hwb⟩ : ∃ wb, Z.heap.size = wb := ⟨_, rfl⟩
 rw [hwb] at hr HRO sZ1
 have HWB := Lib.hid hwb
 have BZ1 := Lib.hid bZ1
 have HYZ := Lib.hid (BYN.out.trans (HFZ.out.below (B := Y.heap.size) BYN.out.size (fun q hq => by have h8 : q = g := hq; omega)))
 have HYZ1 := Lib.hid (HYZ.out.trans (bZ1.mono HYZ.out.size))
 have hmx : max (sn : Int) 0 = (sn : Int) := by omega
 have hmx2 : decide ((sn : Int) < 0) = false := decide_eq_false (by omega)
 clear hZ1 bZ1 hwb hz0 hz1 hz2 hi hfz hrz hmw hml hmn n17 n2
 go_upto_region 12 with fail
 clear hr z2 hmx hmx2
 go_upto_region 13 with (refine wpList_copy_words rfl (.tmp 98) (.tmp 99) rfl wb sn sn (List.replicate sn 0) sl _ rfl rfl HRO.out (fun x hx => by rw [(List.mem_replicate.1 hx).2]; unfold W32; omega) (HSV.out.below (HVY.out.trans (HYZ1.out.mono HVY.out.size))) ?_; intro Z2 ml2 kk2 hml2 hmw2 hrz2 hfz2)
 go_upto_region 14 with fail
 obtain ⟨nb, hnbe⟩ : ∃ nb, Z2.heap.size = nb := ⟨_, rfl⟩
 obtain ⟨Q, hQ⟩ : ∃ Q, Z2.alloc (.cells #[.int .i64 0] 3) = Q := ⟨_, rfl⟩
 have bQ : Below Z2.heap.size Z2 Q := hQ ▸ (Below.refl _ _).alloc (Nat.le_refl _) _
 have kNb : Q.heap[Z2.heap.size]? = some (.cells #[.int .i64 0] 3) := hQ ▸ heap_alloc_new _ _
 have hNZ := HFZ.out.size
 have hZZ := BZ1.out.size
 have hZ12 := hfz2.size
 have hwbg : wb ≠ g := by have := HWB.out; omega
 have hwbN : N.heap.size ≤ wb := by have := HWB.out; omega
 have HNQ := Lib.hid (show Fr (· = g) N Q from (HFZ.out.since (S' := fun _ => False) (Fr.of BZ1.out) (fun k hk => hk.elim)).since hfz2 (fun k hk => .inr (by have h8 : k = wb := hk; omega)) |>.trans (Fr.of bQ))
 have HJQ := Lib.hid (show Job Q sb ⟨st, List.replicate 16 0, .slice (some ⟨g, 0, none⟩) zn zn, false, -1⟩ ml (.slice (some ⟨wb, 0, none⟩) sn sn) ml2 from
  ⟨⟨(HNQ.out.block sb hsbN (fun h9 => by
    have h8 : sb = g := h9
    rw [h8] at KN
    rcases HRN.out.2 with ⟨h, _⟩ | ⟨g', cap', cur, hv, _, hg', _⟩
    ·cases h
    ·cases hv; rw [KN.out] at hg'; simp at hg')).trans (KN.out.trans (by simp [St.cells, List.replicate])), by simp, fun x hx => by rw [(List.mem_replicate.1 hx).2]; unfold W32; omega⟩,
   by rw [HMN.out]; exact ownsRow_below ((hfz2.own (ownsRow_below HRZ.out BZ1.out) (fun q hq h9 => by have h8 : q = wb := h9; simp [Value.ownBlock] at hq; omega))) bQ,
   by rw [hml2, List.length_replicate]; exact ownsRow_below hrz2 bQ,
   fun q hq h9 => by simp only [Value.ownBlock, Option.some.injEq] at hq h9; omega, HMW.out, hmw2, by rw [HMN.out]; omega, by rw [hml2, List.length_replicate]; omega⟩)
 have HYQ := Lib.hid (BYN.out.trans (HNQ.out.below (B := Y.heap.size) BYN.out.size (fun q hq => by have h8 : q = g := hq; omega)))
 have KNB := Lib.hid kNb
 rw [hQ]
 rw [hnbe] at KNB ⊢
 have hwbn : wb < nb := by omega
 have HQS := Lib.hid (show Q.heap.size = nb + 1 by rw [← hQ, ← hnbe]; simp)
 have lnQ : nb < Q.heap.size := by have := HQS.out; omega
 clear hQ kNb bQ hml2 hmw2 hrz2 hfz2 hNZ hZZ hZ12 hnbe
 have q2 : Q.cell? ⟨b9, 2, none⟩ = _ := (HYQ.out.cell (p := ⟨b9, 2, none⟩) lY9).trans r2
 have lQ9 : b9 < Q.heap.size := by have := HYQ.out.size; omega
 obtain ⟨mb, hmb⟩ : ∃ m, Q.heap.size = m := ⟨_, rfl⟩
 obtain ⟨M, hM⟩ : ∃ M, Q.alloc (.map #[] 0) = M := ⟨_, rfl⟩
 have hmm := @run_makeMap Tryd.prog
 go_upto_region 16 with fail
 try rw [hM]
 try rw [hmb]
 have bM : Below Q.heap.size Q M := hM ▸ (Below.refl _ _).alloc (Nat.le_refl _) _
 have PMH := Lib.hid (show Pm M mb (pmOf []) by rw [← hM, ← hmb, pmOf_nil]; exact Pm.made Q)
 have HYM := Lib.hid (HYQ.out.trans (bM.mono HYQ.out.size))
 have HJM := Lib.hid (HJQ.out.later bM)
 have KNM := Lib.hid ((bM.block nb lnQ).trans KNB.out)
 have lM := PMH.out.lt
 have hmn : nb < mb := by have := HQS.out; omega
 have HMB := Lib.hid (show Q.heap.size ≤ mb by omega)
 have m2 : M.cell? ⟨b9, 2, none⟩ = _ := (bM.cell (p := ⟨b9, 2, none⟩) lQ9).trans q2
 have lM9 : b9 < M.heap.size := by have := bM.size; omega
 have hsM := HYM.out.size
 clear hM hmb hmm bM q2
 obtain ⟨DL, hDL⟩ : ∃ L, deadK (absOf cd G) s G.length = L := ⟨_, rfl⟩
 obtain ⟨dle, d63, hdc⟩ : dn ≤ dcap ∧ dcap ≤ 2 ^ 63 - 1 ∧ (0 < dn → ∃ b off, DA = some ⟨b, off, none⟩ ∧ b < Y.heap.size ∧ ∀ i p, DL[i]? = some p → Y.cell? ⟨b, off + i * 2, none⟩ = some (.int .i64 p.1) ∧ Y.cell? ⟨b, off + i * 2 + 1, none⟩ = some (.int .i64 p.2)) := by
  obtain ⟨_, _, e1, e2, e3, e4⟩ := HDY.out
  rw [hDL] at e1 e2 e4
  have e5 := HDN.out
  rw [hDL] at e5
  rw [e5] at e1 e2 e4
  cases e1
  exact ⟨e2, e3, e4⟩
 have HDC := Lib.hid hdc
 rw [hDL] at HDN
 have HDL := Lib.hid hDL
 clear hdc hDL
 go_upto_region 17 with fail
 clear m2
 go_loopw [106] (fun a106 wr => ∃ k : Nat, k ≤ dn ∧ a106 = .int .i64 (k : Int) ∧ Pm wr mb (pmOf (DL.take k)) ∧ Fr (· = mb) M wr) (fun a106 _ => dn - (intOf a106).toNat)
 case atStart => exact ⟨0, by omega, rfl, PMH.out, Fr.refl _ _⟩
 case round =>
  obtain ⟨k, hk, rfl, hp, hfr⟩ := hrel
  have HP := Lib.hid hp
  have HFR := Lib.hid hfr
  have HB := Lib.hid (HYM.out.trans (hfr.below (B := Y.heap.size) hsM (fun q hq => by have h8 : q = mb := hq; omega)))
  have hsz := HB.out.size
  have lmb := hp.lt
  clear hp hfr
  by_cases hlt : k < dn
  ·have dl1 : decide ((k : Int) < (dn : Int)) = true := decide_eq_true (by omega)
   have dk2 : decide ((dn : Int) ≤ (k : Int)) = false := decide_eq_false (by omega)
   obtain ⟨dq, dof, rfl, hdq, hdcc⟩ := HDC.out (by omega)
   obtain ⟨p, hp⟩ : ∃ p, DL[k]? = some p := ⟨_, List.getElem?_eq_getElem (by rw [HDN.out]; exact hlt)⟩
   obtain ⟨c0, c1⟩ := hdcc k p hp
   have hpw : pwf p := by
    have h := deadK_in HGY.out.ok (p := p) (s := s) (by rw [HDL.out]; exact List.mem_of_getElem? hp)
    rw [HGN.out] at h
    exact ⟨kwf_of (by omega) (by omega), kwf_of (by omega) (by omega)⟩
   have HPW := Lib.hid hpw
   have HST := Lib.hid (pmOf_step hp)
   obtain ⟨p1, p2⟩ := p
   simp only at c0 c1
   have ldq : dq < wr.heap.size := by omega
   have c0' : wr.cell? ⟨dq, dof + k * 2, none⟩ = _ := (HB.out.cell (p := ⟨dq, dof + k * 2, none⟩) hdq).trans c0
   have c1' : wr.cell? ⟨dq, dof + k * 2 + 1, none⟩ = _ := (HB.out.cell (p := ⟨dq, dof + k * 2 + 1, none⟩) hdq).trans c1
   clear hdcc hpw hp c0 c1
   go_upto_region 19 with fail
   obtain ⟨X9, hX9⟩ : ∃ X9, wr.alloc (.cells #[.int .i64 p1, .int .i64 p2] 72) = X9 := ⟨_, rfl⟩
   rw [hX9]
   have bX9 : Below wr.heap.size wr X9 := hX9 ▸ (Below.refl _ _).alloc (Nat.le_refl _) _
   have kX9 : X9.heap[wr.heap.size]? = some (.cells #[.int .i64 p1, .int .i64 p2] 72 (0, 0)) := hX9 ▸ heap_alloc_new _ _
   have z0 : X9.cell? ⟨wr.heap.size, 0, none⟩ = some (.int .i64 p1) := by simp [World.cell?, kX9]
   have z1 : X9.cell? ⟨wr.heap.size, 1, none⟩ = some (.int .i64 p2) := by simp [World.cell?, kX9]
   have HPX := Lib.hid (HP.out.below bX9 lmb)
   obtain ⟨X2, hput, hp2, o1, o2, o3, o4, o5⟩ := HPX.out.put pairKey Tryd.underlying71 HPW.out (.bool true)
   have HP2 := Lib.hid hp2
   have HB2 := Lib.hid (show Fr (· = mb) M X2 from (HFR.out.trans (Fr.of bX9)).trans ⟨o1, o2, o3, Nat.le_of_eq o4.symm, fun i _ hi => o5 i hi⟩)
   have hlX : wr.heap.size < X9.heap.size := lt_of_blk' kX9
   clear hX9 bX9 kX9 hp2 o1 o2 o3 o4 o5 c0' c1'
   go_wp2_with fail
   go_roundw
   case rel => exact ⟨k + 1, by omega, by go_num, by rw [← HST.out]; exact HP2.out, HB2.out⟩
   case measure => simp [intOf]; omega
  ·obtain rfl : dn = k := by omega
   have dl1 : decide ((dn : Int) < (dn : Int)) = false := by simp
   obtain ⟨R, hR⟩ : ∃ R : World, R = wr := ⟨_, rfl⟩
   subst hR
   have hpm : Pm R mb (pmOf DL) := by have := HP.out; rwa [List.take_of_length_le (by rw [HDN.out]; exact Nat.le_refl _)] at this
   have HXR := Lib.hid (show RunV Y R sb nb mb (.slice (some ⟨g, 0, none⟩) zn zn) (.slice (some ⟨wb, 0, none⟩) sn sn) DL 0 ⟨st, List.replicate 16 0, .slice (some ⟨g, 0, none⟩) zn zn, false, -1⟩ ml ml2 from by
    refine ⟨HJM.out.keep HFR.out (fun q hq h9 => ?_), rfl, HB.out, ⟨0, Int.le_refl _, Int.le_refl _, (HFR.out.block nb (lt_of_blk' KNM.out) (fun h9 => by have h8 : nb = mb := h9; omega)).trans KNM.out⟩, hpm⟩
    have h8 : q = mb := h9
    have h7 := HJQ.out.lt hq
    have h6 := HMB.out
    omega)
   have HJB := Lib.hid (show ∀ k, Jb sb (.slice (some ⟨g, 0, none⟩) zn zn) (.slice (some ⟨wb, 0, none⟩) sn sn) k → Y.heap.size ≤ k ∧ k ≠ nb ∧ k ≠ mb from fun q hq => by
    have h1 := BYN.out.size
    have h2 := HWB.out
    have h3 := HJQ.out.lt hq
    have h4 := HMB.out
    rcases hq with rfl | e | e
    ·omega
    ·simp only [Value.ownBlock, Option.some.injEq] at e; omega
    ·simp only [Value.ownBlock, Option.some.injEq] at e; omega)
   clear hpm
   go_upto_region 23 with fail
   have hL0 : 0 < L.length := by have := hgn0; rw [← HGN.out, HGG.out, gBlks_len] at this; exact this
   have hLn : L.length = gn := by rw [← HGN.out, HGG.out, gBlks_len]
   have hfirst := HGI.out.first HSTD.out hL0
   have HLN := Lib.hid hLn
   have HLV := Lib.hid (show Liv cd D L s st (List.replicate 16 0) 0 from by
    refine ⟨⟨hL0, by rw [hfirst]; exact Int.le_refl _, by have := HGI.out.b.lo _ (List.getElem_mem hL0); omega, HSTD.out⟩, FX.out.r0, s.inn.getD 0 [], ?_, FX.out.c0⟩
    rw [hfirst, show (st - st).toNat = 0 by omega]
    rfl)
   have HFI := Lib.hid (show (L[0]'hL0).1 = st from hfirst)
   clear hLn hfirst
   go_loopw [23, 113] (fun a23 a113 wr => ∃ (i b nw : Nat) (S : St) (m1 m2 : List Int) (hlv : Liv cd D L s S.pc S.r b), i ≤ 500 ∧ a113 = .int .i64 (i : Int) ∧ a23 = .int .i64 (nw : Int) ∧ nw < gn ∧ S.hal = false ∧ ((L[b]'hlv.at_.lt).1 = S.pc → i = 0 ∨ ((nw : Int), (b : Int)) ∉ DL) ∧ ((L[b]'hlv.at_.lt).1 ≠ S.pc → nw = b) ∧ RunV Y wr sb nb mb (.slice (some ⟨g, 0, none⟩) zn zn) (.slice (some ⟨wb, 0, none⟩) sn sn) DL i S m1 m2) (fun _ a113 _ => 500 - (intOf a113).toNat)
   case atStart => exact ⟨0, 0, 0, _, ml, ml2, HLV.out, by omega, rfl, rfl, hgn0, rfl, fun _ => .inl rfl, fun h => absurd HFI.out h, HXR.out⟩
   case round =>
    obtain ⟨i, b, nw, S, m1, m2, hlv, hi5, rfl, rfl, hnw, hhal, hed1, hed2, hrs⟩ := hrel
    obtain ⟨U, hU⟩ : ∃ U : World, U = wr := ⟨_, rfl⟩
    subst hU
    by_cases hlt5 : i < 500
    ·have dl5 : decide ((i : Int) < 500) = true := decide_eq_true (by omega)
     have dl5n : decide (i < 500) = true := decide_eq_true hlt5
     have hat := hlv.at_
     have hbL := hat.lt
     have hLn := HLN.out
     have hbn : b < gn := by omega
     have hgx := gBlks_at (insAt cd) L hbL
     rw [← HGG.out] at hgx
     have hxo := HGY.out.ok _ (List.mem_of_getElem? hgx)
     obtain ⟨pc, hpc⟩ : ∃ pc, S.pc = pc := ⟨_, rfl⟩
     obtain ⟨x0, hx0⟩ : ∃ x0, (L[b]).1 = x0 := ⟨_, rfl⟩
     have plj := hat.lo
     have phj := hat.hi
     have xlo := hxo.lo
     simp only at xlo
     obtain ⟨q, q1, q2, q3⟩ := hrs.n
     have bYU := hrs.bx
     have hfb : findB G pc = some b := by
      obtain ⟨z, hz⟩ := HGY.out.val.ok
      rw [← hpc]
      exact findB_val hz hgx plj phj
     have HBK := Lib.hid (show Calls Tryd.prog 18 #[.agg #[.slice GA gn gcap, .slice PA pn pcap], .int .i64 pc] U fun x w' => x = .returned (.tuple #[.int .i64 (b : Int), .bool true]) ∧ Below U.heap.size U w' from (block_any _ (.slice PA pn pcap) G pc U (HGY.out.bks.below bYU)).mono fun x w' ⟨h1, h2⟩ => ⟨by rw [h1, hfb]; rfl, h2⟩)
     obtain ⟨gq, go, hGA, glt, hgc⟩ : ∃ gq go, GA = some ⟨gq, go, none⟩ ∧ gq < Y.heap.size ∧ Y.cell? ⟨gq, go + b * 3, none⟩ = some (.int .i64 x0) := by
      obtain ⟨_, _, e3, _, _, e4⟩ := id HGY.out.bks
      cases e3
      rw [HGN.out] at e4
      obtain ⟨b', off, e5, e6, e7⟩ := e4 (by omega)
      exact ⟨b', off, e5, e6, by rw [← hx0]; exact (e7 b _ hgx).1⟩
     subst hGA
     have u0 : U.cell? ⟨b7, 0, none⟩ = _ := (bYU.cell (p := ⟨b7, 0, none⟩) lY7).trans h0
     have u1 : U.cell? ⟨b7, 1, none⟩ = _ := (bYU.cell (p := ⟨b7, 1, none⟩) lY7).trans h1
     have up := hrs.j.m.pc
     rw [hpc] at up
     have lU7 : b7 < U.heap.size := by have := bYU.size; omega
     have lUs := hrs.j.m.lt
     have hed1' : x0 = pc → i = 0 ∨ ((nw : Int), (b : Int)) ∉ DL := fun h => hed1 (hx0.trans (h.trans hpc.symm))
     have hed2' : x0 ≠ pc → nw = b := fun h => hed2 (fun e => h (hx0.symm.trans (e.trans hpc)))
     have plj' : x0 ≤ pc := by rw [← hx0, ← hpc]; exact plj
     have xlo' : 0 ≤ x0 := by rw [← hx0]; exact xlo
     have HRS := Lib.hid hrs
     have HLV2 := Lib.hid hlv
     have HHAL := Lib.hid hhal
     have HED1 := Lib.hid hed1'
     have HED2 := Lib.hid hed2'
     have HPC := Lib.hid hpc
     have HX0 := Lib.hid hx0
     have HBU := Lib.hid bYU
     have HGX := Lib.hid hgx
     have HQ := Lib.hid (And.intro q1 (And.intro q2 q3))
     clear hed1' hed2' plj phj xlo hlv hat hgx hxo hpc hx0 q1 q2 q3 bYU hfb hhal hed1 hed2 hrs hLn
     go_upto_region 28 with (go_at_call 18; refine HBK.out.mono ?_; rintro e' U2 ⟨rfl, hbU2⟩)
     have u0' : U2.cell? ⟨b7, 0, none⟩ = _ := (hbU2.cell (p := ⟨b7, 0, none⟩) lU7).trans u0
     have up' : U2.cell? ⟨sb, 0, none⟩ = _ := (hbU2.cell (p := ⟨sb, 0, none⟩) lUs).trans up
     have ux' : U2.cell? ⟨gq, go + b * 3, none⟩ = _ := (hbU2.cell (p := ⟨gq, go + b * 3, none⟩) (Nat.lt_of_lt_of_le glt HBU.out.size)).trans ((HBU.out.cell (p := ⟨gq, go + b * 3, none⟩) glt).trans hgc)
     have lq2 : gq < U2.heap.size := by have := HBU.out.size; have := hbU2.size; omega
     have l72 : b7 < U2.heap.size := by have := hbU2.size; omega
     have ls2 : sb < U2.heap.size := by have := hbU2.size; omega
     have db1 : decide ((gn : Int) ≤ (b : Int)) = false := decide_eq_false (by omega)
     have db2 : (b : Int) < (gn : Int) := by omega
     have HU2 := Lib.hid hbU2
     clear hbU2 u0 u1 up HBK
     by_cases hf : x0 = pc
     focus
      have dq1 : (pc == x0) = true := by simpa using hf.symm
      have dq2 : decide (pc = x0) = true := decide_eq_true hf.symm
      have hed := HED1.out hf
      obtain ⟨rq, ro, hRA, rlt, hrc⟩ : ∃ rq ro, RA = some ⟨rq, ro, none⟩ ∧ rq < Y.heap.size ∧ Y.cell? ⟨rq, ro + b, none⟩ = some (.bool (s.reach.getD b false)) := by
       obtain ⟨⟨_, _, e3, _, _, e4⟩, _⟩ := id HRY.out
       cases e3
       have e5 := FX.out.asi.l1
       rw [HGN.out] at e5
       rw [e5] at e4
       obtain ⟨rq, ro, e6, e7, e8⟩ := e4 (by omega)
       exact ⟨rq, ro, e6, e7, e8 b hbn⟩
      obtain ⟨iq, io, hIA, ilt, hic⟩ : ∃ iq io, IA = some ⟨iq, io, none⟩ ∧ iq < Y.heap.size ∧ Y.rangeAt iq (io + b * 32) (cellsR (s.inn.getD b [])) := by
       obtain ⟨_, ⟨_, _, e3, _, _, e4⟩⟩ := id HRY.out
       cases e3
       have e5 := FX.out.asi.l2
       rw [HGN.out] at e5
       rw [e5] at e4
       obtain ⟨iq, io, e6, e7, e8⟩ := e4 (by omega)
       exact ⟨iq, io, e6, e7, e8 b hbn⟩
      subst hRA hIA
      rw [HLV2.out.rc] at hrc
      obtain ⟨r, hr⟩ : ∃ v, s.inn.getD b [] = v := ⟨_, rfl⟩
      have R := Lib.hid (show R16 r by rw [← hr]; exact FX.out.asi.get (by rw [HGN.out]; exact hbn))
      rw [hr] at hic
      have hin := HLV2.out.head (HX0.out.trans (hf.trans HPC.out.symm))
      rw [hr] at hin
      have HIN := Lib.hid (fun (W : World) => by
       have := inside_any S HRS.out.j.m.len HRS.out.j.m.wd r R.out.len W
       rw [insB_iff.2 hin] at this
       exact this)
      have HED := Lib.hid hed
      clear hr hin hed
      go_quiet (fail)
      obtain ⟨U3, hU3⟩ : ∃ U3, U2.drewN nq = U3 := ⟨_, rfl⟩
      rw [hU3]
      have b3 : Below U2.heap.size U2 U3 := hU3 ▸ drewN_below _ _
      have bU3 : Below U.heap.size U U3 := HU2.out.trans (b3.mono HU2.out.size)
      have HU3 := Lib.hid bU3
      have HY3 := HBU.out.trans (bU3.mono HBU.out.size)
      have t0 : U3.cell? ⟨b9, 0, none⟩ = _ := (HY3.cell (p := ⟨b9, 0, none⟩) lY9).trans r0
      have t1 : U3.cell? ⟨b9, 1, none⟩ = _ := (HY3.cell (p := ⟨b9, 1, none⟩) lY9).trans r1
      have tr : U3.cell? ⟨rq, ro + b, none⟩ = some (.bool true) := (HY3.cell (p := ⟨rq, ro + b, none⟩) rlt).trans hrc
      have ti : U3.rangeAt iq (io + b * 32) (cellsR r) := tr_range hic HY3 ilt
      have l39 : b9 < U3.heap.size := by have := HY3.size; omega
      have l3r : rq < U3.heap.size := by have := HY3.size; omega
      have l3i : iq < U3.heap.size := by have := HY3.size; omega
      have hM3 := HRS.out.j.m.keep (bU3.block sb lUs)
      have l3s := hM3.lt
      have HQS3 := Lib.hid (show ∀ w, (∃ x : Ext U3, w = x.w) → w.rangeAt sb 0 S.cells.toList from fun w ⟨x, e⟩ => e ▸ rangeAt_block (hM3.keep (x.h.block sb l3s)).blk)
      have HQR3 := Lib.hid (show ∀ w, (∃ x : Ext U3, w = x.w) → w.rangeAt iq (io + b * 32) (cellsR r) from fun w ⟨x, e⟩ => e ▸ tr_range ti x.h l3i)
      have HSI := Lib.hid (show (Tryd.prog.info? 34).map (·.size) = some S.cells.toList.length by rw [stc_len HRS.out.j.m.len]; kernel_rfl)
      have HM3 := Lib.hid (HRS.out.m.below bU3 HRS.out.m.lt)
      clear hU3 b3 bU3 ti hM3 u0' up' ux' hrc hic HY3 dq1 dq2
      go_upto_region 29 with fail
      by_cases hi0 : i = 0
      focus
       have dg1 : decide (0 < (i : Int)) = false := decide_eq_false (by omega)
       have dg2 : decide (0 < i) = false := decide_eq_false (by omega)
       have HI0 := Lib.hid hi0
       clear hi0
       refine wp_region_ext (by kernel_rfl) (by kernel_rfl) ?_
       repeat (first | (refine wpQuiet_load (by first | rfl | kernel_rfl) _ _ rfl _ _ rfl S.cells.toList _ HQS3.out Tryd.underlying34 rfl HSI.out ?_; (try simp only [List.getElem_toArray, List.getElem_cons_zero, List.getElem_cons_succ, Act.put, List.setIfInBounds_toArray, List.set_cons_zero, List.set_cons_succ])) | (refine wpQuiet_load (by first | rfl | kernel_rfl) _ _ rfl _ _ rfl (cellsR r) _ HQR3.out Tryd.underlying27 rfl (hi3 R.out.len) ?_; (try simp only [List.getElem_toArray, List.getElem_cons_zero, List.getElem_cons_succ, Act.put, List.setIfInBounds_toArray, List.set_cons_zero, List.set_cons_succ])) | go_big_quiet_step ((go_at_call 14; exact Calls.extq (HIN.out _))))
       refine wpQuiet_nil ?_
       rintro _ ⟨x6, rfl⟩
      rotate_left
      focus
       have dg1 : decide (0 < (i : Int)) = true := decide_eq_true (by omega)
       have dg2 : decide (0 < i) = true := decide_eq_true (by omega)
       have hed2 : ((nw : Int), (b : Int)) ∉ DL := by rcases HED.out with h | h; exact absurd h hi0; exact h
       have hlk : ∀ x : Ext U3, (Instr.lookup 71 (.map (some mb)) (.agg #[.int .i64 (nw : Int), .int .i64 (b : Int)]) false).run Tryd.prog x.w = .ok (.bool false) x.w := fun x => by
        have := edge_look (HM3.out.below x.h HM3.out.lt) (x := (nw : Int)) (y := (b : Int)) (kwf_of (by omega) (by omega)) (kwf_of (by omega) (by omega))
        rw [decide_eq_false hed2] at this
        exact this
       clear hi0 hed2
       refine wp_region_ext (by kernel_rfl) (by kernel_rfl) ?_
       repeat (first | (refine wpQuiet_load (by first | rfl | kernel_rfl) _ _ rfl _ _ rfl S.cells.toList _ HQS3.out Tryd.underlying34 rfl HSI.out ?_; (try simp only [List.getElem_toArray, List.getElem_cons_zero, List.getElem_cons_succ, Act.put, List.setIfInBounds_toArray, List.set_cons_zero, List.set_cons_succ])) | (refine wpQuiet_load (by first | rfl | kernel_rfl) _ _ rfl _ _ rfl (cellsR r) _ HQR3.out Tryd.underlying27 rfl (hi3 R.out.len) ?_; (try simp only [List.getElem_toArray, List.getElem_cons_zero, List.getElem_cons_succ, Act.put, List.setIfInBounds_toArray, List.set_cons_zero, List.set_cons_succ])) | go_big_quiet_step ((go_at_call 14; exact Calls.extq (HIN.out _))))
       refine wpQuiet_nil ?_
       rintro _ ⟨x6, rfl⟩
      all_goals
       go_upto_region 32 with fail
       obtain ⟨K0, hK0⟩ : ∃ K0, x6.w = K0 := ⟨_, rfl⟩
       have HUK := Lib.hid (show Below U.heap.size U K0 from hK0 ▸ HU3.out.trans (x6.h.mono HU3.out.size))
       rw [hK0]
       clear hK0
     rotate_left 2
     focus
      have dq1 : (pc == x0) = false := by simpa using fun h => hf h.symm
      have dq2 : decide (pc = x0) = false := decide_eq_false (fun h => hf h.symm)
      obtain rfl : b = nw := (HED2.out hf).symm
      go_quiet (fail)
      obtain ⟨K0, hK0⟩ : ∃ K0, U2.drewN nq = K0 := ⟨_, rfl⟩
      rw [hK0]
      have HUK := Lib.hid (show Below U.heap.size U K0 from hK0 ▸ HU2.out.trans ((drewN_below _ _).mono HU2.out.size))
      go_upto_region 32 with fail
      clear hK0
     all_goals
      have HYK := Lib.hid (HBU.out.trans (HUK.out.mono HBU.out.size))
      have k0 : K0.cell? ⟨w.heap.size, 0, none⟩ = _ := (HYK.out.cell (p := ⟨w.heap.size, 0, none⟩) lY).trans y0
      have k1 : K0.cell? ⟨w.heap.size, 1, none⟩ = _ := (HYK.out.cell (p := ⟨w.heap.size, 1, none⟩) lY).trans y1
      have k2 : K0.cell? ⟨w.heap.size, 2, none⟩ = _ := (HYK.out.cell (p := ⟨w.heap.size, 2, none⟩) lY).trans y2
      have k3 : K0.cell? ⟨w.heap.size, 3, none⟩ = _ := (HYK.out.cell (p := ⟨w.heap.size, 3, none⟩) lY).trans y3
      have lK : w.heap.size < K0.heap.size := by have := HYK.out.size; omega
      have hVK : Below V.heap.size V K0 := HVY.out.trans (HYK.out.mono HVY.out.size)
      have kin := (hVK.block _ (lt_of_blk' KIN.out)).trans KIN.out
      have hib : K0.cell? ⟨w.heap.size + 1, 0, none⟩ = some (.slice iA il.length icap0) := by simp [World.cell?, kin]
      have hrk := HRS.out.later HUK.out
      obtain ⟨q, q1, q2, q3⟩ := hrk.n
      have hnbV : V.heap.size ≤ nb := by have := HVY.out.size; have := HWB.out; have := BYN.out.size; have := HFZ.out.size; omega
      have HPO := sound_port HIV.out hil hVK hnbV q1 (by omega) q3 hib (lt_of_blk' kin) (by have := lt_of_blk' KIN.out; omega)
      have HSP := Lib.hid (step_any cv ev (sn : Int) lk n cd ents kt e sb S m1 (.slice (some ⟨wb, 0, none⟩) sn sn) m2 _ (· = nb) (RunCnt nb q) K0 (HTY.out.below HYK.out) (HOV.out.below hVK) ((⟨HGY.out.wd.wd, HGY.out.wd.at_⟩ : WordsN Y cv n cd).belowG HYK.out) HGY.out.wd.le (HENT.out.below hVK) HEN.out hrk.j HPO (fun k hk => by rw [hrk.d] at hk; exact (HJB.out k hk).2.1))
      unfold StepPost at HSP
      have HRK := Lib.hid hrk
      have HQ2 := Lib.hid (And.intro q1 (And.intro q2 q3))
      have hnbY : Y.heap.size ≤ nb := by have := HWB.out; have := BYN.out.size; have := HFZ.out.size; omega
      clear hVK kin hib hrk q1 q2 q3 HPO hnbV
      go_upto_region 33 with (first | (go_at_call 26; refine HSP.out.mono ?_; rintro e' W5 (⟨er, hne, rfl, hb5⟩ | ⟨nx, tk, ad, vl, s', dl', sl', -, hl1, hl2, hdz, hok, -, rfl, hJ', hfr, hor⟩)) | (refine wpList_store_row rfl 80 (.tmp 27) (.tmp 168) rfl W5.heap.size #[.int .u8 0, .int .i64 0, .int .i64 0, .int .i64 0, .int .i64 0, .int .i64 0, .bool false, .int .i64 0, .int .i32 0] rfl rfl 80 _ (heap_alloc_new _ _) (by kernel_rfl) rfl (by simp [Value.oneCell']) ?_) | (refine wpList_store_row rfl 80 (.tmp 27) (.tmp 168) rfl W5.heap.size (effL (insAt cd S.pc) S.pc tk ad vl).toArray rfl rfl 80 _ (heap_alloc_new _ _) (by kernel_rfl) rfl (by simp [effL, Value.oneCell']) ?_))
      case _ =>
       have gz : (er != 0) = true := by simpa using hne
       rw [World.setRow_alloc_new]
       have hfin := BY.out.trans ((HYK.out.trans (hb5.mono HYK.out.size)).mono BY.out.size)
       go_wp2_with fail
       go_ret
       exact ⟨rfl, hfin.alloc (by have := hfin.size; omega) _⟩
      case _ =>
       rw [World.setRow_alloc_new]
       obtain ⟨W6, hW6⟩ : ∃ W6, W5.alloc (.cells (effL (insAt cd S.pc) S.pc tk ad vl).toArray 80) = W6 := ⟨_, rfl⟩
       have b6 : Below W5.heap.size W5 W6 := hW6 ▸ (Below.refl _ _).alloc (Nat.le_refl _) _
       rw [hW6]
       clear hW6
       have hrs6 := (HRK.out.step HJB.out hnbY (by have := HMB.out; have := HQS.out; omega) HQ2.out.1 HQ2.out.2.1 HQ2.out.2.2 hok hJ' hfr hor).later b6
       have hGG := HGG.out
       have hE' := HE.out
       have hFX := FX.out
       have hOK := HGY.out.ok
       have hDL := HDL.out
       rw [hGG] at hE' hFX hOK hDL
       have hls := Liv.step HLL.out HGI.out hE' hFX hOK HGY.out.wd.wd HLV2.out HRK.out.j.m.len HRK.out.j.dw HRK.out.j.sw HHAL.out hok
       rw [hDL] at hls
       clear hJ' hfr hor b6 hok hGG hE' hFX hOK hDL hl1 hl2 hdz HSP
       obtain ⟨s2, hs2⟩ : ∃ s2 : St, ({ s' with pc := nx } : St) = s2 := ⟨_, rfl⟩
       rw [hs2] at hrs6
       have hs2p : s2.pc = nx := by rw [← hs2]
       have hs2h : s2.hal = s'.hal := by rw [← hs2]
       have hs2r : s2.r = s'.r := by rw [← hs2]
       have p18 := hrs6.j.m.hal
       have lsb6 := hrs6.j.m.lt
       rw [← hs2h, ← hs2r, ← hs2p] at hls
       have HR6 := Lib.hid hrs6
       have hfin := BY.out.trans (hrs6.bx.mono BY.out.size)
       have HFIN := Lib.hid hfin
       clear hs2 hs2h hs2r hs2p hrs6 hfin
       rcases hls with hh | ⟨hh, k, hlv2, hal⟩
       ·rw [hh] at p18
        clear hh
        go_wp2_with fail
        go_ret
        exact ⟨rfl, HFIN.out⟩
       ·rw [hh] at p18
        have HH2 := Lib.hid hh
        have HC := Lib.hid (show ((L[k]'hlv2.at_.lt).1 = s2.pc → i + 1 = 0 ∨ ((b : Int), (k : Int)) ∉ DL) ∧ ((L[k]'hlv2.at_.lt).1 ≠ s2.pc → b = k) from by
         rcases hal with ⟨e1, e2, e3⟩ | ⟨hk, e1, e2⟩
         ·subst e1
          exact ⟨fun h => by omega, fun _ => rfl⟩
         ·exact ⟨fun _ => .inr e2, fun h => absurd e1 h⟩)
        have HLK := Lib.hid hlv2
        clear hh hal
        go_wp2_with fail
        go_roundw
        case rel => exact ⟨i + 1, k, b, s2, dl', sl', HLK.out, by omega, by go_num, rfl, hbn, HH2.out, HC.out.1, HC.out.2, HR6.out⟩
        case measure => simp [intOf]; omega
    ·obtain rfl : i = 500 := by omega
     have dl5 : decide ((500 : Int) < 500) = false := by decide
     have bYU := hrs.bx
     clear hed1 hed2 hrs
     go_wp2_with fail
     go_ret
     exact ⟨rfl, BY.out.trans (bYU.mono BY.out.size)⟩

end Go.Proofs.YtebklpnkcicpjaaDoor


