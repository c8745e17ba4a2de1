/-
  What is proved here: parts aAz.
-/
import Derived.Test.YtebklpnkcicpjaaGreatDoorXa
import Derived.Test.YtebklpnkcicpjaaGreatDoorXl
namespace Go.Proofs.YtebklpnkcicpjaaGreatDoor
set_option linter.unusedVariables false
set_option linter.unusedSimpArgs false
set_option maxRecDepth 100000
set_option maxHeartbeats 8000000
section
open Go.RowKit
theorem lF (cv ev bv pv : Value) (sh lk : Int) (n : Nat) (cd : Nat → Int) (G : List dL) (P : List (List Int)) (w : World) (T : iU w) (HW : Words w cv n cd) (HG : gh w bv G) (HP : tY w pv P)
  (hv : pP G P) (hg0 : 0 < G.length) (hg1 : G.length ≤ 1000) (hok : ∀ x ∈ G, Fa n cd G x) :
  Calls Tryz.prog 7 #[.agg #[cv, ev, .int .i64 sh, .int .i64 lk], .agg #[bv, pv]] w fun e w' => (∃ s rv iv dv, Ends (bz cd G) (ct G.length) s ∧ e = .returned (.tuple #[.agg #[rv, iv, dv], .int .i64 0]) ∧ oD w' rv iv s.reach s.bH ∧ EK w' dv (cZ (bz cd G) s G.length) ∧ Nv w.heap.size rv iv dv) ∧ Below w.heap.size w w' := by
 obtain ⟨GA, cj, nG, g2, g3, g4⟩ := id HG
 have Zr := fX g3
 obtain ⟨PA, dV, N9, p2, p3, p4⟩ := id HP
 obtain ⟨V, hV, k0, k1, k2, bV, sV⟩ := cm w #[cv, ev, .int .i64 sh, .int .i64 lk] #[bv, pv] #[.slice none 0 0, .slice none 0 0, .slice none 0 0] 25 30 42
 have Vz : V.heap.size = w.heap.size + 1 + 1 + 1 := by rw [← hV]; simp
 have b0 : V.cell? ⟨w.heap.size + 1, 0, none⟩ = some bv := by simp [World.cell?, k1]
 have b1 : V.cell? ⟨w.heap.size + 1, 1, none⟩ = some pv := by simp [World.cell?, k1]
 have l1 : w.heap.size + 1 < V.heap.size := by omega
 have gM := acD (yY bv pv G P V (HG.below bV) (HP.below bV) abo (fun x hx => by have := (hok x hx).tF; omega))
 obtain ⟨gn, hgn⟩ : ∃ m, G.length = m := ⟨_, rfl⟩
 rw [hgn] at nG g2 hg0 hg1
 rw [hgn]
 subst nG N9
 have oL := acD hgn
 have qp := acD hok
 have AO := acD HW
 have Ox := acD HG
 have HT := acD T
 have BV := acD bV
 have SV := acD Vz
 have K0 := acD k0
 have K2 := acD k2
 have Xm := acD hv
 have wD := acD g4
 clear hgn hok HW HG HP T bV sV Vz k0 k1 k2 hv g3 g4 p4 p3
 go_enter Tryz.func7, Tryz.ntmps7
 go_upto_region 3 with (go_at_call 23; refine gM.out.mono ?_; rintro e X ⟨⟨r, rfl, hr⟩, PJ⟩; obtain rfl : r = true := hr.2 Xm.out)
 have c0 : X.cell? ⟨w.heap.size + 1, 0, none⟩ = _ := (PJ.cell (p := ⟨w.heap.size + 1, 0, none⟩) l1).trans b0
 have c1 : X.cell? ⟨w.heap.size + 1, 1, none⟩ = _ := (PJ.cell (p := ⟨w.heap.size + 1, 1, none⟩) l1).trans b1
 have lX : w.heap.size + 1 < X.heap.size := by have := PJ.size; omega
 have BX := acD PJ
 clear b0 b1 hr PJ gM Xm hV
 go_upto_region 4 with fail
 obtain ⟨cS, TZ⟩ : ∃ c, ((List.range gn).map fun _ => Value.slice none 0 0).toArray = c := ⟨_, rfl⟩
 obtain ⟨cB, hcB⟩ : ∃ c, ((List.replicate gn false).map Value.bool).toArray = c := ⟨_, rfl⟩
 obtain ⟨cR, Hh⟩ : ∃ c, (jk (List.replicate gn aq)).toArray = c := ⟨_, rfl⟩
 obtain ⟨cI, M6⟩ : ∃ c, ((List.replicate gn (0 : Int)).map (Value.int .i64)).toArray = c := ⟨_, rfl⟩
 obtain ⟨iA, We, PZ, hA1, LN⟩ := info_parts MJ
 obtain ⟨iB, Pz, hB0, hB1, hB2⟩ := info_parts GY
 obtain ⟨iC, Py, PX, PW, hC2⟩ := info_parts MK
 obtain ⟨iD, Px, qd, PV, PU⟩ := info_parts GV
 have mk1 : ∀ W, (Instr.makeSlice 82 (.int .i64 (gn : Int)) (.int .i64 (gn : Int))).run Tryz.prog W = .ok (.slice (some ⟨W.heap.size, 0, none⟩) gn gn) (W.alloc (.cells cS 50)) := fun W => by
  have hr := run_make (P := Tryz.prog) W 82 50 iA _ Tryz.underlying82 We PZ .i64 .i64 (gn : Int) (gn : Int) abo (Int.le_refl _) (by rw [LN]; omega) abo
  rw [hA1, Int.toNat_natCast] at hr
  rw [hr, ← TZ, ← OZ]
  rfl
 have mk2 : ∀ W, (Instr.makeSlice 38 (.int .i64 (gn : Int)) (.int .i64 (gn : Int))).run Tryz.prog W = .ok (.slice (some ⟨W.heap.size, 0, none⟩) gn gn) (W.alloc (.cells cB 4)) := fun W => by
  have hr := run_make (P := Tryz.prog) W 38 4 iB _ Tryz.underlying38 Pz hB0 .i64 .i64 (gn : Int) (gn : Int) abo (Int.le_refl _) (by rw [hB2]; omega) abo
  rw [hB1, Int.toNat_natCast] at hr
  rw [hr, ← hcB, ← Lm]
  rfl
 have mk3 : ∀ W, (Instr.makeSlice 39 (.int .i64 (gn : Int)) (.int .i64 (gn : Int))).run Tryz.prog W = .ok (.slice (some ⟨W.heap.size, 0, none⟩) gn gn) (W.alloc (.cells cR 56)) := fun W => by
  have hr := run_make (P := Tryz.prog) W 39 56 iC _ Tryz.underlying39 Py PX .i64 .i64 (gn : Int) (gn : Int) abo (Int.le_refl _) (by rw [hC2]; omega) abo
  rw [PW, Int.toNat_natCast] at hr
  rw [hr, ← Hh, ← Lj]
  rfl
 have mk4 : ∀ W, (Instr.makeSlice 34 (.int .i64 (gn : Int)) (.int .i64 (gn : Int))).run Tryz.prog W = .ok (.slice (some ⟨W.heap.size, 0, none⟩) gn gn) (W.alloc (.cells cI 3)) := fun W => by
  have hr := run_make (P := Tryz.prog) W 34 3 iD _ Tryz.underlying34 Px qd .i64 .i64 (gn : Int) (gn : Int) abo (Int.le_refl _) (by rw [PU]; omega) abo
  rw [PV, Int.toNat_natCast] at hr
  rw [hr, ← M6, ← Ll]
  rfl
 have XW := acD TZ
 have NS := acD hcB
 have KT := acD Hh
 have NQ := acD M6
 clear TZ hcB Hh M6 PZ hA1 LN hB0 hB1 hB2 PX PW hC2 qd PV PU We Pz Py Px
 go_cut [7] from 31 to 41 (fun a7 wx => ∃ ab cb rb ib pb, a7 = .pointer (some ⟨ab, 0, none⟩) ∧ wx.heap[ab]? = some (.cells #[.slice GA gn cj, .slice PA P.length dV, .slice (some ⟨cb, 0, none⟩) gn gn, .slice (some ⟨rb, 0, none⟩) gn gn, .slice (some ⟨ib, 0, none⟩) gn gn, .slice (some ⟨pb, 0, none⟩) gn gn] 84 (0, 0)) ∧ wx.heap[cb]? = some (.cells cS 50 (0, 0)) ∧ wx.heap[rb]? = some (.cells cB 4 (0, 0)) ∧ wx.heap[ib]? = some (.cells cR 56 (0, 0)) ∧ wx.heap[pb]? = some (.cells cI 3 (0, 0)) ∧ (X.heap.size ≤ ab ∧ X.heap.size ≤ cb ∧ X.heap.size ≤ rb ∧ X.heap.size ≤ ib ∧ X.heap.size ≤ pb) ∧ Below X.heap.size X wx)
 case first =>
  go_region_held3 (fun w' => (∀ b o, b < X.heap.size → w'.cell? ⟨b, o, none⟩ = X.cell? ⟨b, o, none⟩) ∧ Below X.heap.size X w') ((exact GM (by (repeat (first | (with_reducible exact Below.refl _ _) | (with_reducible refine Below.drew ?_) | (with_reducible refine Below.alloc ?_ ab5 _)))))) (fail)
  all_goals (go_wp2_with fail; go_meet)
  all_goals
   refine ⟨_, _, _, _, _, rfl, bB _ _ aby, ?_, ?_, ?_, ?_, by omega, ?_⟩
   ·(show (World.alloc _ _).heap[_]? = _); (repeat (first | exact heap_alloc_new _ _ | exact bB _ _ aci | rw [heap_alloc_old _ _ ab8]))
   ·(show (World.alloc _ _).heap[_]? = _); (repeat (first | exact heap_alloc_new _ _ | exact bB _ _ aci | rw [heap_alloc_old _ _ ab8]))
   ·(show (World.alloc _ _).heap[_]? = _); (repeat (first | exact heap_alloc_new _ _ | exact bB _ _ aci | rw [heap_alloc_old _ _ ab8]))
   ·(show (World.alloc _ _).heap[_]? = _); (repeat (first | exact heap_alloc_new _ _ | exact bB _ _ aci | rw [heap_alloc_old _ _ ab8]))
   ·(repeat (first | (with_reducible exact Below.refl _ _) | (with_reducible refine Below.drew ?_) | (with_reducible refine Below.alloc ?_ ab5 _)))
 obtain ⟨ab, cb, rb, ib, pb, rfl, hd1, hd2, hd3, hd4, hd5, ⟨ha, hc, hr, hi, hp⟩, bW⟩ := hcut
 obtain ⟨W1, hW1⟩ : ∃ W1 : World, W1 = wc := ⟨_, rfl⟩
 subst hW1
 rw [← XW.out] at hd2
 rw [← NS.out] at hd3
 rw [← KT.out] at hd4
 rw [← NQ.out] at hd5
 have HCM := acD (show CM X W1 ab cb rb ib pb gn (.slice GA gn cj) (.slice PA P.length dV) (fun _ => .slice none 0 0) (fun _ => []) from
  ⟨bW, ha, hr, hi, hp, hd1, ⟨by simp, .inr ⟨cb, gn, _, rfl, hc, hd2, Nat.le_refl _, by unfold maxLen; omega, by simp, by simp [List.take_of_length_le]⟩⟩, fun i hi => World.ownsRow_nil _ _ _ _, fun i j hi hj _ q hq => (by cases hq), hd3, hd4, hd5⟩)
 have Sa := bW.size
 have d0 : W1.cell? ⟨w.heap.size + 1, 0, none⟩ = _ := (bW.cell (p := ⟨w.heap.size + 1, 0, none⟩) lX).trans c0
 have YE : w.heap.size + 1 < W1.heap.size := by omega
 clear hd1 hd2 hd3 hd4 hd5 ha hc hr hi hp bW XW NS KT NQ mk1 mk2 mk3 mk4
 obtain ⟨iI, Ob, Og, Kf, Ke⟩ := info_parts zP
 go_upto_region 6 with fail
 clear d0 YE
 have hsX := BX.out.size
 go_loopw [45] (fun a45 wr => ∃ (k : Nat) (val : Nat → Value), k ≤ gn ∧ a45 = .int .i64 (k : Int) ∧ CM X wr ab cb rb ib pb gn (.slice GA gn cj) (.slice PA P.length dV) val (mE (pZ cd G) k [])) (fun a45 _ => gn - (intOf a45).toNat)
 case atStart => exact ⟨0, _, by omega, rfl, by rw [Eo]; exact HCM.out⟩
 case round =>
  obtain ⟨k, val, hk, rfl, hM⟩ := hrel
  have HM := acD hM
  have N7 := hM.aF.size
  clear hM
  by_cases hlt : k < gn
  ·have dl : decide ((k : Int) < (gn : Int)) = true := decide_eq_true abo
   have dk : (k : Int) < (gn : Int) := by omega
   obtain ⟨x, hx⟩ : ∃ x, G[k]? = some x := ⟨_, List.getElem?_eq_getElem acs⟩
   have hgo := qp.out x (List.mem_of_getElem? hx)
   obtain ⟨gq, pG, rfl, Kh, gc⟩ := wD.out (by rw [oL.out]; omega)
   obtain ⟨e0, e1, nv, e2, I7⟩ := gc k x hx
   obtain ⟨nA, cT, rfl, n1, n2⟩ := ints_at I7
   have n3 := fX n2
   have bw : Below w.heap.size w wr := BV.out.trans ((BX.out.trans (HM.out.aF.mono BX.out.size)).mono BV.out.size)
   have f0 : wr.cell? ⟨gq, pG + k * 3, none⟩ = _ := (bw.cell (p := ⟨gq, _, none⟩) Kh).trans e0
   have f1 : wr.cell? ⟨gq, pG + k * 3 + 1, none⟩ = _ := (bw.cell (p := ⟨gq, _, none⟩) Kh).trans e1
   have f2 : wr.cell? ⟨gq, pG + k * 3 + 2, none⟩ = _ := (bw.cell (p := ⟨gq, _, none⟩) Kh).trans e2
   have lg : gq < wr.heap.size := by have := bw.size; omega
   obtain ⟨xlo, xJ⟩ : ∃ v, x.lo = v := ⟨_, rfl⟩
   obtain ⟨xhi, MP⟩ : ∃ v, x.hi = v := ⟨_, rfl⟩
   obtain ⟨xu, MO⟩ : ∃ v, x.nx.length = v := ⟨_, rfl⟩
   have J3 := hgo.lo
   have Pq := hgo.lt
   have Hg := hgo.RV
   rw [xJ] at f0 J3 Pq Hg
   rw [MP] at f1 Pq Hg
   rw [MO] at f2 n1
   obtain ⟨ln, rfl⟩ : ∃ ln : Nat, xlo = (ln : Int) := ⟨xlo.toNat, by omega⟩
   obtain ⟨hn, rfl⟩ : ∃ hn : Nat, xhi = (hn : Int) := ⟨xhi.toNat, by omega⟩
   have hhn : hn ≤ 1000000 := by
    have h1 := AO.out.le
    have := (Hg (hn - 1) abo abo).1
    omega
   have Vp := acD (show ∀ a : Nat, ln ≤ a → a < hn → a < n ∧ (cx (cd a)).2 = 0 ∧ 0 ≤ (aA cd (a : Int)).op from fun a h1 h2 => Hg a abo abo)
   have Q8 := acD (show pZ cd G k = codeFrom cd (ln : Int) (hn - ln) by
    unfold pZ
    rw [show G.getD k ⟨0, 0, []⟩ = x by simp [List.getD, hx], xJ, MP]
    congr 1
    omega)
   clear hgo e0 e1 e2 I7 gc bw xJ MP MO Hg hx n2
   go_upto_region 9 with fail
   obtain ⟨b9, hb9⟩ : ∃ b9, wr.heap.size = b9 := ⟨_, rfl⟩
   obtain ⟨Y, hY⟩ : ∃ Y, wr.alloc (.cells #[.int .i64 (ln : Int), .int .i64 (hn : Int), .slice nA xu cT] 36) = Y := ⟨_, rfl⟩
   rw [hY]
   have bY : Below wr.heap.size wr Y := hY ▸ (Below.refl _ _).alloc (Nat.le_refl _) _
   have kY : Y.heap[b9]? = some (.cells #[.int .i64 (ln : Int), .int .i64 (hn : Int), .slice nA xu cT] 36 (0, 0)) := by rw [← hb9, ← hY]; exact heap_alloc_new _ _
   rw [hb9]
   have KY := acD kY
   have HMY := acD (HM.out.below bY)
   have L9 := acD (show X.heap.size ≤ b9 by omega)
   clear hb9 hY bY kY f0 f1 f2
   obtain ⟨wo, DK⟩ : ∃ wo : World, wo = wr := ⟨_, rfl⟩
   subst DK
   go_loopw [10] (fun a10 wz => ∃ (j : Nat) (tL : Nat → Value), j ≤ hn - ln ∧ a10 = .int .i64 ((ln : Int) + (j : Int)) ∧ CM X wz ab cb rb ib pb gn (.slice (some ⟨gq, pG, none⟩) gn cj) (.slice PA P.length dV) tL (mE (pZ cd G) k (codeFrom cd (ln : Int) j)) ∧ wz.heap[b9]? = some (.cells #[.int .i64 (ln : Int), .int .i64 (hn : Int), .slice nA xu cT] 36 (0, 0))) (fun a10 _ => hn - (intOf a10).toNat)
   case atStart => exact ⟨0, val, by omega, rfl, HMY.out, KY.out⟩
   case round =>
    obtain ⟨j, tL, hj, rfl, Ub, k9⟩ := hrel
    have SB := acD Ub
    have K9 := acD k9
    have hzX := Ub.aF.size
    have z1 : wr.cell? ⟨b9, 1, none⟩ = some (.int .i64 (hn : Int)) := by simp [World.cell?, k9]
    have lz9 : b9 < wr.heap.size := ag k9
    clear Ub k9
    by_cases hlt2 : j < hn - ln
    ·have dl2 : decide ((ln : Int) + (j : Int) < (hn : Int)) = true := decide_eq_true abo
     obtain ⟨m1, m2, m3⟩ := Vp.out (ln + j) abo abo
     have LQ : Below w.heap.size w wr := BV.out.trans ((BX.out.trans (SB.out.aF.mono BX.out.size)).mono BV.out.size)
     have Sk := acD (((BX.out.trans (SB.out.aF.mono BX.out.size)).block _ ach).trans K0.out)
     have t0 : wr.cell? ⟨w.heap.size, 0, none⟩ = some cv := by have := Sk.out; simp [World.cell?, this]
     have t1 : wr.cell? ⟨w.heap.size, 1, none⟩ = some ev := by have := Sk.out; simp [World.cell?, this]
     have t2 : wr.cell? ⟨w.heap.size, 2, none⟩ = some (.int .i64 sh) := by have := Sk.out; simp [World.cell?, this]
     have t3 : wr.cell? ⟨w.heap.size, 3, none⟩ = some (.int .i64 lk) := by have := Sk.out; simp [World.cell?, this]
     have lz0 : w.heap.size < wr.heap.size := by omega
     obtain ⟨op, ia, ic, id, im, hi⟩ : ∃ op ia ic id im, aA cd ((ln : Int) + (j : Int)) = ⟨op, ia, ic, id, im⟩ := ⟨_, _, _, _, _, rfl⟩
     have EP := acD (show Calls Tryz.prog 24 #[.agg #[cv, ev, .int .i64 sh, .int .i64 lk], .int .i64 ((ln : Int) + (j : Int))] wr fun e w' => e = .returned (.tuple #[.agg #[.int .u8 op, .int .i64 ia, .int .i64 ic, .int .i64 id, .int .i64 im], .bool true]) ∧ Below wr.heap.size wr w' from by
      have := pR cv ev sh lk n cd (ln + j) m1 m2 wr (HT.out.below LQ) (AO.out.below LQ)
      rw [Int.natCast_add, hi] at this
      exact this)
     have HI := acD hi
     have wl : IntKind.i64.wrap ((ln : Int) + (j : Int) + 1) = (ln : Int) + (j : Int) + 1 := IntWalk.i64_in _ abo
     clear m1 m2 m3 LQ hi
     go_upto_region 14 with (first | (go_at_call 24; refine EP.out.mono ?_; rintro e w2 ⟨rfl, hb2⟩))
     obtain ⟨U, hU⟩ : ∃ U, w2.alloc (.cells #[.int .u8 op, .int .i64 ia, .int .i64 ic, .int .i64 id, .int .i64 im] 64) = U := ⟨_, rfl⟩
     rw [hU]
     have bU : Below w2.heap.size w2 U := hU ▸ (Below.refl _ _).alloc (Nat.le_refl _) _
     obtain ⟨y0, y1, y2, y3, y4, lU⟩ := aQ (show U.heap[w2.heap.size]? = some (.cells #[.int .u8 op, .int .i64 ia, .int .i64 ic, .int .i64 id, .int .i64 im] 64 (0, 0)) from hU ▸ heap_alloc_new _ _)
     obtain ⟨b11, Nc⟩ : ∃ b, w2.heap.size = b := ⟨_, rfl⟩
     have Uy : Below wr.heap.size wr U := hb2.trans (bU.mono hb2.size)
     rw [Nc] at y0 y1 y2 y3 y4 lU
     rw [Nc]
     have KL := acD (SB.out.below Uy)
     have Si := acD ((Uy.block b9 lz9).trans K9.out)
     have v0 := KL.out.cells.1
     obtain ⟨lab, lcb, -, -, -⟩ := KL.out.lt
     obtain ⟨v1, v1f⟩ := KL.out.at_ hlt
     have hop := KL.out.own k hlt
     rw [pK, gR] at hop
     obtain ⟨vk, N2⟩ : ∃ v, tL k = v := ⟨_, rfl⟩
     have Xl := acD N2
     have QM := acD (show some cb ≠ vk.ownBlock from fun e' => by
      rw [← N2] at e'
      exact (KL.out.C7 hlt cb e'.symm).2.2.1 rfl)
     have Z6 := acD (show some ab ≠ vk.ownBlock from fun e' => by
      rw [← N2] at e'
      exact (KL.out.C7 hlt ab e'.symm).2.1 rfl)
     have HN9 := acD (show some b9 ≠ vk.ownBlock from fun e' => by
      rw [← N2] at e'
      obtain ⟨cs, hcs⟩ := dW hop e'.symm
      exact aL hcs Si.out abr rfl)
     rw [N2] at hop v1
     have nH := acD hop
     obtain ⟨vA, vn, fj, hvs⟩ : ∃ vA vn fj, vk = .slice vA vn fj := by
      rcases hop.2 with ⟨e, _⟩ | ⟨g', cap', cur', e, _⟩
      ·exact ⟨_, _, _, e⟩
      ·exact ⟨_, _, _, e⟩
     subst hvs
     have YF : b9 < U.heap.size := ag Si.out
     have Nz := acD (show X.heap.size ≤ U.heap.size from KL.out.aF.size)
     have yB := acD (show ∀ (W2 : World) (v2 : Value), ((U.alloc (.cells #[.int .u8 op, .int .i64 ia, .int .i64 ic, .int .i64 id, .int .i64 im] 64)).drew).grownBy W2 (Value.slice vA vn fj).ownBlock → W2.ownsRow X.heap.size 64 5 v2 (j + 1) (eX (codeFrom cd (ln : Int) j) ++ [.int .u8 op, .int .i64 ia, .int .i64 ic, .int .i64 id, .int .i64 im]) → (v2.ownBlock = (Value.slice vA vn fj).ownBlock ∨ v2.ownBlock = some ((U.alloc (.cells #[.int .u8 op, .int .i64 ia, .int .i64 ic, .int .i64 id, .int .i64 im] 64)).drew).heap.size) →
       CM X (W2.setCell ⟨cb, k, none⟩ v2) ab cb rb ib pb gn (.slice (some ⟨gq, pG, none⟩) gn cj) (.slice PA P.length dV) (upd tL k v2) (mE (pZ cd G) k (codeFrom cd (ln : Int) (j + 1))) ∧ (W2.setCell ⟨cb, k, none⟩ v2).heap[b9]? = some (.cells #[.int .i64 (ln : Int), .int .i64 (hn : Int), .slice nA xu cT] 36 (0, 0)) from fun W2 v2 hg2 ho2 zU => by
      have bD : Below U.heap.size U ((U.alloc (.cells #[.int .u8 op, .int .i64 ia, .int .i64 ic, .int .i64 id, .int .i64 im] 64)).drew) := Below.drew ((Below.refl _ _).alloc (Nat.le_refl _) _)
      have h3 := KL.out.app (y := aA cd ((ln : Int) + (j : Int))) hlt bD (by rw [Xl.out]; exact hg2) (by rw [pK, gR, tP, HI.out]; exact ho2) (by rw [Xl.out]; exact zU)
      rw [pK, Ie, ← gm] at h3
      refine ⟨h3, ?_⟩
      rw [Below.heap_setCell _ _ _ _ (by
       show b9 ≠ cb
       intro e
       obtain ⟨cs, hcs⟩ := dW KL.out.lu (q := cb) rfl
       exact aL Si.out hcs abr e)]
      rw [(grown_of bD hg2).block b9 YF (fun e => HN9.out e)]
      exact Si.out)
     clear hU bU Uy Nc hb2 hop N2 t0 t1 t2 t3
     refine wp_region_noPanic ?_
     go_region_law (refine gG rfl (.tmp 78) (.tmp 80) 50 rfl X.heap.size 64 iI _ 5 40 Tryz.underlying50 Ob Og Kf Ke rfl abr (.slice vA vn fj) j (eX (codeFrom cd (ln : Int) j)) abX (World.ownsRow.alloc (World.ownsRow.drew nH.out) _) ⟨U.heap.size, 0, none⟩ 1 1 [.int .u8 op, .int .i64 ia, .int .i64 ic, .int .i64 id, .int .i64 im] abX rfl (nk _ _ _ _ _ _ _) abt abv abo (by show X.heap.size ≤ (World.alloc _ _).heap.size; rw [World.size_alloc]; have := Nz.out; show X.heap.size ≤ U.heap.size + 1; omega) ?_; intro v' W2 hown2 hgrow2 zW; obtain ⟨g2, ym, rfl⟩ := ownsRow_succ hown2; have hc1 := hgrow2.cell (a := ⟨cb, k, none⟩) (v := .slice vA vn fj) abF QM.out; have hc2 := hgrow2.cell (a := ⟨ab, 2, none⟩) (v := .slice (some ⟨cb, 0, none⟩) gn gn) abF Z6.out; have hf1 : W2.frozen? ⟨cb, k, none⟩ = false := (World.frozen?_of_block (hgrow2.block cb abA QM.out)).trans abF)
     all_goals
      have F1 := acD (yB.out W2 _ hgrow2 hown2 zW)
      clear hgrow2 hown2 zW hc1 hc2 hf1
      refine NoPanic.normal ?_
      go_wp2_with fail
      go_roundw
      case rel => exact ⟨j + 1, _, by omega, by first | rfl | (congr 1; omega) | go_num, F1.out.1, F1.out.2⟩
      case measure => simp [intOf]; omega
    ·obtain rfl : j = hn - ln := by omega
     have dl2 : decide ((ln : Int) + ((hn - ln : Nat) : Int) < (hn : Int)) = false := decide_eq_false abo
     have tv := acD (show CM X wr ab cb rb ib pb gn (.slice (some ⟨gq, pG, none⟩) gn cj) (.slice PA P.length dV) tL (mE (pZ cd G) (k + 1) []) by rw [← Ep, Q8.out]; exact SB.out)
     go_wp2_with fail
     go_roundw
     case rel => exact ⟨k + 1, tL, by omega, by go_num, tv.out⟩
     case measure => simp [intOf]; omega
  ·obtain rfl : k = gn := by omega
   have dl : decide ((k : Int) < (k : Int)) = false := by simp
   obtain ⟨-, u3, u7⟩ := HM.out.cells
   obtain ⟨ua, -, ur, -, -⟩ := HM.out.lt
   obtain ⟨u4, u5⟩ := OJ HM.out.dZ hg0
   have iz : (0 : Int) < (k : Int) := by omega
   have Pn : ∀ (q : Nat) (x : dL) (b : AB), G[q]? = some x → (bz cd G)[q]? = some b → x.nx = b.nx := fun q x b h1 h2 => by
    obtain ⟨x', e1, e2⟩ := lH h2
    rw [h1] at e1
    cases e1
    rw [e2]
   have PG : ∀ (q : Nat) (b : AB), (bz cd G)[q]? = some b → mE (pZ cd G) k [] q = b.code := fun q b h2 => by
    obtain ⟨x', e1, e2⟩ := lH h2
    have hq : q < k := by have := (List.getElem?_eq_some_iff.1 e1).1; rw [oL.out] at this; exact this
    unfold mE pZ
    rw [if_pos hq, e2, show G.getD q ⟨0, 0, []⟩ = x' by simp [List.getD, e1]]
   have hbl : (bz cd G).length = k := by rw [uY]; exact oL.out
   have ug := acD (HM.out.start (B := bz cd G) (G := G) (Ox.out.below (BV.out.trans (BX.out.mono BV.out.size))) hbl oL.out hg0 abo Pn PG)
   have nC := acD hbl
   have UO := acD N7
   clear Pn PG hbl u7
   go_upto_region 18 with fail
   obtain ⟨W2, hW2⟩ : ∃ W2, wr.setCell ⟨rb, 0, none⟩ (.bool true) = W2 := ⟨_, rfl⟩
   rw [hW2]
   rw [hW2] at ug
   have KU := acD (show ∀ (q : Nat) (b : AB), (bz cd G)[q]? = some b → Vu (bz cd G).length b from fun q b h2 => by
    obtain ⟨x', e1, e2⟩ := lH h2
    have := (qp.out x' (List.mem_of_getElem? e1)).Zz
    rw [e2, uY]
    exact this)
   have II := acD (HT.out.below (BV.out.trans (BX.out.mono BV.out.size)))
   clear hW2 u3 u4 u5 ua ur
   go_loopg [13] (gH (ct k) k + 1) (fun gk a13 wr => ∃ (s : AS) (c : Bool), a13 = .bool c ∧ gH s k + (if c = true then 1 else 0) ≤ gk ∧ An X wr ab cb rb ib pb (.slice GA k cj) (.slice PA P.length dV) G (bz cd G) val s ∧ (c = true → ∀ s', Ends (bz cd G) s s' → Ends (bz cd G) (ct k) s') ∧ (c = false → Ends (bz cd G) (ct k) s))
   case atStart => exact ⟨ct k, true, rfl, by simp, ug.out, fun _ s' h => h, fun h => by cases h⟩
   case round =>
    obtain ⟨s, c, rfl, DW, hA, hc1, hc2⟩ := hrel
    have HA := acD hA
    have yM := acD hc1
    have oM := acD hc2
    clear hA hc1 hc2 ug
    cases c with
    | true =>
     have Vi := acD (show gH s k + 1 ≤ gk by simpa using DW)
     clear DW oM
     have e0 : wr.cell? ⟨w.heap.size + 1, 0, none⟩ = _ := (HA.out.aF.cell (p := ⟨w.heap.size + 1, 0, none⟩) lX).trans c0
     have le0 : w.heap.size + 1 < wr.heap.size := by have := HA.out.aF.size; omega
     go_upto_region 21 with fail
     clear e0 le0
     obtain ⟨wo, DK⟩ : ∃ wo : World, wo = wr := ⟨_, rfl⟩
     subst DK
     go_loopw [13, 93] (fun a13 a93 wz => ∃ q : Nat, q ≤ k ∧ a93 = .int .i64 (q : Int) ∧ a13 = .bool (bQ (bz cd G) s q).2 ∧ An X wz ab cb rb ib pb (.slice GA k cj) (.slice PA P.length dV) G (bz cd G) val (bQ (bz cd G) s q).1) (fun _ a93 _ => k - (intOf a93).toNat)
     case atStart => exact ⟨0, by omega, rfl, rfl, HA.out⟩
     case round =>
      obtain ⟨q, hq, rfl, rfl, LN⟩ := hrel
      have je := acD LN
      clear LN
      by_cases hlt3 : q < k
      ·have dl3 : decide ((q : Int) < (k : Int)) = true := decide_eq_true abo
       have dq : (q : Int) < (k : Int) := by omega
       obtain ⟨sq, G3⟩ : ∃ sq, bQ (bz cd G) s q = sq := ⟨_, rfl⟩
       have QG := acD G3
       rw [G3] at je
       rw [G3]
       obtain ⟨b, hb⟩ : ∃ b, (bz cd G)[q]? = some b := ⟨_, List.getElem?_eq_getElem (by rw [nC.out]; exact hlt3)⟩
       obtain ⟨t1, t2, -, -, -⟩ := je.out.lt
       obtain ⟨-, -, t3, -, -⟩ := je.out.cells
       rw [nC.out] at t3
       have t4 := (je.out.gO (t := q) (by rw [nC.out]; exact hlt3)).1
       have tr : rb < wr.heap.size := je.out.lt.2.2.1
       have LY := acD (Cr je.out hb (KU.out q b hb) II.out)
       have hgb : (bz cd G).getD q ⟨[], []⟩ = b := by simp [List.getD, hb]
       rcases mK : sq.1.reach.getD q false with _ | _
       ·rw [mK] at t4
        have HST := acD (show bQ (bz cd G) s (q + 1) = sq by simp only [bQ]; rw [QG.out, mK]; simp)
        clear G3 hb mK hgb
        go_wp2_with fail
        go_roundw
        case rel => exact ⟨q + 1, by omega, by go_num, by rw [HST.out], by rw [HST.out]; exact je.out⟩
        case measure => simp [intOf]; omega
       ·rw [mK] at t4
        have HST := acD (show bQ (bz cd G) s (q + 1) = ((fS b q sq.1).1, sq.2 || (fS b q sq.1).2) by simp only [bQ]; rw [QG.out, mK, if_pos rfl, hgb])
        clear G3 hb mK hgb
        rcases MQ : (fS b q sq.1).2 with _ | _
        ·rw [MQ] at LY HST
         clear MQ
         go_wp2_with (go_at_call 25; refine LY.out.mono ?_; rintro e w3 ⟨rfl, Oh, Nd⟩)
         go_roundw
         case rel => exact ⟨q + 1, by omega, by go_num, by rw [HST.out]; simp, by rw [HST.out]; exact Oh⟩
         case measure => simp [intOf]; omega
        ·rw [MQ] at LY HST
         clear MQ
         go_wp2_with (go_at_call 25; refine LY.out.mono ?_; rintro e w3 ⟨rfl, Oh, Nd⟩)
         go_roundw
         case rel => exact ⟨q + 1, by omega, by go_num, by rw [HST.out]; simp, by rw [HST.out]; exact Oh⟩
         case measure => simp [intOf]; omega
      ·obtain rfl : q = k := by omega
       have dl3 : decide ((q : Int) < (q : Int)) = false := by simp
       have hpa := oW (fun b hb => by
        obtain ⟨i, hi, e⟩ := List.getElem_of_mem hb
        have := (KU.out i b (by rw [← e]; exact List.getElem?_eq_getElem hi)).f.ok
        rwa [nC.out] at this) nC.out (by have := HA.out.kH; rwa [nC.out] at this) q (Nat.le_refl _)
       have U4 := acD hpa
       have Jh := acD (show ((bQ (bz cd G) s q).2 = true → ∀ s', Ends (bz cd G) (bQ (bz cd G) s q).1 s' → Ends (bz cd G) (ct q) s') ∧ ((bQ (bz cd G) s q).2 = false → Ends (bz cd G) (ct q) (bQ (bz cd G) s q).1) from
        ⟨fun h s' h2 => yM.out ab7 s' (Ends.more acy (by rw [nC.out]; exact h2)), fun h => yM.out ab7 _ (by
         have := Ends.done (B := bz cd G) (s := s) acy
         rwa [nC.out] at this)⟩)
       clear hpa
       go_wp2_with fail
       go_roundg (gH (bQ (bz cd G) s q).1 q + (if (bQ (bz cd G) s q).2 = true then 1 else 0))
       case measure =>
        obtain ⟨-, h1, h2⟩ := U4.out
        have h3 := Vi.out
        rcases Ph : (bQ (bz cd G) s q).2 with _ | _
        ·rw [h2 Ph]; simp; omega
        ·have := h1 Ph; simp; omega
       case rel => exact ⟨_, _, rfl, Nat.le_refl _, je.out, Jh.out.1, Jh.out.2⟩
    | false =>
     have HE := acD (oM.out ab7)
     clear yM oM DW
     go_upto_region 26 with fail
     obtain ⟨Z, Zb⟩ : ∃ Z : World, Z = wr := ⟨_, rfl⟩
     subst Zb
     obtain ⟨t1, -, t5, t6, -⟩ := HA.out.lt
     obtain ⟨-, -, t3, t4, -⟩ := HA.out.cells
     rw [nC.out] at t3 t4
     go_cut [15] from 109 to 117 (fun a15 wx => ∃ b15, a15 = .pointer (some ⟨b15, 0, none⟩) ∧ wx.heap[b15]? = some (.cells #[.slice (some ⟨rb, 0, none⟩) k k, .slice (some ⟨ib, 0, none⟩) k k, .slice none 0 0] 42 (0, 0)) ∧ Z.heap.size ≤ b15 ∧ Below Z.heap.size Z wx)
     case first =>
      go_region
      all_goals
       go_wp2_with fail
       go_meet
       case rel => exact ⟨_, rfl, heap_alloc_new _ _, Nat.le_refl _, (Below.drew (Below.refl _ _)).alloc (Nat.le_refl _) _⟩
     obtain ⟨b15, rfl, kd, hbd, bZ⟩ := hcut
     obtain ⟨W6, Zf⟩ : ∃ W6 : World, W6 = wc := ⟨_, rfl⟩
     subst Zf
     have HDM := acD (show DM Z W6 b15 rb ib k (.slice none 0 0) [] from ⟨bZ, hbd, kd, World.ownsRow_nil _ _ _ _⟩)
     obtain ⟨iP, RL, RO, RN, RM⟩ := info_parts infoP
     have Om := acD (HA.out.aF)
     have Uv : Below X.heap.size X W6 := HA.out.aF.trans (bZ.mono HA.out.aF.size)
     have e0 : W6.cell? ⟨w.heap.size + 1, 0, none⟩ = _ := (Uv.cell (p := ⟨w.heap.size + 1, 0, none⟩) lX).trans c0
     have le0 : w.heap.size + 1 < W6.heap.size := by have := Uv.size; omega
     have Vk := acD (lW (B := bz cd G) (s := s) (fun q b hb => (KU.out q b hb).tF))
     clear t1 t3 t4 t5 t6 kd hbd bZ Uv
     go_upto_region 28 with fail
     clear e0 le0
     go_loopw [121] (fun Ns wz => ∃ (q : Nat) (dv : Value), q ≤ k ∧ Ns = .int .i64 (q : Int) ∧ DM Z wz b15 rb ib k dv (cZ (bz cd G) s q)) (fun Ns _ => k - (intOf Ns).toNat)
     case atStart => exact ⟨0, _, by omega, rfl, HDM.out⟩
     case round =>
      obtain ⟨q, dv, hq, rfl, hD⟩ := hrel
      have HD := acD hD
      clear hD
      by_cases J2 : q < k
      ·have dl4 : decide ((q : Int) < (k : Int)) = true := decide_eq_true abo
       have dq : (q : Int) < (k : Int) := by omega
       have Rc := acD (HA.out.below HD.out.aF)
       obtain ⟨x, hx⟩ : ∃ x, G[q]? = some x := ⟨_, List.getElem?_eq_getElem (by rw [oL.out]; exact J2)⟩
       have hgo := qp.out x (List.mem_of_getElem? hx)
       obtain ⟨gq, pG, rfl, Kh, gc⟩ := wD.out (by rw [oL.out]; omega)
       obtain ⟨e0, e1, nv, e2, I7⟩ := gc q x hx
       obtain ⟨nA, cT, rfl, n1, n2, n4⟩ := I7
       have n3 := fX n2
       have bw : Below w.heap.size w wr := BV.out.trans ((BX.out.trans (Rc.out.aF.mono BX.out.size)).mono BV.out.size)
       have f0 : wr.cell? ⟨gq, pG + q * 3, none⟩ = _ := (bw.cell (p := ⟨gq, _, none⟩) Kh).trans e0
       have f1 : wr.cell? ⟨gq, pG + q * 3 + 1, none⟩ = _ := (bw.cell (p := ⟨gq, _, none⟩) Kh).trans e1
       have f2 : wr.cell? ⟨gq, pG + q * 3 + 2, none⟩ = _ := (bw.cell (p := ⟨gq, _, none⟩) Kh).trans e2
       have lg : gq < wr.heap.size := by have := bw.size; omega
       obtain ⟨xu, MO⟩ : ∃ v, x.nx.length = v := ⟨_, rfl⟩
       have YJ : xu ≤ 1000 := by rw [← MO]; exact hgo.tF
       rw [MO] at f2 n1
       obtain ⟨b, hb⟩ : ∃ b, (bz cd G)[q]? = some b := ⟨_, List.getElem?_eq_getElem (by rw [nC.out]; exact J2)⟩
       have Od : b.nx = x.nx := by
        obtain ⟨x', h1, h2⟩ := lH hb
        rw [hx] at h1
        cases h1
        rw [h2]
       have hgb : (bz cd G).getD q ⟨[], []⟩ = b := by simp [List.getD, hb]
       have HB := acD (KU.out q b hb)
       have E9 := acD hb
       have yN := acD Od
       have Nz := acD MO
       obtain ⟨r1, -, r3, -, -⟩ := Rc.out.lt
       obtain ⟨-, -, r5, -, -⟩ := Rc.out.cells
       rw [nC.out] at r5
       have r6 := (Rc.out.gO (t := q) (by rw [nC.out]; exact J2)).1
       have yI := acD (show ∀ (j : Nat) (t : Int), x.nx[j]? = some t → ∃ nb fT, nA = some ⟨nb, fT, none⟩ ∧ nb < w.heap.size ∧ w.cell? ⟨nb, fT + j, none⟩ = some (.int .i64 t) from fun j t hj => by
        have hl := (List.getElem?_eq_some_iff.1 hj).1
        obtain ⟨nb, fT, ha, hb2, hcc⟩ := n4 abo
        exact ⟨nb, fT, ha, hb2, by rw [hcc j hl, show x.nx.getD j 0 = t by simp [List.getD, hj]]⟩)
       have Me := acD bw
       have IY := acD (show cZ (bz cd G) s (q + 1) = cZ (bz cd G) s q ++ (if s.reach.getD q false = true then dO b q b.nx.length (s.bH.getD q []) else []) by rw [ni, hgb])
       have EW := Vk.out q
       clear hgo e0 e1 e2 gc MO hx hb Od hgb n4 n2 bw
       rcases mK : s.reach.getD q false with _ | _
       ·rw [mK] at r6 IY
        simp only [Bool.false_eq_true, if_false, List.append_nil] at IY
        clear mK
        go_wp2_with fail
        go_roundw
        case rel => exact ⟨q + 1, dv, by omega, by go_num, by rw [IY.out]; exact HD.out.below ((Below.refl _ _).alloc (Nat.le_refl _) _)⟩
        case measure => simp [intOf]; omega
       ·rw [mK] at r6 IY
        rw [if_pos rfl] at IY
        clear mK
        go_upto_region 31 with fail
        obtain ⟨b17, Nb⟩ : ∃ b17, wr.heap.size = b17 := ⟨_, rfl⟩
        obtain ⟨Y, hY⟩ : ∃ Y, wr.alloc (.cells #[.int .i64 x.lo, .int .i64 x.hi, .slice nA xu cT] 36) = Y := ⟨_, rfl⟩
        rw [hY]
        have bY : Below wr.heap.size wr Y := hY ▸ (Below.refl _ _).alloc (Nat.le_refl _) _
        have kY : Y.heap[b17]? = some (.cells #[.int .i64 x.lo, .int .i64 x.hi, .slice nA xu cT] 36 (0, 0)) := by rw [← Nb, ← hY]; exact heap_alloc_new _ _
        rw [Nb]
        have Q4 := acD (HD.out.below bY)
        have wE := acD (Rc.out.below bY)
        have KY := acD kY
        have y17 : Y.cell? ⟨b17, 2, none⟩ = some (.slice nA xu cT) := by simp [World.cell?, kY]
        have l17 : b17 < Y.heap.size := ag kY
        have tJ := acD (uX wE.out E9.out HB.out.ne HB.out.f.ops (II.out.below wE.out.aF))
        have EM := acD (fun bI (h : cQ b.code (s.bH.getD q []) = some bI) => jK HB.out.f.ops (wE.out.kH.get (by rw [nC.out]; exact J2)) h)
        clear hY bY kY Nb f0 f1 f2 r1 r3 r5 r6
        have XU := acD EW
        rcases hr : cQ b.code (s.bH.getD q []) with _ | bI
        ·rw [hr] at tJ
         have ud := acD hr
         clear hr EM
         go_upto_region 32 with (first | (go_at_call 26; refine tJ.out.mono ?_; rintro e w3 ⟨rfl, hb3⟩; unfold cM) | (refine wpList_store_row rfl 56 (.tmp 18) (.tmp 138) rfl w3.heap.size (aa aq).toArray rfl rfl 56 _ (heap_alloc_new _ _) (hi4 ak) (hi6 ak ak) (aj aq) ?_))
         obtain ⟨Y2, LK⟩ : ∃ Y2, (w3.alloc (.cells acM.toArray 56)).setRow w3.heap.size (aa aq).toArray = Y2 := ⟨_, rfl⟩
         rw [LK]
         have Kv : Below Y.heap.size Y Y2 := LK ▸ below_setRow (hb3.alloc hb3.size _) hb3.size _
         have z17 : Y2.cell? ⟨b17, 2, none⟩ = _ := (Kv.cell (p := ⟨b17, 2, none⟩) l17).trans y17
         have m17 : b17 < Y2.heap.size := by have := Kv.size; omega
         have Vn := acD (Q4.out.below Kv)
         clear LK Kv hb3
         go_upto_region 33 with fail
         clear z17 m17
         obtain ⟨wo, DK⟩ : ∃ wo : World, wo = wr := ⟨_, rfl⟩
         subst DK
         go_loopw [143] (fun a143 wz => ∃ (j : Nat) (dv2 : Value), j ≤ xu ∧ a143 = .int .i64 (j : Int) ∧ DM Z wz b15 rb ib k dv2 (cZ (bz cd G) s q ++ dO b q j (s.bH.getD q []))) (fun a143 _ => xu - (intOf a143).toNat)
         case atStart => exact ⟨0, dv, by omega, rfl, by rw [nj, List.append_nil]; exact Vn.out⟩
         case round =>
          obtain ⟨j, dv2, hj, rfl, PT⟩ := hrel
          have yL := acD PT
          clear PT
          by_cases G9 : j < xu
          ·have dl5 : decide ((j : Int) < (xu : Int)) = true := decide_eq_true abo
           have dj : (j : Int) < (xu : Int) := by omega
           obtain ⟨t, ht⟩ : ∃ t, x.nx[j]? = some t := ⟨_, List.getElem?_eq_getElem (by rw [Nz.out]; exact G9)⟩
           obtain ⟨nb, fT, rfl, hnb, Bo⟩ := yI.out j t ht
           have Ni : Below w.heap.size w wr := BV.out.trans ((BX.out.trans ((Om.out.trans (yL.out.aF.mono Om.out.size)).mono BX.out.size)).mono BV.out.size)
           have x0 : wr.cell? ⟨nb, fT + j, none⟩ = some (.int .i64 t) := (Ni.cell (p := ⟨nb, fT + j, none⟩) hnb).trans Bo
           have NY : nb < wr.heap.size := by have := Ni.size; omega
           obtain ⟨d1, d2, d3⟩ := yL.out.cell
           have HOW := acD yL.out.row
           have TJ := mh b q j (s.bH.getD q [])
           have Zc := yL.out.aF.size
           have E5 := acD (show cZ (bz cd G) s q ++ dO b q (j + 1) (s.bH.getD q []) = cZ (bz cd G) s q ++ dO b q j (s.bH.getD q []) ++ [((q : Int), t)] by
            rw [sD ud.out (by rw [yN.out, Nz.out]; exact G9), yN.out, show x.nx.getD j 0 = t by simp [List.getD, ht], List.append_assoc])
           obtain ⟨LL, DX⟩ : ∃ LL, cZ (bz cd G) s q ++ dO b q j (s.bH.getD q []) = LL := ⟨_, rfl⟩
           have Uc : LL.length ≤ 1000 * q + j := by rw [← DX, List.length_append]; have := XU.out; omega
           rw [DX] at E5 HOW yL
           clear ht Bo Ni TJ DX
           go_wp2_with (at_builtin; refine wpList_append_own_at _ rfl (.tmp 151) (.tmp 155) 40 rfl Z.heap.size 89 iP _ 2 16 Tryz.underlying40 RL RO RN RM rfl abr dv2 LL.length (vI LL) rfl (HOW.out.alloc _) ⟨wr.heap.size, 0, none⟩ 1 1 [.int .i64 (q : Int), .int .i64 t] rfl rfl (nt _ _ _ _) abt abv abo abD ?_; intro v' W' hown' hgrow hni qC; obtain ⟨g3, Ur, rfl⟩ := ownsRow_succ hown'; obtain ⟨TU, hkeep⟩ := yL.out.app (y := ((q : Int), t)) ((Below.refl _ _).alloc (Nat.le_refl _) _) hgrow (by rw [rG]; exact hown'); have h15 : W'.cell? ⟨b15, 2, none⟩ = some dv2 := hgrow.cell (a := ⟨b15, 2, none⟩) (v := dv2) abF (fun e => yL.out.C7 e); have Uj : W'.frozen? ⟨b15, 2, none⟩ = false := (World.frozen?_of_block (hgrow.block b15 abA (fun e => yL.out.C7 e))).trans abF)
           go_roundw
           case rel => exact ⟨j + 1, _, by omega, by go_num, by rw [E5.out]; exact TU⟩
           case measure => simp [intOf]; omega
          ·obtain rfl : j = xu := by omega
           have dl5 : decide ((j : Int) < (j : Int)) = false := by simp
           have tv := acD (show DM Z wr b15 rb ib k dv2 (cZ (bz cd G) s (q + 1)) by rw [IY.out, yN.out, Nz.out]; exact yL.out)
           go_wp2_with fail
           go_roundw
           case rel => exact ⟨q + 1, dv2, by omega, by go_num, tv.out⟩
           case measure => simp [intOf]; omega
        ·rw [hr] at tJ
         have ud := acD hr
         have gv := acD (EM.out bI hr)
         clear hr EM
         go_upto_region 32 with (first | (go_at_call 26; refine tJ.out.mono ?_; rintro e w3 ⟨rfl, hb3⟩; unfold cM) | (refine wpList_store_row rfl 56 (.tmp 18) (.tmp 138) rfl w3.heap.size (aa bI).toArray rfl rfl 56 _ (heap_alloc_new _ _) (hi4 gv.out.len) (hi6 gv.out.len ak) (aj bI) ?_))
         obtain ⟨b18, Na⟩ : ∃ b18, w3.heap.size = b18 := ⟨_, rfl⟩
         obtain ⟨Y2, LK⟩ : ∃ Y2, (w3.alloc (.cells acM.toArray 56)).setRow w3.heap.size (aa bI).toArray = Y2 := ⟨_, rfl⟩
         rw [LK]
         have Kv : Below Y.heap.size Y Y2 := LK ▸ below_setRow (hb3.alloc hb3.size _) hb3.size _
         have VH : aH Y2 b18 56 bI := by rw [← Na, ← LK]; exact aH.row (z := aq) (heap_alloc_new _ _)
         rw [Na]
         have z17 : Y2.cell? ⟨b17, 2, none⟩ = _ := (Kv.cell (p := ⟨b17, 2, none⟩) l17).trans y17
         have m17 : b17 < Y2.heap.size := by have := Kv.size; omega
         have Vn := acD (Q4.out.below Kv)
         have ZM := acD VH
         clear LK Kv hb3 Na VH
         go_upto_region 33 with fail
         clear z17 m17
         obtain ⟨wo, DK⟩ : ∃ wo : World, wo = wr := ⟨_, rfl⟩
         subst DK
         go_loopw [143] (fun a143 wz => ∃ (j : Nat) (dv2 : Value), j ≤ xu ∧ a143 = .int .i64 (j : Int) ∧ DM Z wz b15 rb ib k dv2 (cZ (bz cd G) s q ++ dO b q j (s.bH.getD q [])) ∧ aH wz b18 56 bI) (fun a143 _ => xu - (intOf a143).toNat)
         case atStart => exact ⟨0, dv, by omega, rfl, by rw [nj, List.append_nil]; exact Vn.out, ZM.out⟩
         case round =>
          obtain ⟨j, dv2, hj, rfl, PT, hkb⟩ := hrel
          have yL := acD PT
          have KB := acD hkb
          have gK := acD hkb.range
          clear PT hkb
          by_cases G9 : j < xu
          ·have dl5 : decide ((j : Int) < (xu : Int)) = true := decide_eq_true abo
           have dj : (j : Int) < (xu : Int) := by omega
           obtain ⟨t, ht⟩ : ∃ t, x.nx[j]? = some t := ⟨_, List.getElem?_eq_getElem (by rw [Nz.out]; exact G9)⟩
           obtain ⟨nb, fT, rfl, hnb, Bo⟩ := yI.out j t ht
           have Ni : Below w.heap.size w wr := BV.out.trans ((BX.out.trans ((Om.out.trans (yL.out.aF.mono Om.out.size)).mono BX.out.size)).mono BV.out.size)
           have x0 : wr.cell? ⟨nb, fT + j, none⟩ = some (.int .i64 t) := (Ni.cell (p := ⟨nb, fT + j, none⟩) hnb).trans Bo
           have NY : nb < wr.heap.size := by have := Ni.size; omega
           have X7 := acD (HA.out.below yL.out.aF)
           have oI := acD (x6 X7.out E9.out HB.out.ne HB.out.tF HB.out.f.op j bI gv.out (II.out.below X7.out.aF))
           have TJ := mh b q j (s.bH.getD q [])
           have E5 := acD (show cZ (bz cd G) s q ++ dO b q (j + 1) (s.bH.getD q []) = cZ (bz cd G) s q ++ dO b q j (s.bH.getD q []) ++ (if (dK b.last b.nx.length j bI).isNone = true then [((q : Int), t)] else []) by
            rw [sA ud.out, show b.nx.getD j 0 = t by rw [yN.out]; simp [List.getD, ht], List.append_assoc])
           obtain ⟨LL, DX⟩ : ∃ LL, cZ (bz cd G) s q ++ dO b q j (s.bH.getD q []) = LL := ⟨_, rfl⟩
           have Uc : LL.length ≤ 1000 * q + j := by rw [← DX, List.length_append]; have := XU.out; omega
           rw [DX] at E5 yL
           clear ht Bo Ni TJ DX
           rcases he : dK b.last b.nx.length j bI with _ | r
           ·rw [he] at oI E5
            simp only [Option.isNone_none, if_true] at E5
            clear he
            go_upto_region 39 with (first | (refine wpList_load_mid rfl _ _ rfl _ _ rfl (aa bI) _ gK.out Tryz.underlying56 rfl (hi3 gv.out.len) ?_) | (go_at_call 27; refine oI.out.mono ?_; rintro e w5 ⟨rfl, hb5⟩; unfold cM) | (refine wpList_store_row rfl 56 (.tmp 22) (.tmp 164) rfl w5.heap.size (aa aq).toArray rfl rfl 56 _ (heap_alloc_new _ _) (hi4 ak) (hi6 ak ak) (aj aq) ?_))
            obtain ⟨U, hU⟩ : ∃ U, (w5.alloc (.cells acM.toArray 56)).setRow w5.heap.size (aa aq).toArray = U := ⟨_, rfl⟩
            rw [hU]
            have bU : Below wr.heap.size wr U := hU ▸ below_setRow (hb5.alloc hb5.size _) hb5.size _
            have Oy := acD (yL.out.below bU)
            have ZK := acD (KB.out.keep bU)
            obtain ⟨d1, d2, d3⟩ := Oy.out.cell
            have HOW := acD Oy.out.row
            have Zc := Oy.out.aF.size
            clear hU bU hb5 x0 NY
            go_wp2_with (at_builtin; refine wpList_append_own_at _ rfl (.tmp 169) (.tmp 173) 40 rfl Z.heap.size 89 iP _ 2 16 Tryz.underlying40 RL RO RN RM rfl abr dv2 LL.length (vI LL) rfl (HOW.out.alloc _) ⟨U.heap.size, 0, none⟩ 1 1 [.int .i64 (q : Int), .int .i64 t] rfl rfl (nt _ _ _ _) abt abv abo abD ?_; intro v' W' hown' hgrow hni qC; obtain ⟨g3, Ur, rfl⟩ := ownsRow_succ hown'; obtain ⟨TU, hkeep⟩ := Oy.out.app (y := ((q : Int), t)) ((Below.refl _ _).alloc (Nat.le_refl _) _) hgrow (by rw [rG]; exact hown'); have h15 : W'.cell? ⟨b15, 2, none⟩ = some dv2 := hgrow.cell (a := ⟨b15, 2, none⟩) (v := dv2) abF (fun e => Oy.out.C7 e); have Uj : W'.frozen? ⟨b15, 2, none⟩ = false := (World.frozen?_of_block (hgrow.block b15 abA (fun e => Oy.out.C7 e))).trans abF)
            go_roundw
            case rel => exact ⟨j + 1, _, by omega, by go_num, by rw [E5.out]; exact TU, hkeep _ _ _ ZK.out abr abr⟩
            case measure => simp [intOf]; omega
           ·rw [he] at oI E5
            simp only [Option.isNone_some, Bool.false_eq_true, if_false, List.append_nil] at E5
            have Qs := acD (lp gv.out he)
            clear he
            go_wp2_with (first | (refine wpList_load_mid rfl _ _ rfl _ _ rfl (aa bI) _ gK.out Tryz.underlying56 rfl (hi3 gv.out.len) ?_) | (go_at_call 27; refine oI.out.mono ?_; rintro e w5 ⟨rfl, hb5⟩; unfold cM) | (refine wpList_store_row rfl 56 (.tmp 22) (.tmp 164) rfl w5.heap.size (aa r).toArray rfl rfl 56 _ (heap_alloc_new _ _) (hi4 Qs.out.len) (hi6 Qs.out.len ak) (aj r) ?_))
            go_roundw
            case rel =>
             have bU : Below wr.heap.size wr ((w5.alloc (.cells acM.toArray 56)).setRow w5.heap.size (aa r).toArray) := below_setRow (hb5.alloc hb5.size _) hb5.size _
             exact ⟨j + 1, dv2, by omega, by go_num, by rw [E5.out]; exact yL.out.below bU, KB.out.keep bU⟩
            case measure => simp [intOf]; omega
          ·obtain rfl : j = xu := by omega
           have dl5 : decide ((j : Int) < (j : Int)) = false := by simp
           have tv := acD (show DM Z wr b15 rb ib k dv2 (cZ (bz cd G) s (q + 1)) by rw [IY.out, yN.out, Nz.out]; exact yL.out)
           go_wp2_with fail
           go_roundw
           case rel => exact ⟨q + 1, dv2, by omega, by go_num, tv.out⟩
           case measure => simp [intOf]; omega
      ·obtain rfl : q = k := by omega
       have dl4 : decide ((q : Int) < (q : Int)) = false := by simp
       obtain ⟨wf, hwf⟩ : ∃ wf : World, wf = wr := ⟨_, rfl⟩
       subst hwf
       have tJ := acD (HA.out.below HD.out.aF)
       have Xh := acD (show wf.heap[w.heap.size + 1 + 1]? = some (.cells #[.slice none 0 0, .slice none 0 0, .slice none 0 0] 42 (0, 0)) from ((BX.out.trans (tJ.out.aF.mono BX.out.size)).block _ ach).trans K2.out)
       have h15 := HD.out.head
       have o0 : wf.cell? ⟨b15, 0, none⟩ = some (.slice (some ⟨rb, 0, none⟩) q q) := by simp [World.cell?, h15]
       have o1 : wf.cell? ⟨b15, 1, none⟩ = some (.slice (some ⟨ib, 0, none⟩) q q) := by simp [World.cell?, h15]
       have o2 : wf.cell? ⟨b15, 2, none⟩ = some dv := by simp [World.cell?, h15]
       have lo := ag h15
       obtain ⟨vA, vn, vc, rfl⟩ : ∃ vA vn vc, dv = .slice vA vn vc := by
        rcases HD.out.row.2 with ⟨e, _⟩ | ⟨g', cap', cur', e, _⟩
        ·exact ⟨_, _, _, e⟩
        ·exact ⟨_, _, _, e⟩
       have BWF := acD (BV.out.trans ((BX.out.trans (tJ.out.aF.mono BX.out.size)).mono BV.out.size))
       clear h15
       go_wp2_with (refine wpList_store_row rfl 42 (.tmp 4) (.tmp 178) rfl (w.heap.size + 1 + 1) #[.slice (some ⟨rb, 0, none⟩) q q, .slice (some ⟨ib, 0, none⟩) q q, .slice vA vn vc] rfl rfl 42 _ Xh.out abp rfl abt ?_)
       have Y9 : Below w.heap.size w (wf.setRow (w.heap.size + 1 + 1) #[.slice (some ⟨rb, 0, none⟩) q q, .slice (some ⟨ib, 0, none⟩) q q, .slice vA vn vc]) := below_setRow BWF.out abo _
       refine bodyPost_ret (results_cell_tmp (P := Tryz.prog) Tryz.results7 _ _ (w.heap.size + 1 + 1) [.slice (some ⟨rb, 0, none⟩) q q, .slice (some ⟨ib, 0, none⟩) q q, .slice vA vn vc] _ rfl (au (setRow_heap _ _ _ _ _ _ Xh.out)) Tryz.underlying42 rfl abp) rfl ⟨⟨s, _, _, _, HE.out, rfl, ?_, ?_, ?_⟩, Y9⟩
       ·have hne : ∀ z, z ≠ w.heap.size + 1 + 1 → (wf.setRow (w.heap.size + 1 + 1) #[.slice (some ⟨rb, 0, none⟩) q q, .slice (some ⟨ib, 0, none⟩) q q, .slice vA vn vc]).heap[z]? = wf.heap[z]? := fun z hz => setRow_other _ _ _ _ hz
        have s1 : s.reach.length = q := by have := tJ.out.kH.l1; rwa [nC.out] at this
        have s2 : s.bH.length = q := by have := tJ.out.kH.l2; rwa [nC.out] at this
        have x1 := tJ.out.rV
        have x2 := tJ.out.iV
        have x3 := SV.out
        have x4 := BX.out.size
        refine ⟨⟨_, q, by rw [s1], by omega, by unfold maxLen; omega, fun _ => ⟨rb, 0, rfl, by have := tJ.out.lt; simp [World.setRow]; omega, fun p hp => ?_⟩⟩, ⟨_, q, by rw [s2], by omega, by unfold maxLen; omega, fun _ => ⟨ib, 0, rfl, by have := tJ.out.lt; simp [World.setRow]; omega, fun p hp => ?_⟩⟩⟩
        ·rw [Nat.zero_add, World.cell?_of_block (hne rb abo)]
         exact (tJ.out.gO (by rw [nC.out]; omega)).1
        ·rw [Nat.zero_add]
         intro jj vv YK
         rw [World.cell?_of_block (hne ib abo)]
         exact tJ.out.gJ (by rw [nC.out]; omega) jj vv YK
       ·have hp := Ba HD.out.row
        obtain ⟨A', cap', e1, e2, e3, e4⟩ := hp
        refine ⟨A', cap', e1, e2, e3, fun h0 => ?_⟩
        obtain ⟨b', off', ea, eb, ec⟩ := e4 h0
        refine ⟨b', off', ea, by simp [World.setRow]; omega, fun i p hi => ?_⟩
        obtain ⟨c1', Us⟩ := ec i p hi
        have hnb : b' ≠ w.heap.size + 1 + 1 := by
         have h1 := (HD.out.row.lt b' (by rw [e1, ea]; rfl)).1
         have h2 := Om.out.size
         have x3 := SV.out
         have x4 := BX.out.size
         omega
        exact ⟨by rw [World.cell?_of_block (setRow_other _ _ _ _ hnb)]; exact c1', by rw [World.cell?_of_block (setRow_other _ _ _ _ hnb)]; exact Us⟩
       ·intro q' h
        have x1 := tJ.out.rV
        have x2 := tJ.out.iV
        have x3 := SV.out
        have x4 := BX.out.size
        have x5 := Om.out.size
        rcases h with h | h | h
        ·have e : rb = q' := by simpa [Value.ownBlock] using h
         omega
        ·have e : ib = q' := by simpa [Value.ownBlock] using h
         omega
        ·have := (HD.out.row.lt q' h).1
         omega
theorem Iw : wu := fun cv ev bv pv sh lk n cd G P w T HW HG HP hv h0 h1 hok => lF cv ev bv pv sh lk n cd G P w T HW HG HP hv h0 h1 hok
end
end Go.Proofs.YtebklpnkcicpjaaGreatDoor
