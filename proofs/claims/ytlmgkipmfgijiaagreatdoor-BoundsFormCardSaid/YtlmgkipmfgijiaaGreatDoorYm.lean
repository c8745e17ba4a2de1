/-
  What is proved here: parts aAz.
-/
import Derived.Test.YtlmgkipmfgijiaaGreatDoorYa
import Derived.Test.YtlmgkipmfgijiaaGreatDoorYl
namespace Go.Proofs.YtlmgkipmfgijiaaGreatDoor
set_option linter.unusedVariables false
set_option linter.unusedSimpArgs false
set_option maxRecDepth 100000
set_option maxHeartbeats 8000000
section
open Go.RowKit
theorem yE (cv ev bv pv : Value) (sh lk : Int) (n : Nat) (cd : Nat → Int) (G : List aZ) (P : List (List Int)) (w : World) (T : gL w) (HW : Words w cv n cd) (HG : fF w bv G) (HP : l9 w pv P)
  (hv : cm G P) (hg0 : 0 < G.length) (hg1 : G.length ≤ 1000) (hok : ∀ x ∈ G, Qj n cd G x) :
  Calls Tryz.prog 52 #[.agg #[cv, ev, .int .i64 sh, .int .i64 lk], .agg #[bv, pv]] w fun e w' => (∃ s rv iv dv, Ends (aR cd G) (cF G.length) s ∧ e = .returned (.tuple #[.agg #[rv, iv, dv], .int .i64 0]) ∧ sH w' rv iv s.reach s.bu ∧ OL w' dv (fC (aR cd G) s G.length) ∧ SU w.heap.size rv iv dv) ∧ Below w.heap.size w w' := by
 obtain ⟨GA, aW, mH, g2, g3, g4⟩ := id HG
 have g3' := dY g3
 obtain ⟨PA, aT, hpv, p2, p3, p4⟩ := id HP
 obtain ⟨V, hV, k0, k1, k2, bV, sV⟩ := dL w #[cv, ev, .int .i64 sh, .int .i64 lk] #[bv, pv] #[.slice none 0 0, .slice none 0 0, .slice none 0 0] 25 31 59
 have QD : V.heap.size = w.heap.size + 1 + 1 + 1 := by rw [← hV]; simp
 have b0 : V.cell? ⟨w.heap.size + 1, 0, none⟩ = some bv := by simp [World.cell?, k1]
 have b1 : V.cell? ⟨w.heap.size + 1, 1, none⟩ = some pv := by simp [World.cell?, k1]
 have l1 : w.heap.size + 1 < V.heap.size := by omega
 have kE := ahM (jL bv pv G P V (HG.below bV) (HP.below bV) agO (fun x hx => by have := (hok x hx).ug; omega))
 obtain ⟨gn, hgn⟩ : ∃ m, G.length = m := ⟨_, rfl⟩
 rw [hgn] at mH g2 hg0 hg1
 rw [hgn]
 subst mH hpv
 have eM := ahM hgn
 have pF := ahM hok
 have Jn := ahM HW
 have IP := ahM HG
 have HT := ahM T
 have BV := ahM bV
 have SV := ahM QD
 have K0 := ahM k0
 have K2 := ahM k2
 have OS := ahM hv
 have Vp := ahM g4
 clear hgn hok HW HG HP T bV sV QD k0 k1 k2 hv g3 g4 p4 p3
 go_enter Tryz.func52, Tryz.ntmps52
 go_upto_region 3 with (go_at_call 35; refine kE.out.mono ?_; rintro e X ⟨⟨r, rfl, hr⟩, Bq⟩; obtain rfl : r = true := hr.2 OS.out)
 have c0 : X.cell? ⟨w.heap.size + 1, 0, none⟩ = _ := (Bq.cell (p := ⟨w.heap.size + 1, 0, none⟩) l1).trans b0
 have c1 : X.cell? ⟨w.heap.size + 1, 1, none⟩ = _ := (Bq.cell (p := ⟨w.heap.size + 1, 1, none⟩) l1).trans b1
 have lX : w.heap.size + 1 < X.heap.size := by have := Bq.size; omega
 have BX := ahM Bq
 clear b0 b1 hr Bq kE OS hV
 go_upto_region 4 with fail
 obtain ⟨cS, NU⟩ : ∃ c, ((List.range gn).map fun _ => Value.slice none 0 0).toArray = c := ⟨_, rfl⟩
 obtain ⟨cB, hcB⟩ : ∃ c, ((List.replicate gn false).map Value.bool).toArray = c := ⟨_, rfl⟩
 obtain ⟨cR, Xg⟩ : ∃ c, (mj (List.replicate gn aA)).toArray = c := ⟨_, rfl⟩
 obtain ⟨cI, NW⟩ : ∃ c, ((List.replicate gn (0 : Int)).map (Value.int .i64)).toArray = c := ⟨_, rfl⟩
 obtain ⟨iA, Rz, Mn, hA1, Jh⟩ := info_parts Gb
 obtain ⟨iB, Ry, hB0, hB1, hB2⟩ := info_parts Ge
 obtain ⟨iC, hiC, Ob, hC1, hC2⟩ := info_parts NB
 obtain ⟨iD, hiD, Oa, hD1, hD2⟩ := info_parts NC
 have mk1 : ∀ W, (Instr.makeSlice 157 (.int .i64 (gn : Int)) (.int .i64 (gn : Int))).run Tryz.prog W = .ok (.slice (some ⟨W.heap.size, 0, none⟩) gn gn) (W.alloc (.cells cS 144)) := fun W => by
  have hr := run_make (P := Tryz.prog) W 157 144 iA _ Tryz.underlying157 Rz Mn .i64 .i64 (gn : Int) (gn : Int) agO (Int.le_refl _) (by rw [Jh]; omega) agO
  rw [hA1, Int.toNat_natCast] at hr
  rw [hr, ← NU, ← LH]
  rfl
 have mk2 : ∀ W, (Instr.makeSlice 55 (.int .i64 (gn : Int)) (.int .i64 (gn : Int))).run Tryz.prog W = .ok (.slice (some ⟨W.heap.size, 0, none⟩) gn gn) (W.alloc (.cells cB 4)) := fun W => by
  have hr := run_make (P := Tryz.prog) W 55 4 iB _ Tryz.underlying55 Ry hB0 .i64 .i64 (gn : Int) (gn : Int) agO (Int.le_refl _) (by rw [hB2]; omega) agO
  rw [hB1, Int.toNat_natCast] at hr
  rw [hr, ← hcB, ← LI]
  rfl
 have mk3 : ∀ W, (Instr.makeSlice 56 (.int .i64 (gn : Int)) (.int .i64 (gn : Int))).run Tryz.prog W = .ok (.slice (some ⟨W.heap.size, 0, none⟩) gn gn) (W.alloc (.cells cR 174)) := fun W => by
  have hr := run_make (P := Tryz.prog) W 56 174 iC _ Tryz.underlying56 hiC Ob .i64 .i64 (gn : Int) (gn : Int) agO (Int.le_refl _) (by rw [hC2]; omega) agO
  rw [hC1, Int.toNat_natCast] at hr
  rw [hr, ← Xg, ← QT]
  rfl
 have mk4 : ∀ W, (Instr.makeSlice 38 (.int .i64 (gn : Int)) (.int .i64 (gn : Int))).run Tryz.prog W = .ok (.slice (some ⟨W.heap.size, 0, none⟩) gn gn) (W.alloc (.cells cI 3)) := fun W => by
  have hr := run_make (P := Tryz.prog) W 38 3 iD _ Tryz.underlying38 hiD Oa .i64 .i64 (gn : Int) (gn : Int) agO (Int.le_refl _) (by rw [hD2]; omega) agO
  rw [hD1, Int.toNat_natCast] at hr
  rw [hr, ← NW, ← QU]
  rfl
 have TZ := ahM NU
 have T7 := ahM hcB
 have Qd := ahM Xg
 have Vw := ahM NW
 clear NU hcB Xg NW Mn hA1 Jh hB0 hB1 hB2 Ob hC1 hC2 Oa hD1 hD2 Rz Ry hiC hiD
 go_cut [7] from 31 to 41 (fun a7 wx => ∃ ab cb rb ib pb, a7 = .pointer (some ⟨ab, 0, none⟩) ∧ wx.heap[ab]? = some (.cells #[.slice GA gn aW, .slice PA P.length aT, .slice (some ⟨cb, 0, none⟩) gn gn, .slice (some ⟨rb, 0, none⟩) gn gn, .slice (some ⟨ib, 0, none⟩) gn gn, .slice (some ⟨pb, 0, none⟩) gn gn] 169 (0, 0)) ∧ wx.heap[cb]? = some (.cells cS 144 (0, 0)) ∧ wx.heap[rb]? = some (.cells cB 4 (0, 0)) ∧ wx.heap[ib]? = some (.cells cR 174 (0, 0)) ∧ wx.heap[pb]? = some (.cells cI 3 (0, 0)) ∧ (X.heap.size ≤ ab ∧ X.heap.size ≤ cb ∧ X.heap.size ≤ rb ∧ X.heap.size ≤ ib ∧ X.heap.size ≤ pb) ∧ Below X.heap.size X wx)
 case first =>
  go_region_held3 (fun w' => (∀ b o, b < X.heap.size → w'.cell? ⟨b, o, none⟩ = X.cell? ⟨b, o, none⟩) ∧ Below X.heap.size X w') ((exact LR (by (repeat (first | (with_reducible exact Below.refl _ _) | (with_reducible refine Below.drew ?_) | (with_reducible refine Below.alloc ?_ ag8 _)))))) (fail)
  all_goals (go_wp2_with fail; go_meet)
  all_goals
   refine ⟨_, _, _, _, _, rfl, aG _ _ agT, ?_, ?_, ?_, ?_, by omega, ?_⟩
   ·(show (World.alloc _ _).heap[_]? = _); (repeat (first | exact heap_alloc_new _ _ | exact aG _ _ ahh | rw [heap_alloc_old _ _ ahc]))
   ·(show (World.alloc _ _).heap[_]? = _); (repeat (first | exact heap_alloc_new _ _ | exact aG _ _ ahh | rw [heap_alloc_old _ _ ahc]))
   ·(show (World.alloc _ _).heap[_]? = _); (repeat (first | exact heap_alloc_new _ _ | exact aG _ _ ahh | rw [heap_alloc_old _ _ ahc]))
   ·(show (World.alloc _ _).heap[_]? = _); (repeat (first | exact heap_alloc_new _ _ | exact aG _ _ ahh | rw [heap_alloc_old _ _ ahc]))
   ·(repeat (first | (with_reducible exact Below.refl _ _) | (with_reducible refine Below.drew ?_) | (with_reducible refine Below.alloc ?_ ag8 _)))
 obtain ⟨ab, cb, rb, ib, pb, rfl, hd1, hd2, hd3, hd4, hd5, ⟨ha, hc, hr, hi, hp⟩, bW⟩ := hcut
 obtain ⟨W1, hW1⟩ : ∃ W1 : World, W1 = wc := ⟨_, rfl⟩
 subst hW1
 rw [← TZ.out] at hd2
 rw [← T7.out] at hd3
 rw [← Qd.out] at hd4
 rw [← Vw.out] at hd5
 have Vv := ahM (show CM X W1 ab cb rb ib pb gn (.slice GA gn aW) (.slice PA P.length aT) (fun _ => .slice none 0 0) (fun _ => []) from
  ⟨bW, ha, hr, hi, hp, hd1, ⟨by simp, .inr ⟨cb, gn, _, rfl, hc, hd2, Nat.le_refl _, by unfold maxLen; omega, by simp, by simp [List.take_of_length_le]⟩⟩, fun i hi => World.ownsRow_nil _ _ _ _, fun i j hi hj _ q hq => (by cases hq), hd3, hd4, hd5⟩)
 have bW1 := bW.size
 have d0 : W1.cell? ⟨w.heap.size + 1, 0, none⟩ = _ := (bW.cell (p := ⟨w.heap.size + 1, 0, none⟩) lX).trans c0
 have VZ : w.heap.size + 1 < W1.heap.size := by omega
 clear hd1 hd2 hd3 hd4 hd5 ha hc hr hi hp bW TZ T7 Qd Vw mk1 mk2 mk3 mk4
 obtain ⟨iI, pR, pT, nR, nQ⟩ := info_parts Gd
 go_upto_region 6 with fail
 clear d0 VZ
 have Rk := BX.out.size
 go_loopw [45] (fun a45 wr => ∃ (k : Nat) (val : Nat → Value), k ≤ gn ∧ a45 = .int .i64 (k : Int) ∧ CM X wr ab cb rb ib pb gn (.slice GA gn aW) (.slice PA P.length aT) val (eA (cN cd G) k [])) (fun a45 _ => gn - (intOf a45).toNat)
 case atStart => exact ⟨0, _, by omega, rfl, by rw [uI]; exact Vv.out⟩
 case round =>
  obtain ⟨k, val, hk, rfl, hM⟩ := hrel
  have HM := ahM hM
  have ZW := hM.aC.size
  clear hM
  by_cases hlt : k < gn
  ·have dl : decide ((k : Int) < (gn : Int)) = true := decide_eq_true agO
   have dk : (k : Int) < (gn : Int) := by omega
   obtain ⟨x, hx⟩ : ∃ x, G[k]? = some x := ⟨_, List.getElem?_eq_getElem (by rw [eM.out]; exact hlt)⟩
   have hgo := pF.out x (List.mem_of_getElem? hx)
   obtain ⟨gq, jT, rfl, GG, gc⟩ := Vp.out ag5
   obtain ⟨e0, e1, nv, e2, NN⟩ := gc k x hx
   obtain ⟨nA, cY, rfl, n1, n2⟩ := ints_at NN
   have n3 := dY n2
   have bw : Below w.heap.size w wr := BV.out.trans ((BX.out.trans (HM.out.aC.mono BX.out.size)).mono BV.out.size)
   have f0 : wr.cell? ⟨gq, jT + k * 3, none⟩ = _ := (bw.cell (p := ⟨gq, _, none⟩) GG).trans e0
   have f1 : wr.cell? ⟨gq, jT + k * 3 + 1, none⟩ = _ := (bw.cell (p := ⟨gq, _, none⟩) GG).trans e1
   have f2 : wr.cell? ⟨gq, jT + k * 3 + 2, none⟩ = _ := (bw.cell (p := ⟨gq, _, none⟩) GG).trans e2
   have lg : gq < wr.heap.size := by have := bw.size; omega
   obtain ⟨xlo, xO⟩ : ∃ v, x.lo = v := ⟨_, rfl⟩
   obtain ⟨xhi, xP⟩ : ∃ v, x.hi = v := ⟨_, rfl⟩
   obtain ⟨xu, I8⟩ : ∃ v, x.nx.length = v := ⟨_, rfl⟩
   have WS := hgo.lo
   have Ru := hgo.lt
   have oU := hgo.Mq
   rw [xO] at f0 WS Ru oU
   rw [xP] at f1 Ru oU
   rw [I8] at f2 n1
   obtain ⟨ln, rfl⟩ : ∃ ln : Nat, xlo = (ln : Int) := ⟨xlo.toNat, by omega⟩
   obtain ⟨hn, rfl⟩ : ∃ hn : Nat, xhi = (hn : Int) := ⟨xhi.toNat, by omega⟩
   have PB : hn ≤ 1000000 := by
    have h1 := Jn.out.le
    have := (oU (hn - 1) agO agO).1
    omega
   have wD := ahM (show ∀ a : Nat, ln ≤ a → a < hn → a < n ∧ (cg (cd a)).2 = 0 ∧ 0 ≤ (au cd (a : Int)).op from fun a h1 h2 => oU a agO agO)
   have O9 := ahM (show cN cd G k = codeFrom cd (ln : Int) (hn - ln) by
    unfold cN
    rw [show G.getD k ⟨0, 0, []⟩ = x by simp [List.getD, hx], xO, xP]
    congr 1
    omega)
   clear hgo e0 e1 e2 NN gc bw xO xP I8 oU hx n2
   go_upto_region 9 with fail
   obtain ⟨b9, hb9⟩ : ∃ b9, wr.heap.size = b9 := ⟨_, rfl⟩
   obtain ⟨Y, hY⟩ : ∃ Y, wr.alloc (.cells #[.int .i64 (ln : Int), .int .i64 (hn : Int), .slice nA xu cY] 78) = Y := ⟨_, rfl⟩
   rw [hY]
   have bY : Below wr.heap.size wr Y := hY ▸ (Below.refl _ _).alloc (Nat.le_refl _) _
   have kY : Y.heap[b9]? = some (.cells #[.int .i64 (ln : Int), .int .i64 (hn : Int), .slice nA xu cY] 78 (0, 0)) := by rw [← hb9, ← hY]; exact heap_alloc_new _ _
   rw [hb9]
   have KY := ahM kY
   have Vi := ahM (HM.out.below bY)
   have L9 := ahM (show X.heap.size ≤ b9 by omega)
   clear hb9 hY bY kY f0 f1 f2
   obtain ⟨wo, Gg⟩ : ∃ wo : World, wo = wr := ⟨_, rfl⟩
   subst Gg
   go_loopw [10] (fun a10 wz => ∃ (j : Nat) (kK : Nat → Value), j ≤ hn - ln ∧ a10 = .int .i64 ((ln : Int) + (j : Int)) ∧ CM X wz ab cb rb ib pb gn (.slice (some ⟨gq, jT, none⟩) gn aW) (.slice PA P.length aT) kK (eA (cN cd G) k (codeFrom cd (ln : Int) j)) ∧ wz.heap[b9]? = some (.cells #[.int .i64 (ln : Int), .int .i64 (hn : Int), .slice nA xu cY] 78 (0, 0))) (fun a10 _ => hn - (intOf a10).toNat)
   case atStart => exact ⟨0, val, by omega, rfl, Vi.out, KY.out⟩
   case round =>
    obtain ⟨j, kK, hj, rfl, hM2, k9⟩ := hrel
    have IE := ahM hM2
    have K9 := ahM k9
    have hzX := hM2.aC.size
    have z1 : wr.cell? ⟨b9, 1, none⟩ = some (.int .i64 (hn : Int)) := by simp [World.cell?, k9]
    have lz9 : b9 < wr.heap.size := aB k9
    clear hM2 k9
    by_cases hlt2 : j < hn - ln
    ·have dl2 : decide ((ln : Int) + (j : Int) < (hn : Int)) = true := decide_eq_true agO
     obtain ⟨m1, m2, m3⟩ := wD.out (ln + j) agO agO
     have Ji : Below w.heap.size w wr := BV.out.trans ((BX.out.trans (IE.out.aC.mono BX.out.size)).mono BV.out.size)
     have PV := ahM (((BX.out.trans (IE.out.aC.mono BX.out.size)).block _ aho).trans K0.out)
     have t0 : wr.cell? ⟨w.heap.size, 0, none⟩ = some cv := by have := PV.out; simp [World.cell?, this]
     have t1 : wr.cell? ⟨w.heap.size, 1, none⟩ = some ev := by have := PV.out; simp [World.cell?, this]
     have t2 : wr.cell? ⟨w.heap.size, 2, none⟩ = some (.int .i64 sh) := by have := PV.out; simp [World.cell?, this]
     have t3 : wr.cell? ⟨w.heap.size, 3, none⟩ = some (.int .i64 lk) := by have := PV.out; simp [World.cell?, this]
     have lz0 : w.heap.size < wr.heap.size := by omega
     obtain ⟨op, ia, ic, id, im, hi⟩ : ∃ op ia ic id im, au cd ((ln : Int) + (j : Int)) = ⟨op, ia, ic, id, im⟩ := ⟨_, _, _, _, _, rfl⟩
     have IU := ahM (show Calls Tryz.prog 85 #[.agg #[cv, ev, .int .i64 sh, .int .i64 lk], .int .i64 ((ln : Int) + (j : Int))] wr fun e w' => e = .returned (.tuple #[.agg #[.int .u8 op, .int .i64 ia, .int .i64 ic, .int .i64 id, .int .i64 im], .bool true]) ∧ Below wr.heap.size wr w' from by
      have := wQ cv ev sh lk n cd (ln + j) m1 m2 wr (HT.out.below Ji) (Jn.out.below Ji)
      rw [Int.natCast_add, hi] at this
      exact this)
     have HI := ahM hi
     have wl : IntKind.i64.wrap ((ln : Int) + (j : Int) + 1) = (ln : Int) + (j : Int) + 1 := IntWalk.i64_in _ agO
     clear m1 m2 m3 Ji hi
     go_upto_region 14 with (first | (go_at_call 85; refine IU.out.mono ?_; rintro e w2 ⟨rfl, hb2⟩))
     obtain ⟨U, hU⟩ : ∃ U, w2.alloc (.cells #[.int .u8 op, .int .i64 ia, .int .i64 ic, .int .i64 id, .int .i64 im] 67) = U := ⟨_, rfl⟩
     rw [hU]
     have bU : Below w2.heap.size w2 U := hU ▸ (Below.refl _ _).alloc (Nat.le_refl _) _
     obtain ⟨y0, y1, y2, y3, y4, lU⟩ := bL (show U.heap[w2.heap.size]? = some (.cells #[.int .u8 op, .int .i64 ia, .int .i64 ic, .int .i64 id, .int .i64 im] 67 (0, 0)) from hU ▸ heap_alloc_new _ _)
     obtain ⟨b11, N3⟩ : ∃ b, w2.heap.size = b := ⟨_, rfl⟩
     have MF : Below wr.heap.size wr U := hb2.trans (bU.mono hb2.size)
     rw [N3] at y0 y1 y2 y3 y4 lU
     rw [N3]
     have sQ := ahM (IE.out.below MF)
     have Jm := ahM ((MF.block b9 lz9).trans K9.out)
     have v0 := sQ.out.cells.1
     obtain ⟨lab, lcb, -, -, -⟩ := sQ.out.lt
     obtain ⟨v1, v1f⟩ := sQ.out.at_ hlt
     have hop := sQ.out.own k hlt
     rw [fN, ep] at hop
     obtain ⟨vk, Bp⟩ : ∃ v, kK k = v := ⟨_, rfl⟩
     have PX := ahM Bp
     have P0 := ahM (show some cb ≠ vk.ownBlock from fun e' => by
      rw [← Bp] at e'
      exact (sQ.out.yM hlt cb e'.symm).2.2.1 rfl)
     have HNa := ahM (show some ab ≠ vk.ownBlock from fun e' => by
      rw [← Bp] at e'
      exact (sQ.out.yM hlt ab e'.symm).2.1 rfl)
     have Vh := ahM (show some b9 ≠ vk.ownBlock from fun e' => by
      rw [← Bp] at e'
      obtain ⟨cs, hcs⟩ := dG hop e'.symm
      exact aQ hcs Jm.out agQ rfl)
     rw [Bp] at hop v1
     have wu := ahM hop
     obtain ⟨vA, vn, dF, hvs⟩ : ∃ vA vn dF, vk = .slice vA vn dF := by
      rcases hop.2 with ⟨e, _⟩ | ⟨g', cap', cur', e, _⟩
      ·exact ⟨_, _, _, e⟩
      ·exact ⟨_, _, _, e⟩
     subst hvs
     have V7 : b9 < U.heap.size := aB Jm.out
     have Lh := ahM (show X.heap.size ≤ U.heap.size from sQ.out.aC.size)
     have y9 := ahM (show ∀ (W2 : World) (v2 : Value), ((U.alloc (.cells #[.int .u8 op, .int .i64 ia, .int .i64 ic, .int .i64 id, .int .i64 im] 67)).drew).grownBy W2 (Value.slice vA vn dF).ownBlock → W2.ownsRow X.heap.size 67 5 v2 (j + 1) (eR (codeFrom cd (ln : Int) j) ++ [.int .u8 op, .int .i64 ia, .int .i64 ic, .int .i64 id, .int .i64 im]) → (v2.ownBlock = (Value.slice vA vn dF).ownBlock ∨ v2.ownBlock = some ((U.alloc (.cells #[.int .u8 op, .int .i64 ia, .int .i64 ic, .int .i64 id, .int .i64 im] 67)).drew).heap.size) →
       CM X (W2.setCell ⟨cb, k, none⟩ v2) ab cb rb ib pb gn (.slice (some ⟨gq, jT, none⟩) gn aW) (.slice PA P.length aT) (upd kK k v2) (eA (cN cd G) k (codeFrom cd (ln : Int) (j + 1))) ∧ (W2.setCell ⟨cb, k, none⟩ v2).heap[b9]? = some (.cells #[.int .i64 (ln : Int), .int .i64 (hn : Int), .slice nA xu cY] 78 (0, 0)) from fun W2 v2 hg2 ho2 vI => by
      have bD : Below U.heap.size U ((U.alloc (.cells #[.int .u8 op, .int .i64 ia, .int .i64 ic, .int .i64 id, .int .i64 im] 67)).drew) := Below.drew ((Below.refl _ _).alloc (Nat.le_refl _) _)
      have h3 := sQ.out.app (y := au cd ((ln : Int) + (j : Int))) hlt bD (by rw [PX.out]; exact hg2) (by rw [fN, ep, tq, HI.out]; exact ho2) (by rw [PX.out]; exact vI)
      rw [fN, yw, ← ji] at h3
      refine ⟨h3, ?_⟩
      rw [Below.heap_setCell _ _ _ _ (by
       show b9 ≠ cb
       intro e
       obtain ⟨cs, hcs⟩ := dG sQ.out.lH (q := cb) rfl
       exact aQ Jm.out hcs agQ e)]
      rw [(grown_of bD hg2).block b9 V7 (fun e => Vh.out e)]
      exact Jm.out)
     clear hU bU MF N3 hb2 hop Bp t0 t1 t2 t3
     refine wp_region_noPanic ?_
     go_region_law (refine bI rfl (.tmp 78) (.tmp 80) 144 rfl X.heap.size 67 iI _ 5 40 Tryz.underlying144 pR pT nR nQ rfl agQ (.slice vA vn dF) j (eR (codeFrom cd (ln : Int) j)) ahj (World.ownsRow.alloc (World.ownsRow.drew wu.out) _) ⟨U.heap.size, 0, none⟩ 1 1 [.int .u8 op, .int .i64 ia, .int .i64 ic, .int .i64 id, .int .i64 im] ahj rfl (rZ _ _ _ _ _ _ _) agR agS agO ahk ?_; intro v' W2 hown2 hgrow2 xY; obtain ⟨g2, fR, rfl⟩ := ownsRow_succ hown2; have hc1 := hgrow2.cell (a := ⟨cb, k, none⟩) (v := .slice vA vn dF) ag2 P0.out; have hc2 := hgrow2.cell (a := ⟨ab, 2, none⟩) (v := .slice (some ⟨cb, 0, none⟩) gn gn) ag2 HNa.out; have hf1 : W2.frozen? ⟨cb, k, none⟩ = false := (World.frozen?_of_block (hgrow2.block cb agX P0.out)).trans ag2)
     all_goals
      have F1 := ahM (y9.out W2 _ hgrow2 hown2 xY)
      clear hgrow2 hown2 xY hc1 hc2 hf1
      refine NoPanic.normal ?_
      go_wp2_with fail
      go_roundw
      case rel => exact ⟨j + 1, _, by omega, by first | rfl | (congr 1; omega) | go_num, F1.out.1, F1.out.2⟩
      case measure => simp [intOf]; omega
    ·obtain rfl : j = hn - ln := by omega
     have dl2 : decide ((ln : Int) + ((hn - ln : Nat) : Int) < (hn : Int)) = false := decide_eq_false agO
     have sM := ahM (show CM X wr ab cb rb ib pb gn (.slice (some ⟨gq, jT, none⟩) gn aW) (.slice PA P.length aT) kK (eA (cN cd G) (k + 1) []) by rw [← uJ, O9.out]; exact IE.out)
     go_wp2_with fail
     go_roundw
     case rel => exact ⟨k + 1, kK, by omega, by go_num, sM.out⟩
     case measure => simp [intOf]; omega
  ·obtain rfl : k = gn := by omega
   have dl : decide ((k : Int) < (k : Int)) = false := by simp
   obtain ⟨-, u3, u7⟩ := HM.out.cells
   obtain ⟨ua, -, ur, -, -⟩ := HM.out.lt
   obtain ⟨u4, u5⟩ := QE HM.out.eY hg0
   have iz : (0 : Int) < (k : Int) := by omega
   have Ro : ∀ (q : Nat) (x : aZ) (b : AB), G[q]? = some x → (aR cd G)[q]? = some b → x.nx = b.nx := fun q x b h1 h2 => by
    obtain ⟨x', e1, e2⟩ := oh h2
    rw [h1] at e1
    cases e1
    rw [e2]
   have RL : ∀ (q : Nat) (b : AB), (aR cd G)[q]? = some b → eA (cN cd G) k [] q = b.code := fun q b h2 => by
    obtain ⟨x', e1, e2⟩ := oh h2
    have hq : q < k := by have := (List.getElem?_eq_some_iff.1 e1).1; rw [eM.out] at this; exact this
    unfold eA cN
    rw [if_pos hq, e2, show G.getD q ⟨0, 0, []⟩ = x' by simp [List.getD, e1]]
   have hbl : (aR cd G).length = k := by rw [pz]; exact eM.out
   have IX := ahM (HM.out.start (B := aR cd G) (G := G) (IP.out.below (BV.out.trans (BX.out.mono BV.out.size))) hbl eM.out hg0 agO Ro RL)
   have qq := ahM hbl
   have Te := ahM ZW
   clear Ro RL hbl u7
   go_upto_region 18 with fail
   obtain ⟨W2, hW2⟩ : ∃ W2, wr.setCell ⟨rb, 0, none⟩ (.bool true) = W2 := ⟨_, rfl⟩
   rw [hW2]
   rw [hW2] at IX
   have Lv := ahM (show ∀ (q : Nat) (b : AB), (aR cd G)[q]? = some b → Zl (aR cd G).length b from fun q b h2 => by
    obtain ⟨x', e1, e2⟩ := oh h2
    have := (pF.out x' (List.mem_of_getElem? e1)).XS
    rw [e2, pz]
    exact this)
   have X9 := ahM (HT.out.below (BV.out.trans (BX.out.mono BV.out.size)))
   clear hW2 u3 u4 u5 ua ur
   go_loopg [13] (jf (cF k) k + 1) (fun gk a13 wr => ∃ (s : AS) (c : Bool), a13 = .bool c ∧ jf s k + (if c = true then 1 else 0) ≤ gk ∧ An X wr ab cb rb ib pb (.slice GA k aW) (.slice PA P.length aT) G (aR cd G) val s ∧ (c = true → ∀ s', Ends (aR cd G) s s' → Ends (aR cd G) (cF k) s') ∧ (c = false → Ends (aR cd G) (cF k) s))
   case atStart => exact ⟨cF k, true, rfl, by simp, IX.out, fun _ s' h => h, fun h => by cases h⟩
   case round =>
    obtain ⟨s, c, rfl, Jd, hA, hc1, hc2⟩ := hrel
    have HA := ahM hA
    have YY := ahM hc1
    have y7 := ahM hc2
    clear hA hc1 hc2 IX
    cases c with
    | true =>
     have HGK := ahM (show jf s k + 1 ≤ gk by simpa using Jd)
     clear Jd y7
     have e0 : wr.cell? ⟨w.heap.size + 1, 0, none⟩ = _ := (HA.out.aC.cell (p := ⟨w.heap.size + 1, 0, none⟩) lX).trans c0
     have le0 : w.heap.size + 1 < wr.heap.size := by have := HA.out.aC.size; omega
     go_upto_region 21 with fail
     clear e0 le0
     obtain ⟨wo, Gg⟩ : ∃ wo : World, wo = wr := ⟨_, rfl⟩
     subst Gg
     go_loopw [13, 93] (fun a13 a93 wz => ∃ q : Nat, q ≤ k ∧ a93 = .int .i64 (q : Int) ∧ a13 = .bool (cz (aR cd G) s q).2 ∧ An X wz ab cb rb ib pb (.slice GA k aW) (.slice PA P.length aT) G (aR cd G) val (cz (aR cd G) s q).1) (fun _ a93 _ => k - (intOf a93).toNat)
     case atStart => exact ⟨0, by omega, rfl, rfl, HA.out⟩
     case round =>
      obtain ⟨q, hq, rfl, rfl, Jh⟩ := hrel
      have y8 := ahM Jh
      clear Jh
      by_cases hlt3 : q < k
      ·have dl3 : decide ((q : Int) < (k : Int)) = true := decide_eq_true agO
       have dq : (q : Int) < (k : Int) := by omega
       obtain ⟨sq, JZ⟩ : ∃ sq, cz (aR cd G) s q = sq := ⟨_, rfl⟩
       have HSQ := ahM JZ
       rw [JZ] at y8
       rw [JZ]
       obtain ⟨b, hb⟩ : ∃ b, (aR cd G)[q]? = some b := ⟨_, List.getElem?_eq_getElem (by rw [qq.out]; exact hlt3)⟩
       obtain ⟨t1, t2, -, -, -⟩ := y8.out.lt
       obtain ⟨-, -, t3, -, -⟩ := y8.out.cells
       rw [qq.out] at t3
       have t4 := (y8.out.qy (t := q) (by rw [qq.out]; exact hlt3)).1
       have tr : rb < wr.heap.size := y8.out.lt.2.2.1
       have OQ := ahM (CJ y8.out hb (Lv.out q b hb) X9.out)
       have hgb : (aR cd G).getD q ⟨[], []⟩ = b := by simp [List.getD, hb]
       rcases wE : sq.1.reach.getD q false with _ | _
       ·rw [wE] at t4
        have HST := ahM (show cz (aR cd G) s (q + 1) = sq by simp only [cz]; rw [HSQ.out, wE]; simp)
        clear JZ hb wE hgb
        go_wp2_with fail
        go_roundw
        case rel => exact ⟨q + 1, by omega, by go_num, by rw [HST.out], by rw [HST.out]; exact y8.out⟩
        case measure => simp [intOf]; omega
       ·rw [wE] at t4
        have HST := ahM (show cz (aR cd G) s (q + 1) = ((jd b q sq.1).1, sq.2 || (jd b q sq.1).2) by simp only [cz]; rw [HSQ.out, wE, if_pos rfl, hgb])
        clear JZ hb wE hgb
        rcases Uu : (jd b q sq.1).2 with _ | _
        ·rw [Uu] at OQ HST
         clear Uu
         go_wp2_with (go_at_call 86; refine OQ.out.mono ?_; rintro e w3 ⟨rfl, Xw, UR⟩)
         go_roundw
         case rel => exact ⟨q + 1, by omega, by go_num, by rw [HST.out]; simp, by rw [HST.out]; exact Xw⟩
         case measure => simp [intOf]; omega
        ·rw [Uu] at OQ HST
         clear Uu
         go_wp2_with (go_at_call 86; refine OQ.out.mono ?_; rintro e w3 ⟨rfl, Xw, UR⟩)
         go_roundw
         case rel => exact ⟨q + 1, by omega, by go_num, by rw [HST.out]; simp, by rw [HST.out]; exact Xw⟩
         case measure => simp [intOf]; omega
      ·obtain rfl : q = k := by omega
       have dl3 : decide ((q : Int) < (q : Int)) = false := by simp
       have hpa := tZ (fun b hb => by
        obtain ⟨i, hi, e⟩ := List.getElem_of_mem hb
        have := (Lv.out i b (by rw [← e]; exact List.getElem?_eq_getElem hi)).f.ok
        rwa [qq.out] at this) qq.out (by have := HA.out.p8; rwa [qq.out] at this) q (Nat.le_refl _)
       have HPA := ahM hpa
       have Jt := ahM (show ((cz (aR cd G) s q).2 = true → ∀ s', Ends (aR cd G) (cz (aR cd G) s q).1 s' → Ends (aR cd G) (cF q) s') ∧ ((cz (aR cd G) s q).2 = false → Ends (aR cd G) (cF q) (cz (aR cd G) s q).1) from
        ⟨fun h s' h2 => YY.out ahr s' (Ends.more (by rw [qq.out]; exact h) (by rw [qq.out]; exact h2)), fun h => YY.out ahr _ (by
         have := Ends.done (B := aR cd G) (s := s) (by rw [qq.out]; exact h)
         rwa [qq.out] at this)⟩)
       clear hpa
       go_wp2_with fail
       go_roundg (jf (cz (aR cd G) s q).1 q + (if (cz (aR cd G) s q).2 = true then 1 else 0))
       case measure =>
        obtain ⟨-, h1, h2⟩ := HPA.out
        have h3 := HGK.out
        rcases Z0 : (cz (aR cd G) s q).2 with _ | _
        ·rw [h2 Z0]; simp; omega
        ·have := h1 Z0; simp; omega
       case rel => exact ⟨_, _, rfl, Nat.le_refl _, y8.out, Jt.out.1, Jt.out.2⟩
    | false =>
     have HE := ahM (y7.out ahr)
     clear YY y7 Jd
     go_upto_region 26 with fail
     obtain ⟨Z, hZw⟩ : ∃ Z : World, Z = wr := ⟨_, rfl⟩
     subst hZw
     obtain ⟨t1, -, t5, t6, -⟩ := HA.out.lt
     obtain ⟨-, -, t3, t4, -⟩ := HA.out.cells
     rw [qq.out] at t3 t4
     go_cut [15] from 109 to 117 (fun a15 wx => ∃ b15, a15 = .pointer (some ⟨b15, 0, none⟩) ∧ wx.heap[b15]? = some (.cells #[.slice (some ⟨rb, 0, none⟩) k k, .slice (some ⟨ib, 0, none⟩) k k, .slice none 0 0] 59 (0, 0)) ∧ Z.heap.size ≤ b15 ∧ Below Z.heap.size Z wx)
     case first =>
      go_region
      all_goals
       go_wp2_with fail
       go_meet
       case rel => exact ⟨_, rfl, heap_alloc_new _ _, Nat.le_refl _, (Below.drew (Below.refl _ _)).alloc (Nat.le_refl _) _⟩
     obtain ⟨b15, rfl, kd, hbd, bZ⟩ := hcut
     obtain ⟨W6, RP⟩ : ∃ W6 : World, W6 = wc := ⟨_, rfl⟩
     subst RP
     have TR := ahM (show DM Z W6 b15 rb ib k (.slice none 0 0) [] from ⟨bZ, hbd, kd, World.ownsRow_nil _ _ _ _⟩)
     obtain ⟨iP, UB, UL, UK, UJ⟩ := info_parts infoP
     have PW := ahM (HA.out.aC)
     have XN : Below X.heap.size X W6 := HA.out.aC.trans (bZ.mono HA.out.aC.size)
     have e0 : W6.cell? ⟨w.heap.size + 1, 0, none⟩ = _ := (XN.cell (p := ⟨w.heap.size + 1, 0, none⟩) lX).trans c0
     have le0 : w.heap.size + 1 < W6.heap.size := by have := XN.size; omega
     have HDL := ahM (uF (B := aR cd G) (s := s) (fun q b hb => (Lv.out q b hb).ug))
     clear t1 t3 t4 t5 t6 kd hbd bZ XN
     go_upto_region 28 with fail
     clear e0 le0
     go_loopw [121] (fun OG wz => ∃ (q : Nat) (dv : Value), q ≤ k ∧ OG = .int .i64 (q : Int) ∧ DM Z wz b15 rb ib k dv (fC (aR cd G) s q)) (fun OG _ => k - (intOf OG).toNat)
     case atStart => exact ⟨0, _, by omega, rfl, TR.out⟩
     case round =>
      obtain ⟨q, dv, hq, rfl, hD⟩ := hrel
      have HD := ahM hD
      clear hD
      by_cases zU : q < k
      ·have dl4 : decide ((q : Int) < (k : Int)) = true := decide_eq_true agO
       have dq : (q : Int) < (k : Int) := by omega
       have Ua := ahM (HA.out.below HD.out.aC)
       obtain ⟨x, hx⟩ : ∃ x, G[q]? = some x := ⟨_, List.getElem?_eq_getElem (by rw [eM.out]; exact zU)⟩
       have hgo := pF.out x (List.mem_of_getElem? hx)
       obtain ⟨gq, jT, rfl, GG, gc⟩ := Vp.out ag5
       obtain ⟨e0, e1, nv, e2, NN⟩ := gc q x hx
       obtain ⟨nA, cY, rfl, n1, n2, n4⟩ := NN
       have n3 := dY n2
       have bw : Below w.heap.size w wr := BV.out.trans ((BX.out.trans (Ua.out.aC.mono BX.out.size)).mono BV.out.size)
       have f0 : wr.cell? ⟨gq, jT + q * 3, none⟩ = _ := (bw.cell (p := ⟨gq, _, none⟩) GG).trans e0
       have f1 : wr.cell? ⟨gq, jT + q * 3 + 1, none⟩ = _ := (bw.cell (p := ⟨gq, _, none⟩) GG).trans e1
       have f2 : wr.cell? ⟨gq, jT + q * 3 + 2, none⟩ = _ := (bw.cell (p := ⟨gq, _, none⟩) GG).trans e2
       have lg : gq < wr.heap.size := by have := bw.size; omega
       obtain ⟨xu, I8⟩ : ∃ v, x.nx.length = v := ⟨_, rfl⟩
       have adb : xu ≤ 1000 := by rw [← I8]; exact hgo.ug
       rw [I8] at f2 n1
       obtain ⟨b, hb⟩ : ∃ b, (aR cd G)[q]? = some b := ⟨_, List.getElem?_eq_getElem (by rw [qq.out]; exact zU)⟩
       have Ka : b.nx = x.nx := by
        obtain ⟨x', h1, h2⟩ := oh hb
        rw [hx] at h1
        cases h1
        rw [h2]
       have hgb : (aR cd G).getD q ⟨[], []⟩ = b := by simp [List.getD, hb]
       have HB := ahM (Lv.out q b hb)
       have IW := ahM hb
       have kJ := ahM Ka
       have Lh := ahM I8
       obtain ⟨r1, -, r3, -, -⟩ := Ua.out.lt
       obtain ⟨-, -, r5, -, -⟩ := Ua.out.cells
       rw [qq.out] at r5
       have r6 := (Ua.out.qy (t := q) (by rw [qq.out]; exact zU)).1
       have mK := ahM (show ∀ (j : Nat) (t : Int), x.nx[j]? = some t → ∃ nb gN, nA = some ⟨nb, gN, none⟩ ∧ nb < w.heap.size ∧ w.cell? ⟨nb, gN + j, none⟩ = some (.int .i64 t) from fun j t hj => by
        have hl := (List.getElem?_eq_some_iff.1 hj).1
        obtain ⟨nb, gN, ha, hb2, hcc⟩ := n4 agO
        exact ⟨nb, gN, ha, hb2, by rw [hcc j hl, show x.nx.getD j 0 = t by simp [List.getD, hj]]⟩)
       have Pa := ahM bw
       have EX := ahM (show fC (aR cd G) s (q + 1) = fC (aR cd G) s q ++ (if s.reach.getD q false = true then fo b q b.nx.length (s.bu.getD q []) else []) by rw [rU, hgb])
       have hdl := HDL.out q
       clear hgo e0 e1 e2 gc I8 hx hb Ka hgb n4 n2 bw
       rcases wE : s.reach.getD q false with _ | _
       ·rw [wE] at r6 EX
        simp only [Bool.false_eq_true, if_false, List.append_nil] at EX
        clear wE
        go_wp2_with fail
        go_roundw
        case rel => exact ⟨q + 1, dv, by omega, by go_num, by rw [EX.out]; exact HD.out.below ((Below.refl _ _).alloc (Nat.le_refl _) _)⟩
        case measure => simp [intOf]; omega
       ·rw [wE] at r6 EX
        rw [if_pos rfl] at EX
        clear wE
        go_upto_region 31 with fail
        obtain ⟨b17, Gy⟩ : ∃ b17, wr.heap.size = b17 := ⟨_, rfl⟩
        obtain ⟨Y, hY⟩ : ∃ Y, wr.alloc (.cells #[.int .i64 x.lo, .int .i64 x.hi, .slice nA xu cY] 78) = Y := ⟨_, rfl⟩
        rw [hY]
        have bY : Below wr.heap.size wr Y := hY ▸ (Below.refl _ _).alloc (Nat.le_refl _) _
        have kY : Y.heap[b17]? = some (.cells #[.int .i64 x.lo, .int .i64 x.hi, .slice nA xu cY] 78 (0, 0)) := by rw [← Gy, ← hY]; exact heap_alloc_new _ _
        rw [Gy]
        have HDY := ahM (HD.out.below bY)
        have wL := ahM (Ua.out.below bY)
        have KY := ahM kY
        have y17 : Y.cell? ⟨b17, 2, none⟩ = some (.slice nA xu cY) := by simp [World.cell?, kY]
        have l17 : b17 < Y.heap.size := aB kY
        have sZ := ahM (uO wL.out IW.out HB.out.ne HB.out.f.ops (X9.out.below wL.out.aC))
        have Lj := ahM (fun bk (h : gG b.code (s.bu.getD q []) = some bk) => nw HB.out.f.ops (wL.out.p8.get (by rw [qq.out]; exact zU)) h)
        clear hY bY kY Gy f0 f1 f2 r1 r3 r5 r6
        have HDK := ahM hdl
        rcases hr : gG b.code (s.bu.getD q []) with _ | bk
        ·rw [hr] at sZ
         have Jp := ahM hr
         clear hr Lj
         go_upto_region 32 with (first | (go_at_call 87; refine sZ.out.mono ?_; rintro e w3 ⟨rfl, hb3⟩; unfold dy) | (refine wpList_store_row rfl 174 (.tmp 18) (.tmp 138) rfl w3.heap.size (aa aA).toArray rfl rfl 174 _ (heap_alloc_new _ _) (hi4 aF) (hi6 aF aF) (ay aA) ?_))
         obtain ⟨Y2, Ml⟩ : ∃ Y2, (w3.alloc (.cells ahV.toArray 174)).setRow w3.heap.size (aa aA).toArray = Y2 := ⟨_, rfl⟩
         rw [Ml]
         have KQ : Below Y.heap.size Y Y2 := Ml ▸ below_setRow (hb3.alloc hb3.size _) hb3.size _
         have z17 : Y2.cell? ⟨b17, 2, none⟩ = _ := (KQ.cell (p := ⟨b17, 2, none⟩) l17).trans y17
         have m17 : b17 < Y2.heap.size := by have := KQ.size; omega
         have YW := ahM (HDY.out.below KQ)
         clear Ml KQ hb3
         go_upto_region 33 with fail
         clear z17 m17
         obtain ⟨wo, Gg⟩ : ∃ wo : World, wo = wr := ⟨_, rfl⟩
         subst Gg
         go_loopw [143] (fun a143 wz => ∃ (j : Nat) (dv2 : Value), j ≤ xu ∧ a143 = .int .i64 (j : Int) ∧ DM Z wz b15 rb ib k dv2 (fC (aR cd G) s q ++ fo b q j (s.bu.getD q []))) (fun a143 _ => xu - (intOf a143).toNat)
         case atStart => exact ⟨0, dv, by omega, rfl, by rw [rW, List.append_nil]; exact YW.out⟩
         case round =>
          obtain ⟨j, dv2, hj, rfl, R7⟩ := hrel
          have yY := ahM R7
          clear R7
          by_cases Gv : j < xu
          ·have dl5 : decide ((j : Int) < (xu : Int)) = true := decide_eq_true agO
           have dj : (j : Int) < (xu : Int) := by omega
           obtain ⟨t, ht⟩ : ∃ t, x.nx[j]? = some t := ⟨_, List.getElem?_eq_getElem (by rw [Lh.out]; exact Gv)⟩
           obtain ⟨nb, gN, rfl, hnb, EM⟩ := mK.out j t ht
           have Og : Below w.heap.size w wr := BV.out.trans ((BX.out.trans ((PW.out.trans (yY.out.aC.mono PW.out.size)).mono BX.out.size)).mono BV.out.size)
           have x0 : wr.cell? ⟨nb, gN + j, none⟩ = some (.int .i64 t) := (Og.cell (p := ⟨nb, gN + j, none⟩) hnb).trans EM
           have VX : nb < wr.heap.size := by have := Og.size; omega
           obtain ⟨d1, d2, d3⟩ := yY.out.cell
           have HOW := ahM yY.out.row
           have DG := oX b q j (s.bu.getD q [])
           have hZs := yY.out.aC.size
           have Jo := ahM (show fC (aR cd G) s q ++ fo b q (j + 1) (s.bu.getD q []) = fC (aR cd G) s q ++ fo b q j (s.bu.getD q []) ++ [((q : Int), t)] by
            rw [Ap Jp.out (by rw [kJ.out, Lh.out]; exact Gv), kJ.out, show x.nx.getD j 0 = t by simp [List.getD, ht], List.append_assoc])
           obtain ⟨LL, N8⟩ : ∃ LL, fC (aR cd G) s q ++ fo b q j (s.bu.getD q []) = LL := ⟨_, rfl⟩
           have hLn : LL.length ≤ 1000 * q + j := by rw [← N8, List.length_append]; have := HDK.out; omega
           rw [N8] at Jo HOW yY
           clear ht EM Og DG N8
           go_wp2_with (at_builtin; refine wpList_append_own_at _ rfl (.tmp 151) (.tmp 155) 57 rfl Z.heap.size 109 iP _ 2 16 Tryz.underlying57 UB UL UK UJ rfl agQ dv2 LL.length (xw LL) rfl (HOW.out.alloc _) ⟨wr.heap.size, 0, none⟩ 1 1 [.int .i64 (q : Int), .int .i64 t] rfl rfl (ni _ _ _ _) agR agS agO ag0 ?_; intro v' W' hown' hgrow hni jR; obtain ⟨g3, XI, rfl⟩ := ownsRow_succ hown'; obtain ⟨Xe, hkeep⟩ := yY.out.app (y := ((q : Int), t)) ((Below.refl _ _).alloc (Nat.le_refl _) _) hgrow (by rw [rz]; exact hown'); have h15 : W'.cell? ⟨b15, 2, none⟩ = some dv2 := hgrow.cell (a := ⟨b15, 2, none⟩) (v := dv2) ag2 (fun e => yY.out.yM e); have Xx : W'.frozen? ⟨b15, 2, none⟩ = false := (World.frozen?_of_block (hgrow.block b15 agX (fun e => yY.out.yM e))).trans ag2)
           go_roundw
           case rel => exact ⟨j + 1, _, by omega, by go_num, by rw [Jo.out]; exact Xe⟩
           case measure => simp [intOf]; omega
          ·obtain rfl : j = xu := by omega
           have dl5 : decide ((j : Int) < (j : Int)) = false := by simp
           have sM := ahM (show DM Z wr b15 rb ib k dv2 (fC (aR cd G) s (q + 1)) by rw [EX.out, kJ.out, Lh.out]; exact yY.out)
           go_wp2_with fail
           go_roundw
           case rel => exact ⟨q + 1, dv2, by omega, by go_num, sM.out⟩
           case measure => simp [intOf]; omega
        ·rw [hr] at sZ
         have Jp := ahM hr
         have gy := ahM (Lj.out bk hr)
         clear hr Lj
         go_upto_region 32 with (first | (go_at_call 87; refine sZ.out.mono ?_; rintro e w3 ⟨rfl, hb3⟩; unfold dy) | (refine wpList_store_row rfl 174 (.tmp 18) (.tmp 138) rfl w3.heap.size (aa bk).toArray rfl rfl 174 _ (heap_alloc_new _ _) (hi4 gy.out.len) (hi6 gy.out.len aF) (ay bk) ?_))
         obtain ⟨b18, N1⟩ : ∃ b18, w3.heap.size = b18 := ⟨_, rfl⟩
         obtain ⟨Y2, Ml⟩ : ∃ Y2, (w3.alloc (.cells ahV.toArray 174)).setRow w3.heap.size (aa bk).toArray = Y2 := ⟨_, rfl⟩
         rw [Ml]
         have KQ : Below Y.heap.size Y Y2 := Ml ▸ below_setRow (hb3.alloc hb3.size _) hb3.size _
         have Zw : aN Y2 b18 174 bk := by rw [← N1, ← Ml]; exact aN.row (z := aA) (heap_alloc_new _ _)
         rw [N1]
         have z17 : Y2.cell? ⟨b17, 2, none⟩ = _ := (KQ.cell (p := ⟨b17, 2, none⟩) l17).trans y17
         have m17 : b17 < Y2.heap.size := by have := KQ.size; omega
         have YW := ahM (HDY.out.below KQ)
         have KB0 := ahM Zw
         clear Ml KQ hb3 N1 Zw
         go_upto_region 33 with fail
         clear z17 m17
         obtain ⟨wo, Gg⟩ : ∃ wo : World, wo = wr := ⟨_, rfl⟩
         subst Gg
         go_loopw [143] (fun a143 wz => ∃ (j : Nat) (dv2 : Value), j ≤ xu ∧ a143 = .int .i64 (j : Int) ∧ DM Z wz b15 rb ib k dv2 (fC (aR cd G) s q ++ fo b q j (s.bu.getD q [])) ∧ aN wz b18 174 bk) (fun a143 _ => xu - (intOf a143).toNat)
         case atStart => exact ⟨0, dv, by omega, rfl, by rw [rW, List.append_nil]; exact YW.out, KB0.out⟩
         case round =>
          obtain ⟨j, dv2, hj, rfl, R7, hkb⟩ := hrel
          have yY := ahM R7
          have KB := ahM hkb
          have kH := ahM hkb.range
          clear R7 hkb
          by_cases Gv : j < xu
          ·have dl5 : decide ((j : Int) < (xu : Int)) = true := decide_eq_true agO
           have dj : (j : Int) < (xu : Int) := by omega
           obtain ⟨t, ht⟩ : ∃ t, x.nx[j]? = some t := ⟨_, List.getElem?_eq_getElem (by rw [Lh.out]; exact Gv)⟩
           obtain ⟨nb, gN, rfl, hnb, EM⟩ := mK.out j t ht
           have Og : Below w.heap.size w wr := BV.out.trans ((BX.out.trans ((PW.out.trans (yY.out.aC.mono PW.out.size)).mono BX.out.size)).mono BV.out.size)
           have x0 : wr.cell? ⟨nb, gN + j, none⟩ = some (.int .i64 t) := (Og.cell (p := ⟨nb, gN + j, none⟩) hnb).trans EM
           have VX : nb < wr.heap.size := by have := Og.size; omega
           have HAz := ahM (HA.out.below yY.out.aC)
           have sS := ahM (ye HAz.out IW.out HB.out.ne HB.out.ug HB.out.f.op j bk gy.out (X9.out.below HAz.out.aC))
           have DG := oX b q j (s.bu.getD q [])
           have Jo := ahM (show fC (aR cd G) s q ++ fo b q (j + 1) (s.bu.getD q []) = fC (aR cd G) s q ++ fo b q j (s.bu.getD q []) ++ (if (dS b.last b.nx.length j bk).isNone = true then [((q : Int), t)] else []) by
            rw [Ao Jp.out, show b.nx.getD j 0 = t by rw [kJ.out]; simp [List.getD, ht], List.append_assoc])
           obtain ⟨LL, N8⟩ : ∃ LL, fC (aR cd G) s q ++ fo b q j (s.bu.getD q []) = LL := ⟨_, rfl⟩
           have hLn : LL.length ≤ 1000 * q + j := by rw [← N8, List.length_append]; have := HDK.out; omega
           rw [N8] at Jo yY
           clear ht EM Og DG N8
           rcases he : dS b.last b.nx.length j bk with _ | r
           ·rw [he] at sS Jo
            simp only [Option.isNone_none, if_true] at Jo
            clear he
            go_upto_region 39 with (first | (refine wpList_load_mid rfl _ _ rfl _ _ rfl (aa bk) _ kH.out Tryz.underlying174 rfl (hi3 gy.out.len) ?_) | (go_at_call 88; refine sS.out.mono ?_; rintro e w5 ⟨rfl, hb5⟩; unfold dy) | (refine wpList_store_row rfl 174 (.tmp 22) (.tmp 164) rfl w5.heap.size (aa aA).toArray rfl rfl 174 _ (heap_alloc_new _ _) (hi4 aF) (hi6 aF aF) (ay aA) ?_))
            obtain ⟨U, hU⟩ : ∃ U, (w5.alloc (.cells ahV.toArray 174)).setRow w5.heap.size (aa aA).toArray = U := ⟨_, rfl⟩
            rw [hU]
            have bU : Below wr.heap.size wr U := hU ▸ below_setRow (hb5.alloc hb5.size _) hb5.size _
            have Qb := ahM (yY.out.below bU)
            have KBU := ahM (KB.out.keep bU)
            obtain ⟨d1, d2, d3⟩ := Qb.out.cell
            have HOW := ahM Qb.out.row
            have hZs := Qb.out.aC.size
            clear hU bU hb5 x0 VX
            go_wp2_with (at_builtin; refine wpList_append_own_at _ rfl (.tmp 169) (.tmp 173) 57 rfl Z.heap.size 109 iP _ 2 16 Tryz.underlying57 UB UL UK UJ rfl agQ dv2 LL.length (xw LL) rfl (HOW.out.alloc _) ⟨U.heap.size, 0, none⟩ 1 1 [.int .i64 (q : Int), .int .i64 t] rfl rfl (ni _ _ _ _) agR agS agO ag0 ?_; intro v' W' hown' hgrow hni jR; obtain ⟨g3, XI, rfl⟩ := ownsRow_succ hown'; obtain ⟨Xe, hkeep⟩ := Qb.out.app (y := ((q : Int), t)) ((Below.refl _ _).alloc (Nat.le_refl _) _) hgrow (by rw [rz]; exact hown'); have h15 : W'.cell? ⟨b15, 2, none⟩ = some dv2 := hgrow.cell (a := ⟨b15, 2, none⟩) (v := dv2) ag2 (fun e => Qb.out.yM e); have Xx : W'.frozen? ⟨b15, 2, none⟩ = false := (World.frozen?_of_block (hgrow.block b15 agX (fun e => Qb.out.yM e))).trans ag2)
            go_roundw
            case rel => exact ⟨j + 1, _, by omega, by go_num, by rw [Jo.out]; exact Xe, hkeep _ _ _ KBU.out agQ agQ⟩
            case measure => simp [intOf]; omega
           ·rw [he] at sS Jo
            simp only [Option.isNone_some, Bool.false_eq_true, if_false, List.append_nil] at Jo
            have SQ := ahM (nU gy.out he)
            clear he
            go_wp2_with (first | (refine wpList_load_mid rfl _ _ rfl _ _ rfl (aa bk) _ kH.out Tryz.underlying174 rfl (hi3 gy.out.len) ?_) | (go_at_call 88; refine sS.out.mono ?_; rintro e w5 ⟨rfl, hb5⟩; unfold dy) | (refine wpList_store_row rfl 174 (.tmp 22) (.tmp 164) rfl w5.heap.size (aa r).toArray rfl rfl 174 _ (heap_alloc_new _ _) (hi4 SQ.out.len) (hi6 SQ.out.len aF) (ay r) ?_))
            go_roundw
            case rel =>
             have bU : Below wr.heap.size wr ((w5.alloc (.cells ahV.toArray 174)).setRow w5.heap.size (aa r).toArray) := below_setRow (hb5.alloc hb5.size _) hb5.size _
             exact ⟨j + 1, dv2, by omega, by go_num, by rw [Jo.out]; exact yY.out.below bU, KB.out.keep bU⟩
            case measure => simp [intOf]; omega
          ·obtain rfl : j = xu := by omega
           have dl5 : decide ((j : Int) < (j : Int)) = false := by simp
           have sM := ahM (show DM Z wr b15 rb ib k dv2 (fC (aR cd G) s (q + 1)) by rw [EX.out, kJ.out, Lh.out]; exact yY.out)
           go_wp2_with fail
           go_roundw
           case rel => exact ⟨q + 1, dv2, by omega, by go_num, sM.out⟩
           case measure => simp [intOf]; omega
      ·obtain rfl : q = k := by omega
       have dl4 : decide ((q : Int) < (q : Int)) = false := by simp
       obtain ⟨wf, hwf⟩ : ∃ wf : World, wf = wr := ⟨_, rfl⟩
       subst hwf
       have sZ := ahM (HA.out.below HD.out.aC)
       have KR0 := ahM (show wf.heap[w.heap.size + 1 + 1]? = some (.cells #[.slice none 0 0, .slice none 0 0, .slice none 0 0] 59 (0, 0)) from ((BX.out.trans (sZ.out.aC.mono BX.out.size)).block _ aho).trans K2.out)
       have h15 := HD.out.head
       have o0 : wf.cell? ⟨b15, 0, none⟩ = some (.slice (some ⟨rb, 0, none⟩) q q) := by simp [World.cell?, h15]
       have o1 : wf.cell? ⟨b15, 1, none⟩ = some (.slice (some ⟨ib, 0, none⟩) q q) := by simp [World.cell?, h15]
       have o2 : wf.cell? ⟨b15, 2, none⟩ = some dv := by simp [World.cell?, h15]
       have lo := aB h15
       obtain ⟨vA, vn, vc, rfl⟩ : ∃ vA vn vc, dv = .slice vA vn vc := by
        rcases HD.out.row.2 with ⟨e, _⟩ | ⟨g', cap', cur', e, _⟩
        ·exact ⟨_, _, _, e⟩
        ·exact ⟨_, _, _, e⟩
       have BWF := ahM (BV.out.trans ((BX.out.trans (sZ.out.aC.mono BX.out.size)).mono BV.out.size))
       clear h15
       go_wp2_with (refine wpList_store_row rfl 59 (.tmp 4) (.tmp 178) rfl (w.heap.size + 1 + 1) #[.slice (some ⟨rb, 0, none⟩) q q, .slice (some ⟨ib, 0, none⟩) q q, .slice vA vn vc] rfl rfl 59 _ KR0.out agP rfl agR ?_)
       have hbf : Below w.heap.size w (wf.setRow (w.heap.size + 1 + 1) #[.slice (some ⟨rb, 0, none⟩) q q, .slice (some ⟨ib, 0, none⟩) q q, .slice vA vn vc]) := below_setRow BWF.out agO _
       refine bodyPost_ret (results_cell_tmp (P := Tryz.prog) Tryz.results52 _ _ (w.heap.size + 1 + 1) [.slice (some ⟨rb, 0, none⟩) q q, .slice (some ⟨ib, 0, none⟩) q q, .slice vA vn vc] _ rfl (aM (setRow_heap _ _ _ _ _ _ KR0.out)) Tryz.underlying59 rfl agP) rfl ⟨⟨s, _, _, _, HE.out, rfl, ?_, ?_, ?_⟩, hbf⟩
       ·have hne : ∀ z, z ≠ w.heap.size + 1 + 1 → (wf.setRow (w.heap.size + 1 + 1) #[.slice (some ⟨rb, 0, none⟩) q q, .slice (some ⟨ib, 0, none⟩) q q, .slice vA vn vc]).heap[z]? = wf.heap[z]? := fun z hz => setRow_other _ _ _ _ hz
        have s1 : s.reach.length = q := by have := sZ.out.p8.l1; rwa [qq.out] at this
        have s2 : s.bu.length = q := by have := sZ.out.p8.l2; rwa [qq.out] at this
        have x1 := sZ.out.rV
        have x2 := sZ.out.iV
        have x3 := SV.out
        have x4 := BX.out.size
        refine ⟨⟨_, q, by rw [s1], by omega, by unfold maxLen; omega, fun _ => ⟨rb, 0, rfl, by have := sZ.out.lt; simp [World.setRow]; omega, fun p hp => ?_⟩⟩, ⟨_, q, by rw [s2], by omega, by unfold maxLen; omega, fun _ => ⟨ib, 0, rfl, by have := sZ.out.lt; simp [World.setRow]; omega, fun p hp => ?_⟩⟩⟩
        ·rw [Nat.zero_add, World.cell?_of_block (hne rb agO)]
         exact (sZ.out.qy (by rw [qq.out]; omega)).1
        ·rw [Nat.zero_add]
         intro jj vv Pu
         rw [World.cell?_of_block (hne ib agO)]
         exact sZ.out.mo (by rw [qq.out]; omega) jj vv Pu
       ·have hp := Bg HD.out.row
        obtain ⟨A', cap', e1, e2, e3, e4⟩ := hp
        refine ⟨A', cap', e1, e2, e3, fun h0 => ?_⟩
        obtain ⟨b', off', ea, eb, ec⟩ := e4 h0
        refine ⟨b', off', ea, by simp [World.setRow]; omega, fun i p hi => ?_⟩
        obtain ⟨c1', c2'⟩ := ec i p hi
        have hnb : b' ≠ w.heap.size + 1 + 1 := by
         have h1 := (HD.out.row.lt b' (by rw [e1, ea]; rfl)).1
         have h2 := PW.out.size
         have x3 := SV.out
         have x4 := BX.out.size
         omega
        exact ⟨by rw [World.cell?_of_block (setRow_other _ _ _ _ hnb)]; exact c1', by rw [World.cell?_of_block (setRow_other _ _ _ _ hnb)]; exact c2'⟩
       ·intro q' h
        have x1 := sZ.out.rV
        have x2 := sZ.out.iV
        have x3 := SV.out
        have x4 := BX.out.size
        have x5 := PW.out.size
        rcases h with h | h | h
        ·have e : rb = q' := by simpa [Value.ownBlock] using h
         omega
        ·have e : ib = q' := by simpa [Value.ownBlock] using h
         omega
        ·have := (HD.out.row.lt q' h).1
         omega
theorem Ii : qK := fun cv ev bv pv sh lk n cd G P w T HW HG HP hv h0 h1 hok => yE cv ev bv pv sh lk n cd G P w T HW HG HP hv h0 h1 hok
end
end Go.Proofs.YtlmgkipmfgijiaaGreatDoor
