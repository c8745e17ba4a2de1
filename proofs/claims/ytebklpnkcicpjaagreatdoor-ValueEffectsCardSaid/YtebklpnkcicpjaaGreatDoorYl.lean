/-
  What is proved here: parts aAz.
-/
import Derived.Test.YtebklpnkcicpjaaGreatDoorYa
import Derived.Test.YtebklpnkcicpjaaGreatDoorYk
namespace Go.Proofs.YtebklpnkcicpjaaGreatDoor
set_option linter.unusedVariables false
set_option linter.unusedSimpArgs false
set_option maxRecDepth 100000
set_option maxHeartbeats 8000000
section
open Go.RowKit
theorem jF (cv ev bv pv : Value) (sh lk : Int) (n : Nat) (cd : Nat → Int) (G : List ew) (P : List (List Int)) (w : World) (T : fM w) (HW : Words w cv n cd) (HG : jH w bv G) (HP : vw w pv P)
  (hv : p5 G P) (hg0 : 0 < G.length) (hg1 : G.length ≤ 1000) (hok : ∀ x ∈ G, LI n cd G x) :
  Calls Tryz.prog 7 #[.agg #[cv, ev, .int .i64 sh, .int .i64 lk], .agg #[bv, pv]] w fun e w' => (∃ s rv iv dv, Ends (bu cd G) (cX G.length) s ∧ e = .returned (.tuple #[.agg #[rv, iv, dv], .int .i64 0]) ∧ mD w' rv iv s.reach s.cJ ∧ FN w' dv (eE (bu cd G) s G.length) ∧ ID w.heap.size rv iv dv) ∧ Below w.heap.size w w' := by
 obtain ⟨GA, cN, nN, g2, g3, g4⟩ := id HG
 have Sa := eZ g3
 obtain ⟨PA, eW, Nb, p2, p3, p4⟩ := id HP
 obtain ⟨V, hV, k0, k1, k2, bV, sV⟩ := aW w #[cv, ev, .int .i64 sh, .int .i64 lk] #[bv, pv] #[.slice none 0 0, .slice none 0 0, .slice none 0 0] 25 30 42
 have OH : V.heap.size = w.heap.size + 1 + 1 + 1 := by rw [← hV]; simp
 have b0 : V.cell? ⟨w.heap.size + 1, 0, none⟩ = some bv := by simp [World.cell?, k1]
 have b1 : V.cell? ⟨w.heap.size + 1, 1, none⟩ = some pv := by simp [World.cell?, k1]
 have l1 : w.heap.size + 1 < V.heap.size := by omega
 have dI := UZ (vQ bv pv G P V (HG.below bV) (HP.below bV) TX (fun x hx => by have := (hok x hx).ri; omega))
 obtain ⟨gn, hgn⟩ : ∃ m, G.length = m := ⟨_, rfl⟩
 rw [hgn] at nN g2 hg0 hg1
 rw [hgn]
 subst nN Nb
 have Bh := UZ hgn
 have rP := UZ hok
 have DN := UZ HW
 have Js := UZ HG
 have HT := UZ T
 have BV := UZ bV
 have SV := UZ OH
 have K0 := UZ k0
 have K2 := UZ k2
 have Ql := UZ hv
 have Lt := UZ g4
 clear hgn hok HW HG HP T bV sV OH k0 k1 k2 hv g3 g4 p4 p3
 go_enter Tryz.func7, Tryz.ntmps7
 go_upto_region 3 with (go_at_call 23; refine dI.out.mono ?_; rintro e X ⟨⟨r, rfl, hr⟩, Kh⟩; obtain rfl : r = true := hr.2 Ql.out)
 have c0 : X.cell? ⟨w.heap.size + 1, 0, none⟩ = _ := (Kh.cell (p := ⟨w.heap.size + 1, 0, none⟩) l1).trans b0
 have c1 : X.cell? ⟨w.heap.size + 1, 1, none⟩ = _ := (Kh.cell (p := ⟨w.heap.size + 1, 1, none⟩) l1).trans b1
 have lX : w.heap.size + 1 < X.heap.size := by have := Kh.size; omega
 have BX := UZ Kh
 clear b0 b1 hr Kh dI Ql hV
 go_upto_region 4 with fail
 obtain ⟨cS, Ny⟩ : ∃ c, ((List.range gn).map fun _ => Value.slice none 0 0).toArray = c := ⟨_, rfl⟩
 obtain ⟨cB, hcB⟩ : ∃ c, ((List.replicate gn false).map Value.bool).toArray = c := ⟨_, rfl⟩
 obtain ⟨cR, Nz⟩ : ∃ c, (jY (List.replicate gn ak)).toArray = c := ⟨_, rfl⟩
 obtain ⟨cI, NB⟩ : ∃ c, ((List.replicate gn (0 : Int)).map (Value.int .i64)).toArray = c := ⟨_, rfl⟩
 obtain ⟨iA, Pm, Kq, hA1, Ko⟩ := info_parts Hl
 obtain ⟨iB, Pk, hB0, hB1, hB2⟩ := info_parts Hr
 obtain ⟨iC, Pj, PU, PT, hC2⟩ := info_parts Ho
 obtain ⟨iD, Ph, yc, PR, PO⟩ := info_parts Hp
 have mk1 : ∀ W, (Instr.makeSlice 82 (.int .i64 (gn : Int)) (.int .i64 (gn : Int))).run Tryz.prog W = .ok (.slice (some ⟨W.heap.size, 0, none⟩) gn gn) (W.alloc (.cells cS 50)) := fun W => by
  have hr := run_make (P := Tryz.prog) W 82 50 iA _ Tryz.underlying82 Pm Kq .i64 .i64 (gn : Int) (gn : Int) TX (Int.le_refl _) (by rw [Ko]; omega) TX
  rw [hA1, Int.toNat_natCast] at hr
  rw [hr, ← Ny, ← JN]
  rfl
 have mk2 : ∀ W, (Instr.makeSlice 38 (.int .i64 (gn : Int)) (.int .i64 (gn : Int))).run Tryz.prog W = .ok (.slice (some ⟨W.heap.size, 0, none⟩) gn gn) (W.alloc (.cells cB 4)) := fun W => by
  have hr := run_make (P := Tryz.prog) W 38 4 iB _ Tryz.underlying38 Pk hB0 .i64 .i64 (gn : Int) (gn : Int) TX (Int.le_refl _) (by rw [hB2]; omega) TX
  rw [hB1, Int.toNat_natCast] at hr
  rw [hr, ← hcB, ← JQ]
  rfl
 have mk3 : ∀ W, (Instr.makeSlice 39 (.int .i64 (gn : Int)) (.int .i64 (gn : Int))).run Tryz.prog W = .ok (.slice (some ⟨W.heap.size, 0, none⟩) gn gn) (W.alloc (.cells cR 56)) := fun W => by
  have hr := run_make (P := Tryz.prog) W 39 56 iC _ Tryz.underlying39 Pj PU .i64 .i64 (gn : Int) (gn : Int) TX (Int.le_refl _) (by rw [hC2]; omega) TX
  rw [PT, Int.toNat_natCast] at hr
  rw [hr, ← Nz, ← JO]
  rfl
 have mk4 : ∀ W, (Instr.makeSlice 34 (.int .i64 (gn : Int)) (.int .i64 (gn : Int))).run Tryz.prog W = .ok (.slice (some ⟨W.heap.size, 0, none⟩) gn gn) (W.alloc (.cells cI 3)) := fun W => by
  have hr := run_make (P := Tryz.prog) W 34 3 iD _ Tryz.underlying34 Ph yc .i64 .i64 (gn : Int) (gn : Int) TX (Int.le_refl _) (by rw [PO]; omega) TX
  rw [PR, Int.toNat_natCast] at hr
  rw [hr, ← NB, ← JP]
  rfl
 have QO := UZ Ny
 have QT := UZ hcB
 have QS := UZ Nz
 have My := UZ NB
 clear Ny hcB Nz NB Kq hA1 Ko hB0 hB1 hB2 PU PT hC2 yc PR PO Pm Pk Pj Ph
 go_cut [7] from 31 to 41 (fun a7 wx => ∃ ab cb rb ib pb, a7 = .pointer (some ⟨ab, 0, none⟩) ∧ wx.heap[ab]? = some (.cells #[.slice GA gn cN, .slice PA P.length eW, .slice (some ⟨cb, 0, none⟩) gn gn, .slice (some ⟨rb, 0, none⟩) gn gn, .slice (some ⟨ib, 0, none⟩) gn gn, .slice (some ⟨pb, 0, none⟩) gn gn] 84 (0, 0)) ∧ wx.heap[cb]? = some (.cells cS 50 (0, 0)) ∧ wx.heap[rb]? = some (.cells cB 4 (0, 0)) ∧ wx.heap[ib]? = some (.cells cR 56 (0, 0)) ∧ wx.heap[pb]? = some (.cells cI 3 (0, 0)) ∧ (X.heap.size ≤ ab ∧ X.heap.size ≤ cb ∧ X.heap.size ≤ rb ∧ X.heap.size ≤ ib ∧ X.heap.size ≤ pb) ∧ Below X.heap.size X wx)
 case first =>
  go_region_held3 (fun w' => (∀ b o, b < X.heap.size → w'.cell? ⟨b, o, none⟩ = X.cell? ⟨b, o, none⟩) ∧ Below X.heap.size X w') ((exact CN (by (repeat (first | (with_reducible exact Below.refl _ _) | (with_reducible refine Below.drew ?_) | (with_reducible refine Below.alloc ?_ UC _)))))) (fail)
  all_goals (go_wp2_with fail; go_meet)
  all_goals
   refine ⟨_, _, _, _, _, rfl, bg _ _ T4, ?_, ?_, ?_, ?_, by omega, ?_⟩
   ·(show (World.alloc _ _).heap[_]? = _); (repeat (first | exact heap_alloc_new _ _ | exact bg _ _ UJ | rw [heap_alloc_old _ _ UE]))
   ·(show (World.alloc _ _).heap[_]? = _); (repeat (first | exact heap_alloc_new _ _ | exact bg _ _ UJ | rw [heap_alloc_old _ _ UE]))
   ·(show (World.alloc _ _).heap[_]? = _); (repeat (first | exact heap_alloc_new _ _ | exact bg _ _ UJ | rw [heap_alloc_old _ _ UE]))
   ·(show (World.alloc _ _).heap[_]? = _); (repeat (first | exact heap_alloc_new _ _ | exact bg _ _ UJ | rw [heap_alloc_old _ _ UE]))
   ·(repeat (first | (with_reducible exact Below.refl _ _) | (with_reducible refine Below.drew ?_) | (with_reducible refine Below.alloc ?_ UC _)))
 obtain ⟨ab, cb, rb, ib, pb, rfl, hd1, hd2, hd3, hd4, hd5, ⟨ha, hc, hr, hi, hp⟩, bW⟩ := hcut
 obtain ⟨W1, hW1⟩ : ∃ W1 : World, W1 = wc := ⟨_, rfl⟩
 subst hW1
 rw [← QO.out] at hd2
 rw [← QT.out] at hd3
 rw [← QS.out] at hd4
 rw [← My.out] at hd5
 have S9 := UZ (show CM X W1 ab cb rb ib pb gn (.slice GA gn cN) (.slice PA P.length eW) (fun _ => .slice none 0 0) (fun _ => []) from
  ⟨bW, ha, hr, hi, hp, hd1, ⟨by simp, .inr ⟨cb, gn, _, rfl, hc, hd2, Nat.le_refl _, by unfold maxLen; omega, by simp, by simp [List.take_of_length_le]⟩⟩, fun i hi => World.ownsRow_nil _ _ _ _, fun i j hi hj _ q hq => (by cases hq), hd3, hd4, hd5⟩)
 have TS := bW.size
 have d0 : W1.cell? ⟨w.heap.size + 1, 0, none⟩ = _ := (bW.cell (p := ⟨w.heap.size + 1, 0, none⟩) lX).trans c0
 have Rf : w.heap.size + 1 < W1.heap.size := by omega
 clear hd1 hd2 hd3 hd4 hd5 ha hc hr hi hp bW QO QT QS My mk1 mk2 mk3 mk4
 obtain ⟨iI, I9, Je, Fq, Fp⟩ := info_parts Hq
 go_upto_region 6 with fail
 clear d0 Rf
 have TB := BX.out.size
 go_loopw [45] (fun a45 wr => ∃ (k : Nat) (val : Nat → Value), k ≤ gn ∧ a45 = .int .i64 (k : Int) ∧ CM X wr ab cb rb ib pb gn (.slice GA gn cN) (.slice PA P.length eW) val (j6 (nH cd G) k [])) (fun a45 _ => gn - (intOf a45).toNat)
 case atStart => exact ⟨0, _, by omega, rfl, by rw [AA]; exact S9.out⟩
 case round =>
  obtain ⟨k, val, hk, rfl, hM⟩ := hrel
  have HM := UZ hM
  have Rs := hM.aB.size
  clear hM
  by_cases hlt : k < gn
  ·have dl : decide ((k : Int) < (gn : Int)) = true := decide_eq_true TX
   have dk : (k : Int) < (gn : Int) := by omega
   obtain ⟨x, hx⟩ : ∃ x, G[k]? = some x := ⟨_, List.getElem?_eq_getElem (by rw [Bh.out]; exact hlt)⟩
   have hgo := rP.out x (List.mem_of_getElem? hx)
   obtain ⟨gq, mW, rfl, Fu, gc⟩ := Lt.out (by rw [Bh.out]; omega)
   obtain ⟨e0, e1, nv, e2, LX⟩ := gc k x hx
   obtain ⟨nA, dY, rfl, n1, n2⟩ := ints_at LX
   have n3 := eZ n2
   have bw : Below w.heap.size w wr := BV.out.trans ((BX.out.trans (HM.out.aB.mono BX.out.size)).mono BV.out.size)
   have f0 : wr.cell? ⟨gq, mW + k * 3, none⟩ = _ := (bw.cell (p := ⟨gq, _, none⟩) Fu).trans e0
   have f1 : wr.cell? ⟨gq, mW + k * 3 + 1, none⟩ = _ := (bw.cell (p := ⟨gq, _, none⟩) Fu).trans e1
   have f2 : wr.cell? ⟨gq, mW + k * 3 + 2, none⟩ = _ := (bw.cell (p := ⟨gq, _, none⟩) Fu).trans e2
   have lg : gq < wr.heap.size := by have := bw.size; omega
   obtain ⟨xlo, uG⟩ : ∃ v, x.lo = v := ⟨_, rfl⟩
   obtain ⟨xhi, Hu⟩ : ∃ v, x.hi = v := ⟨_, rfl⟩
   obtain ⟨xu, Ht⟩ : ∃ v, x.nx.length = v := ⟨_, rfl⟩
   have E8 := hgo.lo
   have J5 := hgo.lt
   have C5 := hgo.NZ
   rw [uG] at f0 E8 J5 C5
   rw [Hu] at f1 J5 C5
   rw [Ht] at f2 n1
   obtain ⟨ln, rfl⟩ : ∃ ln : Nat, xlo = (ln : Int) := ⟨xlo.toNat, by omega⟩
   obtain ⟨hn, rfl⟩ : ∃ hn : Nat, xhi = (hn : Int) := ⟨xhi.toNat, by omega⟩
   have TK : hn ≤ 1000000 := by
    have h1 := DN.out.le
    have := (C5 (hn - 1) TX TX).1
    omega
   have Ox := UZ (show ∀ a : Nat, ln ≤ a → a < hn → a < n ∧ (cZ (cd a)).2 = 0 ∧ 0 ≤ (aF cd (a : Int)).op from fun a h1 h2 => C5 a TX TX)
   have Lz := UZ (show nH cd G k = codeFrom cd (ln : Int) (hn - ln) by
    unfold nH
    rw [show G.getD k ⟨0, 0, []⟩ = x by simp [List.getD, hx], uG, Hu]
    congr 1
    omega)
   clear hgo e0 e1 e2 LX gc bw uG Hu Ht C5 hx n2
   go_upto_region 9 with fail
   obtain ⟨b9, hb9⟩ : ∃ b9, wr.heap.size = b9 := ⟨_, rfl⟩
   obtain ⟨Y, hY⟩ : ∃ Y, wr.alloc (.cells #[.int .i64 (ln : Int), .int .i64 (hn : Int), .slice nA xu dY] 36) = Y := ⟨_, rfl⟩
   rw [hY]
   have bY : Below wr.heap.size wr Y := hY ▸ (Below.refl _ _).alloc (Nat.le_refl _) _
   have kY : Y.heap[b9]? = some (.cells #[.int .i64 (ln : Int), .int .i64 (hn : Int), .slice nA xu dY] 36 (0, 0)) := by rw [← hb9, ← hY]; exact heap_alloc_new _ _
   rw [hb9]
   have KY := UZ kY
   have SS := UZ (HM.out.below bY)
   have L9 := UZ (show X.heap.size ≤ b9 by omega)
   clear hb9 hY bY kY f0 f1 f2
   obtain ⟨wo, Hv⟩ : ∃ wo : World, wo = wr := ⟨_, rfl⟩
   subst Hv
   go_loopw [10] (fun a10 wz => ∃ (j : Nat) (qm : Nat → Value), j ≤ hn - ln ∧ a10 = .int .i64 ((ln : Int) + (j : Int)) ∧ CM X wz ab cb rb ib pb gn (.slice (some ⟨gq, mW, none⟩) gn cN) (.slice PA P.length eW) qm (j6 (nH cd G) k (codeFrom cd (ln : Int) j)) ∧ wz.heap[b9]? = some (.cells #[.int .i64 (ln : Int), .int .i64 (hn : Int), .slice nA xu dY] 36 (0, 0))) (fun a10 _ => hn - (intOf a10).toNat)
   case atStart => exact ⟨0, val, by omega, rfl, SS.out, KY.out⟩
   case round =>
    obtain ⟨j, qm, hj, rfl, NN, k9⟩ := hrel
    have Mr := UZ NN
    have K9 := UZ k9
    have Tx := NN.aB.size
    have z1 : wr.cell? ⟨b9, 1, none⟩ = some (.int .i64 (hn : Int)) := by simp [World.cell?, k9]
    have lz9 : b9 < wr.heap.size := ax k9
    clear NN k9
    by_cases hlt2 : j < hn - ln
    ·have dl2 : decide ((ln : Int) + (j : Int) < (hn : Int)) = true := decide_eq_true TX
     obtain ⟨m1, m2, m3⟩ := Ox.out (ln + j) TX TX
     have Gv : Below w.heap.size w wr := BV.out.trans ((BX.out.trans (Mr.out.aB.mono BX.out.size)).mono BV.out.size)
     have Mh := UZ (((BX.out.trans (Mr.out.aB.mono BX.out.size)).block _ (by have := SV.out; omega)).trans K0.out)
     have t0 : wr.cell? ⟨w.heap.size, 0, none⟩ = some cv := by have := Mh.out; simp [World.cell?, this]
     have t1 : wr.cell? ⟨w.heap.size, 1, none⟩ = some ev := by have := Mh.out; simp [World.cell?, this]
     have t2 : wr.cell? ⟨w.heap.size, 2, none⟩ = some (.int .i64 sh) := by have := Mh.out; simp [World.cell?, this]
     have t3 : wr.cell? ⟨w.heap.size, 3, none⟩ = some (.int .i64 lk) := by have := Mh.out; simp [World.cell?, this]
     have lz0 : w.heap.size < wr.heap.size := by omega
     obtain ⟨op, ia, ic, id, im, hi⟩ : ∃ op ia ic id im, aF cd ((ln : Int) + (j : Int)) = ⟨op, ia, ic, id, im⟩ := ⟨_, _, _, _, _, rfl⟩
     have AZ := UZ (show Calls Tryz.prog 24 #[.agg #[cv, ev, .int .i64 sh, .int .i64 lk], .int .i64 ((ln : Int) + (j : Int))] wr fun e w' => e = .returned (.tuple #[.agg #[.int .u8 op, .int .i64 ia, .int .i64 ic, .int .i64 id, .int .i64 im], .bool true]) ∧ Below wr.heap.size wr w' from by
      have := nu cv ev sh lk n cd (ln + j) m1 m2 wr (HT.out.below Gv) (DN.out.below Gv)
      rw [Int.natCast_add, hi] at this
      exact this)
     have HI := UZ hi
     have wl : IntKind.i64.wrap ((ln : Int) + (j : Int) + 1) = (ln : Int) + (j : Int) + 1 := IntWalk.i64_in _ TX
     clear m1 m2 m3 Gv hi
     go_upto_region 14 with (first | (go_at_call 24; refine AZ.out.mono ?_; rintro e w2 ⟨rfl, hb2⟩))
     obtain ⟨U, hU⟩ : ∃ U, w2.alloc (.cells #[.int .u8 op, .int .i64 ia, .int .i64 ic, .int .i64 id, .int .i64 im] 64) = U := ⟨_, rfl⟩
     rw [hU]
     have bU : Below w2.heap.size w2 U := hU ▸ (Below.refl _ _).alloc (Nat.le_refl _) _
     obtain ⟨y0, y1, y2, y3, y4, lU⟩ := aG (show U.heap[w2.heap.size]? = some (.cells #[.int .u8 op, .int .i64 ia, .int .i64 ic, .int .i64 id, .int .i64 im] 64 (0, 0)) from hU ▸ heap_alloc_new _ _)
     obtain ⟨b11, Ig⟩ : ∃ b, w2.heap.size = b := ⟨_, rfl⟩
     have N5 : Below wr.heap.size wr U := hb2.trans (bU.mono hb2.size)
     rw [Ig] at y0 y1 y2 y3 y4 lU
     rw [Ig]
     have FQ := UZ (Mr.out.below N5)
     have Mg := UZ ((N5.block b9 lz9).trans K9.out)
     have v0 := FQ.out.cells.1
     obtain ⟨lab, Tq, -, -, -⟩ := FQ.out.lt
     obtain ⟨v1, Tk⟩ := FQ.out.at_ hlt
     have hop := FQ.out.own k hlt
     rw [mZ, fQ] at hop
     obtain ⟨vk, I5⟩ : ∃ v, qm k = v := ⟨_, rfl⟩
     have Qk := UZ I5
     have Qx := UZ (show some cb ≠ vk.ownBlock from fun e' => by
      rw [← I5] at e'
      exact (FQ.out.Eb hlt cb e'.symm).2.2.1 rfl)
     have SN := UZ (show some ab ≠ vk.ownBlock from fun e' => by
      rw [← I5] at e'
      exact (FQ.out.Eb hlt ab e'.symm).2.1 rfl)
     have SR := UZ (show some b9 ≠ vk.ownBlock from fun e' => by
      rw [← I5] at e'
      obtain ⟨cs, hcs⟩ := eU hop e'.symm
      exact bK hcs Mg.out T1 rfl)
     rw [I5] at hop v1
     have qL := UZ hop
     obtain ⟨vA, vn, mJ, hvs⟩ : ∃ vA vn mJ, vk = .slice vA vn mJ := by
      rcases hop.2 with ⟨e, _⟩ | ⟨g', cap', cur', e, _⟩
      ·exact ⟨_, _, _, e⟩
      ·exact ⟨_, _, _, e⟩
     subst hvs
     have Rh : b9 < U.heap.size := ax Mg.out
     have IJ := UZ (show X.heap.size ≤ U.heap.size from FQ.out.aB.size)
     have Ei := UZ (show ∀ (W2 : World) (v2 : Value), ((U.alloc (.cells #[.int .u8 op, .int .i64 ia, .int .i64 ic, .int .i64 id, .int .i64 im] 64)).drew).grownBy W2 (Value.slice vA vn mJ).ownBlock → W2.ownsRow X.heap.size 64 5 v2 (j + 1) (dZ (codeFrom cd (ln : Int) j) ++ [.int .u8 op, .int .i64 ia, .int .i64 ic, .int .i64 id, .int .i64 im]) → (v2.ownBlock = (Value.slice vA vn mJ).ownBlock ∨ v2.ownBlock = some ((U.alloc (.cells #[.int .u8 op, .int .i64 ia, .int .i64 ic, .int .i64 id, .int .i64 im] 64)).drew).heap.size) →
       CM X (W2.setCell ⟨cb, k, none⟩ v2) ab cb rb ib pb gn (.slice (some ⟨gq, mW, none⟩) gn cN) (.slice PA P.length eW) (upd qm k v2) (j6 (nH cd G) k (codeFrom cd (ln : Int) (j + 1))) ∧ (W2.setCell ⟨cb, k, none⟩ v2).heap[b9]? = some (.cells #[.int .i64 (ln : Int), .int .i64 (hn : Int), .slice nA xu dY] 36 (0, 0)) from fun W2 v2 hg2 ho2 wT => by
      have bD : Below U.heap.size U ((U.alloc (.cells #[.int .u8 op, .int .i64 ia, .int .i64 ic, .int .i64 id, .int .i64 im] 64)).drew) := Below.drew ((Below.refl _ _).alloc (Nat.le_refl _) _)
      have h3 := FQ.out.app (y := aF cd ((ln : Int) + (j : Int))) hlt bD (by rw [Qk.out]; exact hg2) (by rw [mZ, fQ, qw, HI.out]; exact ho2) (by rw [Qk.out]; exact wT)
      rw [mZ, Dq, ← fo] at h3
      refine ⟨h3, ?_⟩
      rw [Below.heap_setCell _ _ _ _ (by
       show b9 ≠ cb
       intro e
       obtain ⟨cs, hcs⟩ := eU FQ.out.jC (q := cb) rfl
       exact bK Mg.out hcs T1 e)]
      rw [(grown_of bD hg2).block b9 Rh (fun e => SR.out e)]
      exact Mg.out)
     clear hU bU N5 Ig hb2 hop I5 t0 t1 t2 t3
     refine wp_region_noPanic ?_
     go_region_law (refine jg rfl (.tmp 78) (.tmp 80) 50 rfl X.heap.size 64 iI _ 5 40 Tryz.underlying50 I9 Je Fq Fp rfl T1 (.slice vA vn mJ) j (dZ (codeFrom cd (ln : Int) j)) UO (World.ownsRow.alloc (World.ownsRow.drew qL.out) _) ⟨U.heap.size, 0, none⟩ 1 1 [.int .u8 op, .int .i64 ia, .int .i64 ic, .int .i64 id, .int .i64 im] UO rfl (xC _ _ _ _ _ _ _) T2 T3 TX (by show X.heap.size ≤ (World.alloc _ _).heap.size; rw [World.size_alloc]; have := IJ.out; show X.heap.size ≤ U.heap.size + 1; omega) ?_; intro v' W2 hown2 hgrow2 C8; obtain ⟨g2, uY, rfl⟩ := ownsRow_succ hown2; have hc1 := hgrow2.cell (a := ⟨cb, k, none⟩) (v := .slice vA vn mJ) Ug Qx.out; have hc2 := hgrow2.cell (a := ⟨ab, 2, none⟩) (v := .slice (some ⟨cb, 0, none⟩) gn gn) Ug SN.out; have hf1 : W2.frozen? ⟨cb, k, none⟩ = false := (World.frozen?_of_block (hgrow2.block cb T9 Qx.out)).trans Ug)
     all_goals
      have F1 := UZ (Ei.out W2 _ hgrow2 hown2 C8)
      clear hgrow2 hown2 C8 hc1 hc2 hf1
      refine NoPanic.normal ?_
      go_wp2_with fail
      go_roundw
      case rel => exact ⟨j + 1, _, by omega, by first | rfl | (congr 1; omega) | go_num, F1.out.1, F1.out.2⟩
      case measure => simp [intOf]; omega
    ·obtain rfl : j = hn - ln := by omega
     have dl2 : decide ((ln : Int) + ((hn - ln : Nat) : Int) < (hn : Int)) = false := decide_eq_false TX
     have DX := UZ (show CM X wr ab cb rb ib pb gn (.slice (some ⟨gq, mW, none⟩) gn cN) (.slice PA P.length eW) qm (j6 (nH cd G) (k + 1) []) by rw [← AD, Lz.out]; exact Mr.out)
     go_wp2_with fail
     go_roundw
     case rel => exact ⟨k + 1, qm, by omega, by go_num, DX.out⟩
     case measure => simp [intOf]; omega
  ·obtain rfl : k = gn := by omega
   have dl : decide ((k : Int) < (k : Int)) = false := by simp
   obtain ⟨-, u3, u7⟩ := HM.out.cells
   obtain ⟨ua, -, ur, -, -⟩ := HM.out.lt
   obtain ⟨u4, u5⟩ := JF HM.out.gv hg0
   have iz : (0 : Int) < (k : Int) := by omega
   have J3 : ∀ (q : Nat) (x : ew) (b : AB), G[q]? = some x → (bu cd G)[q]? = some b → x.nx = b.nx := fun q x b h1 h2 => by
    obtain ⟨x', e1, e2⟩ := mC h2
    rw [h1] at e1
    cases e1
    rw [e2]
   have Kf : ∀ (q : Nat) (b : AB), (bu cd G)[q]? = some b → j6 (nH cd G) k [] q = b.code := fun q b h2 => by
    obtain ⟨x', e1, e2⟩ := mC h2
    have hq : q < k := by have := (List.getElem?_eq_some_iff.1 e1).1; rw [Bh.out] at this; exact this
    unfold j6 nH
    rw [if_pos hq, e2, show G.getD q ⟨0, 0, []⟩ = x' by simp [List.getD, e1]]
   have hbl : (bu cd G).length = k := by rw [rN]; exact Bh.out
   have GQ := UZ (HM.out.start (B := bu cd G) (G := G) (Js.out.below (BV.out.trans (BX.out.mono BV.out.size))) hbl Bh.out hg0 TX J3 Kf)
   have nW := UZ hbl
   have Mm := UZ Rs
   clear J3 Kf hbl u7
   go_upto_region 18 with fail
   obtain ⟨W2, hW2⟩ : ∃ W2, wr.setCell ⟨rb, 0, none⟩ (.bool true) = W2 := ⟨_, rfl⟩
   rw [hW2]
   rw [hW2] at GQ
   have FW := UZ (show ∀ (q : Nat) (b : AB), (bu cd G)[q]? = some b → OB (bu cd G).length b from fun q b h2 => by
    obtain ⟨x', e1, e2⟩ := mC h2
    have := (rP.out x' (List.mem_of_getElem? e1)).Si
    rw [e2, rN]
    exact this)
   have GH := UZ (HT.out.below (BV.out.trans (BX.out.mono BV.out.size)))
   clear hW2 u3 u4 u5 ua ur
   go_loopg [13] (gL (cX k) k + 1) (fun gk a13 wr => ∃ (s : AS) (c : Bool), a13 = .bool c ∧ gL s k + (if c = true then 1 else 0) ≤ gk ∧ An X wr ab cb rb ib pb (.slice GA k cN) (.slice PA P.length eW) G (bu cd G) val s ∧ (c = true → ∀ s', Ends (bu cd G) s s' → Ends (bu cd G) (cX k) s') ∧ (c = false → Ends (bu cd G) (cX k) s))
   case atStart => exact ⟨cX k, true, rfl, by simp, GQ.out, fun _ s' h => h, fun h => by cases h⟩
   case round =>
    obtain ⟨s, c, rfl, Fe, hA, hc1, hc2⟩ := hrel
    have HA := UZ hA
    have Oy := UZ hc1
    have rS := UZ hc2
    clear hA hc1 hc2 GQ
    cases c with
    | true =>
     have S2 := UZ (show gL s k + 1 ≤ gk by simpa using Fe)
     clear Fe rS
     have e0 : wr.cell? ⟨w.heap.size + 1, 0, none⟩ = _ := (HA.out.aB.cell (p := ⟨w.heap.size + 1, 0, none⟩) lX).trans c0
     have le0 : w.heap.size + 1 < wr.heap.size := by have := HA.out.aB.size; omega
     go_upto_region 21 with fail
     clear e0 le0
     obtain ⟨wo, Hv⟩ : ∃ wo : World, wo = wr := ⟨_, rfl⟩
     subst Hv
     go_loopw [13, 93] (fun a13 a93 wz => ∃ q : Nat, q ≤ k ∧ a93 = .int .i64 (q : Int) ∧ a13 = .bool (cK (bu cd G) s q).2 ∧ An X wz ab cb rb ib pb (.slice GA k cN) (.slice PA P.length eW) G (bu cd G) val (cK (bu cd G) s q).1) (fun _ a93 _ => k - (intOf a93).toNat)
     case atStart => exact ⟨0, by omega, rfl, rfl, HA.out⟩
     case round =>
      obtain ⟨q, hq, rfl, rfl, Ko⟩ := hrel
      have ow := UZ Ko
      clear Ko
      by_cases hlt3 : q < k
      ·have dl3 : decide ((q : Int) < (k : Int)) = true := decide_eq_true TX
       have dq : (q : Int) < (k : Int) := by omega
       obtain ⟨sq, J1⟩ : ∃ sq, cK (bu cd G) s q = sq := ⟨_, rfl⟩
       have Qn := UZ J1
       rw [J1] at ow
       rw [J1]
       obtain ⟨b, hb⟩ : ∃ b, (bu cd G)[q]? = some b := ⟨_, List.getElem?_eq_getElem (by rw [nW.out]; exact hlt3)⟩
       obtain ⟨t1, t2, -, -, -⟩ := ow.out.lt
       obtain ⟨-, -, t3, -, -⟩ := ow.out.cells
       rw [nW.out] at t3
       have t4 := (ow.out.og (t := q) (by rw [nW.out]; exact hlt3)).1
       have tr : rb < wr.heap.size := ow.out.lt.2.2.1
       have Mj := UZ (yQ ow.out hb (FW.out q b hb) GH.out)
       have hgb : (bu cd G).getD q ⟨[], []⟩ = b := by simp [List.getD, hb]
       rcases tj : sq.1.reach.getD q false with _ | _
       ·rw [tj] at t4
        have HST := UZ (show cK (bu cd G) s (q + 1) = sq by simp only [cK]; rw [Qn.out, tj]; simp)
        clear J1 hb tj hgb
        go_wp2_with fail
        go_roundw
        case rel => exact ⟨q + 1, by omega, by go_num, by rw [HST.out], by rw [HST.out]; exact ow.out⟩
        case measure => simp [intOf]; omega
       ·rw [tj] at t4
        have HST := UZ (show cK (bu cd G) s (q + 1) = ((gJ b q sq.1).1, sq.2 || (gJ b q sq.1).2) by simp only [cK]; rw [Qn.out, tj, if_pos rfl, hgb])
        clear J1 hb tj hgb
        rcases LR : (gJ b q sq.1).2 with _ | _
        ·rw [LR] at Mj HST
         clear LR
         go_wp2_with (go_at_call 25; refine Mj.out.mono ?_; rintro e w3 ⟨rfl, NS, L0⟩)
         go_roundw
         case rel => exact ⟨q + 1, by omega, by go_num, by rw [HST.out]; simp, by rw [HST.out]; exact NS⟩
         case measure => simp [intOf]; omega
        ·rw [LR] at Mj HST
         clear LR
         go_wp2_with (go_at_call 25; refine Mj.out.mono ?_; rintro e w3 ⟨rfl, NS, L0⟩)
         go_roundw
         case rel => exact ⟨q + 1, by omega, by go_num, by rw [HST.out]; simp, by rw [HST.out]; exact NS⟩
         case measure => simp [intOf]; omega
      ·obtain rfl : q = k := by omega
       have dl3 : decide ((q : Int) < (q : Int)) = false := by simp
       have hpa := qY (fun b hb => by
        obtain ⟨i, hi, e⟩ := List.getElem_of_mem hb
        have := (FW.out i b (by rw [← e]; exact List.getElem?_eq_getElem hi)).f.ok
        rwa [nW.out] at this) nW.out (by have := HA.out.ou; rwa [nW.out] at this) q (Nat.le_refl _)
       have SL := UZ hpa
       have IU := UZ (show ((cK (bu cd G) s q).2 = true → ∀ s', Ends (bu cd G) (cK (bu cd G) s q).1 s' → Ends (bu cd G) (cX q) s') ∧ ((cK (bu cd G) s q).2 = false → Ends (bu cd G) (cX q) (cK (bu cd G) s q).1) from
        ⟨fun h s' h2 => Oy.out (by first | rfl | trivial) s' (Ends.more (by rw [nW.out]; exact h) (by rw [nW.out]; exact h2)), fun h => Oy.out (by first | rfl | trivial) _ (by
         have := Ends.done (B := bu cd G) (s := s) (by rw [nW.out]; exact h)
         rwa [nW.out] at this)⟩)
       clear hpa
       go_wp2_with fail
       go_roundg (gL (cK (bu cd G) s q).1 q + (if (cK (bu cd G) s q).2 = true then 1 else 0))
       case measure =>
        obtain ⟨-, h1, h2⟩ := SL.out
        have h3 := S2.out
        rcases O1 : (cK (bu cd G) s q).2 with _ | _
        ·rw [h2 O1]; simp; omega
        ·have := h1 O1; simp; omega
       case rel => exact ⟨_, _, rfl, Nat.le_refl _, ow.out, IU.out.1, IU.out.2⟩
    | false =>
     have HE := UZ (rS.out (by first | rfl | trivial))
     clear Oy rS Fe
     go_upto_region 26 with fail
     obtain ⟨Z, RO⟩ : ∃ Z : World, Z = wr := ⟨_, rfl⟩
     subst RO
     obtain ⟨t1, -, t5, t6, -⟩ := HA.out.lt
     obtain ⟨-, -, t3, t4, -⟩ := HA.out.cells
     rw [nW.out] at t3 t4
     go_cut [15] from 109 to 117 (fun a15 wx => ∃ b15, a15 = .pointer (some ⟨b15, 0, none⟩) ∧ wx.heap[b15]? = some (.cells #[.slice (some ⟨rb, 0, none⟩) k k, .slice (some ⟨ib, 0, none⟩) k k, .slice none 0 0] 42 (0, 0)) ∧ Z.heap.size ≤ b15 ∧ Below Z.heap.size Z wx)
     case first =>
      go_region
      all_goals
       go_wp2_with fail
       go_meet
       case rel => exact ⟨_, rfl, heap_alloc_new _ _, Nat.le_refl _, (Below.drew (Below.refl _ _)).alloc (Nat.le_refl _) _⟩
     obtain ⟨b15, rfl, kd, hbd, bZ⟩ := hcut
     obtain ⟨W6, RR⟩ : ∃ W6 : World, W6 = wc := ⟨_, rfl⟩
     subst RR
     have S6 := UZ (show DM Z W6 b15 rb ib k (.slice none 0 0) [] from ⟨bZ, hbd, kd, World.ownsRow_nil _ _ _ _⟩)
     obtain ⟨iP, Pg, PB, Pz, Py⟩ := info_parts infoP
     have Jo := UZ (HA.out.aB)
     have N2 : Below X.heap.size X W6 := HA.out.aB.trans (bZ.mono HA.out.aB.size)
     have e0 : W6.cell? ⟨w.heap.size + 1, 0, none⟩ = _ := (N2.cell (p := ⟨w.heap.size + 1, 0, none⟩) lX).trans c0
     have le0 : w.heap.size + 1 < W6.heap.size := by have := N2.size; omega
     have S7 := UZ (rI (B := bu cd G) (s := s) (fun q b hb => (FW.out q b hb).ri))
     clear t1 t3 t4 t5 t6 kd hbd bZ N2
     go_upto_region 28 with fail
     clear e0 le0
     go_loopw [121] (fun Iy wz => ∃ (q : Nat) (dv : Value), q ≤ k ∧ Iy = .int .i64 (q : Int) ∧ DM Z wz b15 rb ib k dv (eE (bu cd G) s q)) (fun Iy _ => k - (intOf Iy).toNat)
     case atStart => exact ⟨0, _, by omega, rfl, S6.out⟩
     case round =>
      obtain ⟨q, dv, hq, rfl, hD⟩ := hrel
      have HD := UZ hD
      clear hD
      by_cases E7 : q < k
      ·have dl4 : decide ((q : Int) < (k : Int)) = true := decide_eq_true TX
       have dq : (q : Int) < (k : Int) := by omega
       have LD := UZ (HA.out.below HD.out.aB)
       obtain ⟨x, hx⟩ : ∃ x, G[q]? = some x := ⟨_, List.getElem?_eq_getElem (by rw [Bh.out]; exact E7)⟩
       have hgo := rP.out x (List.mem_of_getElem? hx)
       obtain ⟨gq, mW, rfl, Fu, gc⟩ := Lt.out (by rw [Bh.out]; omega)
       obtain ⟨e0, e1, nv, e2, LX⟩ := gc q x hx
       obtain ⟨nA, dY, rfl, n1, n2, n4⟩ := LX
       have n3 := eZ n2
       have bw : Below w.heap.size w wr := BV.out.trans ((BX.out.trans (LD.out.aB.mono BX.out.size)).mono BV.out.size)
       have f0 : wr.cell? ⟨gq, mW + q * 3, none⟩ = _ := (bw.cell (p := ⟨gq, _, none⟩) Fu).trans e0
       have f1 : wr.cell? ⟨gq, mW + q * 3 + 1, none⟩ = _ := (bw.cell (p := ⟨gq, _, none⟩) Fu).trans e1
       have f2 : wr.cell? ⟨gq, mW + q * 3 + 2, none⟩ = _ := (bw.cell (p := ⟨gq, _, none⟩) Fu).trans e2
       have lg : gq < wr.heap.size := by have := bw.size; omega
       obtain ⟨xu, Ht⟩ : ∃ v, x.nx.length = v := ⟨_, rfl⟩
       have Rk : xu ≤ 1000 := by rw [← Ht]; exact hgo.ri
       rw [Ht] at f2 n1
       obtain ⟨b, hb⟩ : ∃ b, (bu cd G)[q]? = some b := ⟨_, List.getElem?_eq_getElem (by rw [nW.out]; exact E7)⟩
       have Jb : b.nx = x.nx := by
        obtain ⟨x', h1, h2⟩ := mC hb
        rw [hx] at h1
        cases h1
        rw [h2]
       have hgb : (bu cd G).getD q ⟨[], []⟩ = b := by simp [List.getD, hb]
       have HB := UZ (FW.out q b hb)
       have Bj := UZ hb
       have vH := UZ Jb
       have IJ := UZ Ht
       obtain ⟨r1, -, r3, -, -⟩ := LD.out.lt
       obtain ⟨-, -, r5, -, -⟩ := LD.out.cells
       rw [nW.out] at r5
       have r6 := (LD.out.og (t := q) (by rw [nW.out]; exact E7)).1
       have DV := UZ (show ∀ (j : Nat) (t : Int), x.nx[j]? = some t → ∃ nb gM, nA = some ⟨nb, gM, none⟩ ∧ nb < w.heap.size ∧ w.cell? ⟨nb, gM + j, none⟩ = some (.int .i64 t) from fun j t hj => by
        have hl := (List.getElem?_eq_some_iff.1 hj).1
        obtain ⟨nb, gM, ha, hb2, hcc⟩ := n4 TX
        exact ⟨nb, gM, ha, hb2, by rw [hcc j hl, show x.nx.getD j 0 = t by simp [List.getD, hj]]⟩)
       have LA := UZ bw
       have IV := UZ (show eE (bu cd G) s (q + 1) = eE (bu cd G) s q ++ (if s.reach.getD q false = true then eG b q b.nx.length (s.cJ.getD q []) else []) by rw [pO, hgb])
       have A8 := S7.out q
       clear hgo e0 e1 e2 gc Ht hx hb Jb hgb n4 n2 bw
       rcases tj : s.reach.getD q false with _ | _
       ·rw [tj] at r6 IV
        simp only [Bool.false_eq_true, if_false, List.append_nil] at IV
        clear tj
        go_wp2_with fail
        go_roundw
        case rel => exact ⟨q + 1, dv, by omega, by go_num, by rw [IV.out]; exact HD.out.below ((Below.refl _ _).alloc (Nat.le_refl _) _)⟩
        case measure => simp [intOf]; omega
       ·rw [tj] at r6 IV
        rw [if_pos rfl] at IV
        clear tj
        go_upto_region 31 with fail
        obtain ⟨b17, Ic⟩ : ∃ b17, wr.heap.size = b17 := ⟨_, rfl⟩
        obtain ⟨Y, hY⟩ : ∃ Y, wr.alloc (.cells #[.int .i64 x.lo, .int .i64 x.hi, .slice nA xu dY] 36) = Y := ⟨_, rfl⟩
        rw [hY]
        have bY : Below wr.heap.size wr Y := hY ▸ (Below.refl _ _).alloc (Nat.le_refl _) _
        have kY : Y.heap[b17]? = some (.cells #[.int .i64 x.lo, .int .i64 x.hi, .slice nA xu dY] 36 (0, 0)) := by rw [← Ic, ← hY]; exact heap_alloc_new _ _
        rw [Ic]
        have QJ := UZ (HD.out.below bY)
        have tE := UZ (LD.out.below bY)
        have KY := UZ kY
        have y17 : Y.cell? ⟨b17, 2, none⟩ = some (.slice nA xu dY) := by simp [World.cell?, kY]
        have l17 : b17 < Y.heap.size := ax kY
        have qi := UZ (rM tE.out Bj.out HB.out.ne HB.out.f.ops (GH.out.below tE.out.aB))
        have Oe := UZ (fun bM (h : dJ b.code (s.cJ.getD q []) = some bM) => k8 HB.out.f.ops (tE.out.ou.get (by rw [nW.out]; exact E7)) h)
        clear hY bY kY Ic f0 f1 f2 r1 r3 r5 r6
        have QK := UZ A8
        rcases hr : dJ b.code (s.cJ.getD q []) with _ | bM
        ·rw [hr] at qi
         have GL := UZ hr
         clear hr Oe
         go_upto_region 32 with (first | (go_at_call 26; refine qi.out.mono ?_; rintro e w3 ⟨rfl, hb3⟩; unfold cE) | (refine wpList_store_row rfl 56 (.tmp 18) (.tmp 138) rfl w3.heap.size (aa ak).toArray rfl rfl 56 _ (heap_alloc_new _ _) (hi4 ag) (hi6 ag ag) (aj ak) ?_))
         obtain ⟨Y2, Gs⟩ : ∃ Y2, (w3.alloc (.cells Va.toArray 56)).setRow w3.heap.size (aa ak).toArray = Y2 := ⟨_, rfl⟩
         rw [Gs]
         have FH : Below Y.heap.size Y Y2 := Gs ▸ below_setRow (hb3.alloc hb3.size _) hb3.size _
         have z17 : Y2.cell? ⟨b17, 2, none⟩ = _ := (FH.cell (p := ⟨b17, 2, none⟩) l17).trans y17
         have m17 : b17 < Y2.heap.size := by have := FH.size; omega
         have Ov := UZ (QJ.out.below FH)
         clear Gs FH hb3
         go_upto_region 33 with fail
         clear z17 m17
         obtain ⟨wo, Hv⟩ : ∃ wo : World, wo = wr := ⟨_, rfl⟩
         subst Hv
         go_loopw [143] (fun a143 wz => ∃ (j : Nat) (dv2 : Value), j ≤ xu ∧ a143 = .int .i64 (j : Int) ∧ DM Z wz b15 rb ib k dv2 (eE (bu cd G) s q ++ eG b q j (s.cJ.getD q []))) (fun a143 _ => xu - (intOf a143).toNat)
         case atStart => exact ⟨0, dv, by omega, rfl, by rw [pP, List.append_nil]; exact Ov.out⟩
         case round =>
          obtain ⟨j, dv2, hj, rfl, Km⟩ := hrel
          have vG := UZ Km
          clear Km
          by_cases C0 : j < xu
          ·have dl5 : decide ((j : Int) < (xu : Int)) = true := decide_eq_true TX
           have dj : (j : Int) < (xu : Int) := by omega
           obtain ⟨t, ht⟩ : ∃ t, x.nx[j]? = some t := ⟨_, List.getElem?_eq_getElem (by rw [IJ.out]; exact C0)⟩
           obtain ⟨nb, gM, rfl, hnb, Gr⟩ := DV.out j t ht
           have Il : Below w.heap.size w wr := BV.out.trans ((BX.out.trans ((Jo.out.trans (vG.out.aB.mono Jo.out.size)).mono BX.out.size)).mono BV.out.size)
           have x0 : wr.cell? ⟨nb, gM + j, none⟩ = some (.int .i64 t) := (Il.cell (p := ⟨nb, gM + j, none⟩) hnb).trans Gr
           have MP : nb < wr.heap.size := by have := Il.size; omega
           obtain ⟨d1, d2, d3⟩ := vG.out.cell
           have HOW := UZ vG.out.row
           have Ni := mY b q j (s.cJ.getD q [])
           have RP := vG.out.aB.size
           have Ef := UZ (show eE (bu cd G) s q ++ eG b q (j + 1) (s.cJ.getD q []) = eE (bu cd G) s q ++ eG b q j (s.cJ.getD q []) ++ [((q : Int), t)] by
            rw [xA GL.out (by rw [vH.out, IJ.out]; exact C0), vH.out, show x.nx.getD j 0 = t by simp [List.getD, ht], List.append_assoc])
           obtain ⟨LL, Ih⟩ : ∃ LL, eE (bu cd G) s q ++ eG b q j (s.cJ.getD q []) = LL := ⟨_, rfl⟩
           have RZ : LL.length ≤ 1000 * q + j := by rw [← Ih, List.length_append]; have := QK.out; omega
           rw [Ih] at Ef HOW vG
           clear ht Gr Il Ni Ih
           go_wp2_with (at_builtin; refine wpList_append_own_at _ rfl (.tmp 151) (.tmp 155) 40 rfl Z.heap.size 89 iP _ 2 16 Tryz.underlying40 Pg PB Pz Py rfl T1 dv2 LL.length (wD LL) rfl (HOW.out.alloc _) ⟨wr.heap.size, 0, none⟩ 1 1 [.int .i64 (q : Int), .int .i64 t] rfl rfl (pR _ _ _ _) T2 T3 TX Uc ?_; intro v' W' hown' hgrow hni rD; obtain ⟨g3, N0, rfl⟩ := ownsRow_succ hown'; obtain ⟨Nv, hkeep⟩ := vG.out.app (y := ((q : Int), t)) ((Below.refl _ _).alloc (Nat.le_refl _) _) hgrow (by rw [uj]; exact hown'); have h15 : W'.cell? ⟨b15, 2, none⟩ = some dv2 := hgrow.cell (a := ⟨b15, 2, none⟩) (v := dv2) Ug (fun e => vG.out.Eb e); have NT : W'.frozen? ⟨b15, 2, none⟩ = false := (World.frozen?_of_block (hgrow.block b15 T9 (fun e => vG.out.Eb e))).trans Ug)
           go_roundw
           case rel => exact ⟨j + 1, _, by omega, by go_num, by rw [Ef.out]; exact Nv⟩
           case measure => simp [intOf]; omega
          ·obtain rfl : j = xu := by omega
           have dl5 : decide ((j : Int) < (j : Int)) = false := by simp
           have DX := UZ (show DM Z wr b15 rb ib k dv2 (eE (bu cd G) s (q + 1)) by rw [IV.out, vH.out, IJ.out]; exact vG.out)
           go_wp2_with fail
           go_roundw
           case rel => exact ⟨q + 1, dv2, by omega, by go_num, DX.out⟩
           case measure => simp [intOf]; omega
        ·rw [hr] at qi
         have GL := UZ hr
         have fy := UZ (Oe.out bM hr)
         clear hr Oe
         go_upto_region 32 with (first | (go_at_call 26; refine qi.out.mono ?_; rintro e w3 ⟨rfl, hb3⟩; unfold cE) | (refine wpList_store_row rfl 56 (.tmp 18) (.tmp 138) rfl w3.heap.size (aa bM).toArray rfl rfl 56 _ (heap_alloc_new _ _) (hi4 fy.out.len) (hi6 fy.out.len ag) (aj bM) ?_))
         obtain ⟨b18, Ib⟩ : ∃ b18, w3.heap.size = b18 := ⟨_, rfl⟩
         obtain ⟨Y2, Gs⟩ : ∃ Y2, (w3.alloc (.cells Va.toArray 56)).setRow w3.heap.size (aa bM).toArray = Y2 := ⟨_, rfl⟩
         rw [Gs]
         have FH : Below Y.heap.size Y Y2 := Gs ▸ below_setRow (hb3.alloc hb3.size _) hb3.size _
         have OO : aC Y2 b18 56 bM := by rw [← Ib, ← Gs]; exact aC.row (z := ak) (heap_alloc_new _ _)
         rw [Ib]
         have z17 : Y2.cell? ⟨b17, 2, none⟩ = _ := (FH.cell (p := ⟨b17, 2, none⟩) l17).trans y17
         have m17 : b17 < Y2.heap.size := by have := FH.size; omega
         have Ov := UZ (QJ.out.below FH)
         have Sw := UZ OO
         clear Gs FH hb3 Ib OO
         go_upto_region 33 with fail
         clear z17 m17
         obtain ⟨wo, Hv⟩ : ∃ wo : World, wo = wr := ⟨_, rfl⟩
         subst Hv
         go_loopw [143] (fun a143 wz => ∃ (j : Nat) (dv2 : Value), j ≤ xu ∧ a143 = .int .i64 (j : Int) ∧ DM Z wz b15 rb ib k dv2 (eE (bu cd G) s q ++ eG b q j (s.cJ.getD q [])) ∧ aC wz b18 56 bM) (fun a143 _ => xu - (intOf a143).toNat)
         case atStart => exact ⟨0, dv, by omega, rfl, by rw [pP, List.append_nil]; exact Ov.out, Sw.out⟩
         case round =>
          obtain ⟨j, dv2, hj, rfl, Km, hkb⟩ := hrel
          have vG := UZ Km
          have KB := UZ hkb
          have fR := UZ hkb.range
          clear Km hkb
          by_cases C0 : j < xu
          ·have dl5 : decide ((j : Int) < (xu : Int)) = true := decide_eq_true TX
           have dj : (j : Int) < (xu : Int) := by omega
           obtain ⟨t, ht⟩ : ∃ t, x.nx[j]? = some t := ⟨_, List.getElem?_eq_getElem (by rw [IJ.out]; exact C0)⟩
           obtain ⟨nb, gM, rfl, hnb, Gr⟩ := DV.out j t ht
           have Il : Below w.heap.size w wr := BV.out.trans ((BX.out.trans ((Jo.out.trans (vG.out.aB.mono Jo.out.size)).mono BX.out.size)).mono BV.out.size)
           have x0 : wr.cell? ⟨nb, gM + j, none⟩ = some (.int .i64 t) := (Il.cell (p := ⟨nb, gM + j, none⟩) hnb).trans Gr
           have MP : nb < wr.heap.size := by have := Il.size; omega
           have QX := UZ (HA.out.below vG.out.aB)
           have s9 := UZ (uS QX.out Bj.out HB.out.ne HB.out.ri HB.out.f.op j bM fy.out (GH.out.below QX.out.aB))
           have Ni := mY b q j (s.cJ.getD q [])
           have Ef := UZ (show eE (bu cd G) s q ++ eG b q (j + 1) (s.cJ.getD q []) = eE (bu cd G) s q ++ eG b q j (s.cJ.getD q []) ++ (if (dL b.last b.nx.length j bM).isNone = true then [((q : Int), t)] else []) by
            rw [xz GL.out, show b.nx.getD j 0 = t by rw [vH.out]; simp [List.getD, ht], List.append_assoc])
           obtain ⟨LL, Ih⟩ : ∃ LL, eE (bu cd G) s q ++ eG b q j (s.cJ.getD q []) = LL := ⟨_, rfl⟩
           have RZ : LL.length ≤ 1000 * q + j := by rw [← Ih, List.length_append]; have := QK.out; omega
           rw [Ih] at Ef vG
           clear ht Gr Il Ni Ih
           rcases he : dL b.last b.nx.length j bM with _ | r
           ·rw [he] at s9 Ef
            simp only [Option.isNone_none, if_true] at Ef
            clear he
            go_upto_region 39 with (first | (refine wpList_load_mid rfl _ _ rfl _ _ rfl (aa bM) _ fR.out Tryz.underlying56 rfl (hi3 fy.out.len) ?_) | (go_at_call 27; refine s9.out.mono ?_; rintro e w5 ⟨rfl, hb5⟩; unfold cE) | (refine wpList_store_row rfl 56 (.tmp 22) (.tmp 164) rfl w5.heap.size (aa ak).toArray rfl rfl 56 _ (heap_alloc_new _ _) (hi4 ag) (hi6 ag ag) (aj ak) ?_))
            obtain ⟨U, hU⟩ : ∃ U, (w5.alloc (.cells Va.toArray 56)).setRow w5.heap.size (aa ak).toArray = U := ⟨_, rfl⟩
            rw [hU]
            have bU : Below wr.heap.size wr U := hU ▸ below_setRow (hb5.alloc hb5.size _) hb5.size _
            have Jt := UZ (vG.out.below bU)
            have Su := UZ (KB.out.keep bU)
            obtain ⟨d1, d2, d3⟩ := Jt.out.cell
            have HOW := UZ Jt.out.row
            have RP := Jt.out.aB.size
            clear hU bU hb5 x0 MP
            go_wp2_with (at_builtin; refine wpList_append_own_at _ rfl (.tmp 169) (.tmp 173) 40 rfl Z.heap.size 89 iP _ 2 16 Tryz.underlying40 Pg PB Pz Py rfl T1 dv2 LL.length (wD LL) rfl (HOW.out.alloc _) ⟨U.heap.size, 0, none⟩ 1 1 [.int .i64 (q : Int), .int .i64 t] rfl rfl (pR _ _ _ _) T2 T3 TX Uc ?_; intro v' W' hown' hgrow hni rD; obtain ⟨g3, N0, rfl⟩ := ownsRow_succ hown'; obtain ⟨Nv, hkeep⟩ := Jt.out.app (y := ((q : Int), t)) ((Below.refl _ _).alloc (Nat.le_refl _) _) hgrow (by rw [uj]; exact hown'); have h15 : W'.cell? ⟨b15, 2, none⟩ = some dv2 := hgrow.cell (a := ⟨b15, 2, none⟩) (v := dv2) Ug (fun e => Jt.out.Eb e); have NT : W'.frozen? ⟨b15, 2, none⟩ = false := (World.frozen?_of_block (hgrow.block b15 T9 (fun e => Jt.out.Eb e))).trans Ug)
            go_roundw
            case rel => exact ⟨j + 1, _, by omega, by go_num, by rw [Ef.out]; exact Nv, hkeep _ _ _ Su.out T1 T1⟩
            case measure => simp [intOf]; omega
           ·rw [he] at s9 Ef
            simp only [Option.isNone_some, Bool.false_eq_true, if_false, List.append_nil] at Ef
            have KU := UZ (mo fy.out he)
            clear he
            go_wp2_with (first | (refine wpList_load_mid rfl _ _ rfl _ _ rfl (aa bM) _ fR.out Tryz.underlying56 rfl (hi3 fy.out.len) ?_) | (go_at_call 27; refine s9.out.mono ?_; rintro e w5 ⟨rfl, hb5⟩; unfold cE) | (refine wpList_store_row rfl 56 (.tmp 22) (.tmp 164) rfl w5.heap.size (aa r).toArray rfl rfl 56 _ (heap_alloc_new _ _) (hi4 KU.out.len) (hi6 KU.out.len ag) (aj r) ?_))
            go_roundw
            case rel =>
             have bU : Below wr.heap.size wr ((w5.alloc (.cells Va.toArray 56)).setRow w5.heap.size (aa r).toArray) := below_setRow (hb5.alloc hb5.size _) hb5.size _
             exact ⟨j + 1, dv2, by omega, by go_num, by rw [Ef.out]; exact vG.out.below bU, KB.out.keep bU⟩
            case measure => simp [intOf]; omega
          ·obtain rfl : j = xu := by omega
           have dl5 : decide ((j : Int) < (j : Int)) = false := by simp
           have DX := UZ (show DM Z wr b15 rb ib k dv2 (eE (bu cd G) s (q + 1)) by rw [IV.out, vH.out, IJ.out]; exact vG.out)
           go_wp2_with fail
           go_roundw
           case rel => exact ⟨q + 1, dv2, by omega, by go_num, DX.out⟩
           case measure => simp [intOf]; omega
      ·obtain rfl : q = k := by omega
       have dl4 : decide ((q : Int) < (q : Int)) = false := by simp
       obtain ⟨wf, hwf⟩ : ∃ wf : World, wf = wr := ⟨_, rfl⟩
       subst hwf
       have qi := UZ (HA.out.below HD.out.aB)
       have Qg := UZ (show wf.heap[w.heap.size + 1 + 1]? = some (.cells #[.slice none 0 0, .slice none 0 0, .slice none 0 0] 42 (0, 0)) from ((BX.out.trans (qi.out.aB.mono BX.out.size)).block _ (by have := SV.out; omega)).trans K2.out)
       have h15 := HD.out.head
       have o0 : wf.cell? ⟨b15, 0, none⟩ = some (.slice (some ⟨rb, 0, none⟩) q q) := by simp [World.cell?, h15]
       have o1 : wf.cell? ⟨b15, 1, none⟩ = some (.slice (some ⟨ib, 0, none⟩) q q) := by simp [World.cell?, h15]
       have o2 : wf.cell? ⟨b15, 2, none⟩ = some dv := by simp [World.cell?, h15]
       have lo := ax h15
       obtain ⟨vA, vn, vc, rfl⟩ : ∃ vA vn vc, dv = .slice vA vn vc := by
        rcases HD.out.row.2 with ⟨e, _⟩ | ⟨g', cap', cur', e, _⟩
        ·exact ⟨_, _, _, e⟩
        ·exact ⟨_, _, _, e⟩
       have Ti := UZ (BV.out.trans ((BX.out.trans (qi.out.aB.mono BX.out.size)).mono BV.out.size))
       clear h15
       go_wp2_with (refine wpList_store_row rfl 42 (.tmp 4) (.tmp 178) rfl (w.heap.size + 1 + 1) #[.slice (some ⟨rb, 0, none⟩) q q, .slice (some ⟨ib, 0, none⟩) q q, .slice vA vn vc] rfl rfl 42 _ Qg.out TY rfl T2 ?_)
       have RN : Below w.heap.size w (wf.setRow (w.heap.size + 1 + 1) #[.slice (some ⟨rb, 0, none⟩) q q, .slice (some ⟨ib, 0, none⟩) q q, .slice vA vn vc]) := below_setRow Ti.out TX _
       refine bodyPost_ret (results_cell_tmp (P := Tryz.prog) Tryz.results7 _ _ (w.heap.size + 1 + 1) [.slice (some ⟨rb, 0, none⟩) q q, .slice (some ⟨ib, 0, none⟩) q q, .slice vA vn vc] _ rfl (aq (setRow_heap _ _ _ _ _ _ Qg.out)) Tryz.underlying42 rfl TY) rfl ⟨⟨s, _, _, _, HE.out, rfl, ?_, ?_, ?_⟩, RN⟩
       ·have hne : ∀ z, z ≠ w.heap.size + 1 + 1 → (wf.setRow (w.heap.size + 1 + 1) #[.slice (some ⟨rb, 0, none⟩) q q, .slice (some ⟨ib, 0, none⟩) q q, .slice vA vn vc]).heap[z]? = wf.heap[z]? := fun z hz => setRow_other _ _ _ _ hz
        have s1 : s.reach.length = q := by have := qi.out.ou.l1; rwa [nW.out] at this
        have s2 : s.cJ.length = q := by have := qi.out.ou.l2; rwa [nW.out] at this
        have x1 := qi.out.rV
        have x2 := qi.out.iV
        have x3 := SV.out
        have x4 := BX.out.size
        refine ⟨⟨_, q, by rw [s1], by omega, by unfold maxLen; omega, fun _ => ⟨rb, 0, rfl, by have := qi.out.lt; simp [World.setRow]; omega, fun p hp => ?_⟩⟩, ⟨_, q, by rw [s2], by omega, by unfold maxLen; omega, fun _ => ⟨ib, 0, rfl, by have := qi.out.lt; simp [World.setRow]; omega, fun p hp => ?_⟩⟩⟩
        ·rw [Nat.zero_add, World.cell?_of_block (hne rb TX)]
         exact (qi.out.og (by rw [nW.out]; omega)).1
        ·rw [Nat.zero_add]
         intro jj vv Rl
         rw [World.cell?_of_block (hne ib TX)]
         exact qi.out.lZ (by rw [nW.out]; omega) jj vv Rl
       ·have hp := EK HD.out.row
        obtain ⟨A', cap', e1, e2, e3, e4⟩ := hp
        refine ⟨A', cap', e1, e2, e3, fun h0 => ?_⟩
        obtain ⟨b', off', ea, eb, ec⟩ := e4 h0
        refine ⟨b', off', ea, by simp [World.setRow]; omega, fun i p hi => ?_⟩
        obtain ⟨c1', Sg⟩ := ec i p hi
        have hnb : b' ≠ w.heap.size + 1 + 1 := by
         have h1 := (HD.out.row.lt b' (by rw [e1, ea]; rfl)).1
         have h2 := Jo.out.size
         have x3 := SV.out
         have x4 := BX.out.size
         omega
        exact ⟨by rw [World.cell?_of_block (setRow_other _ _ _ _ hnb)]; exact c1', by rw [World.cell?_of_block (setRow_other _ _ _ _ hnb)]; exact Sg⟩
       ·intro q' h
        have x1 := qi.out.rV
        have x2 := qi.out.iV
        have x3 := SV.out
        have x4 := BX.out.size
        have x5 := Jo.out.size
        rcases h with h | h | h
        ·have e : rb = q' := by simpa [Value.ownBlock] using h
         omega
        ·have e : ib = q' := by simpa [Value.ownBlock] using h
         omega
        ·have := (HD.out.row.lt q' h).1
         omega
theorem Dy : yz := fun cv ev bv pv sh lk n cd G P w T HW HG HP hv h0 h1 hok => jF cv ev bv pv sh lk n cd G P w T HW HG HP hv h0 h1 hok
end
end Go.Proofs.YtebklpnkcicpjaaGreatDoor
