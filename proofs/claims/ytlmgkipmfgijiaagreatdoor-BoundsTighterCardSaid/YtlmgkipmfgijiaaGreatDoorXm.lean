/-
  What is proved here: parts aAz.
-/
import Derived.Test.YtlmgkipmfgijiaaGreatDoorXa
import Derived.Test.YtlmgkipmfgijiaaGreatDoorXl
namespace Go.Proofs.YtlmgkipmfgijiaaGreatDoor
set_option linter.unusedVariables false
set_option linter.unusedSimpArgs false
set_option maxRecDepth 100000
set_option maxHeartbeats 8000000
section
open Go.RowKit
theorem y9 (cv ev bv pv : Value) (sh lk : Int) (n : Nat) (cd : Nat → Int) (G : List aU) (P : List (List Int)) (w : World) (T : gZ w) (HW : Words w cv n cd) (HG : fL w bv G) (HP : mG w pv P)
  (hv : bQ G P) (hg0 : 0 < G.length) (hg1 : G.length ≤ 1000) (hok : ∀ x ∈ G, Ru n cd G x) :
  Calls Tryz.prog 52 #[.agg #[cv, ev, .int .i64 sh, .int .i64 lk], .agg #[bv, pv]] w fun e w' => (∃ s rv iv dv, Ends (aR cd G) (cg G.length) s ∧ e = .returned (.tuple #[.agg #[rv, iv, dv], .int .i64 0]) ∧ tu w' rv iv s.reach s.bC ∧ P7 w' dv (fJ (aR cd G) s G.length) ∧ Uf w.heap.size rv iv dv) ∧ Below w.heap.size w w' := by
 obtain ⟨GA, aY, mV, g2, g3, g4⟩ := id HG
 have g3' := ep g3
 obtain ⟨PA, aX, hpv, p2, p3, p4⟩ := id HP
 obtain ⟨V, hV, k0, k1, k2, bV, sV⟩ := dP w #[cv, ev, .int .i64 sh, .int .i64 lk] #[bv, pv] #[.slice none 0 0, .slice none 0 0, .slice none 0 0] 25 31 59
 have RR : V.heap.size = w.heap.size + 1 + 1 + 1 := by rw [← hV]; simp
 have b0 : V.cell? ⟨w.heap.size + 1, 0, none⟩ = some bv := by simp [World.cell?, k1]
 have b1 : V.cell? ⟨w.heap.size + 1, 1, none⟩ = some pv := by simp [World.cell?, k1]
 have l1 : w.heap.size + 1 < V.heap.size := by omega
 have lD := aiU (jU bv pv G P V (HG.below bV) (HP.below bV) ahU (fun x hx => by have := (hok x hx).rQ; omega))
 obtain ⟨gn, hgn⟩ : ∃ m, G.length = m := ⟨_, rfl⟩
 rw [hgn] at mV g2 hg0 hg1
 rw [hgn]
 subst mV hpv
 have eP := aiU hgn
 have pQ := aiU hok
 have Ke := aiU HW
 have JI := aiU HG
 have HT := aiU T
 have BV := aiU bV
 have SV := aiU RR
 have K0 := aiU k0
 have K2 := aiU k2
 have Qc := aiU hv
 have WJ := aiU g4
 clear hgn hok HW HG HP T bV sV RR k0 k1 k2 hv g3 g4 p4 p3
 go_enter Tryz.func52, Tryz.ntmps52
 go_upto_region 3 with (go_at_call 35; refine lD.out.mono ?_; rintro e X ⟨⟨r, rfl, hr⟩, Ci⟩; obtain rfl : r = true := hr.2 Qc.out)
 have c0 : X.cell? ⟨w.heap.size + 1, 0, none⟩ = _ := (Ci.cell (p := ⟨w.heap.size + 1, 0, none⟩) l1).trans b0
 have c1 : X.cell? ⟨w.heap.size + 1, 1, none⟩ = _ := (Ci.cell (p := ⟨w.heap.size + 1, 1, none⟩) l1).trans b1
 have lX : w.heap.size + 1 < X.heap.size := by have := Ci.size; omega
 have BX := aiU Ci
 clear b0 b1 hr Ci lD Qc hV
 go_upto_region 4 with fail
 obtain ⟨cS, O2⟩ : ∃ c, ((List.range gn).map fun _ => Value.slice none 0 0).toArray = c := ⟨_, rfl⟩
 obtain ⟨cB, hcB⟩ : ∃ c, ((List.replicate gn false).map Value.bool).toArray = c := ⟨_, rfl⟩
 obtain ⟨cR, Ym⟩ : ∃ c, (mI (List.replicate gn aA)).toArray = c := ⟨_, rfl⟩
 obtain ⟨cI, O3⟩ : ∃ c, ((List.replicate gn (0 : Int)).map (Value.int .i64)).toArray = c := ⟨_, rfl⟩
 obtain ⟨iA, S9, Nk, hA1, J6⟩ := info_parts G8
 obtain ⟨iB, S8, hB0, hB1, hB2⟩ := info_parts Hg
 obtain ⟨iC, hiC, Pm, hC1, hC2⟩ := info_parts OJ
 obtain ⟨iD, hiD, Pk, hD1, hD2⟩ := info_parts OL
 have mk1 : ∀ W, (Instr.makeSlice 157 (.int .i64 (gn : Int)) (.int .i64 (gn : Int))).run Tryz.prog W = .ok (.slice (some ⟨W.heap.size, 0, none⟩) gn gn) (W.alloc (.cells cS 144)) := fun W => by
  have hr := run_make (P := Tryz.prog) W 157 144 iA _ Tryz.underlying157 S9 Nk .i64 .i64 (gn : Int) (gn : Int) ahU (Int.le_refl _) (by rw [J6]; omega) ahU
  rw [hA1, Int.toNat_natCast] at hr
  rw [hr, ← O2, ← ML]
  rfl
 have mk2 : ∀ W, (Instr.makeSlice 55 (.int .i64 (gn : Int)) (.int .i64 (gn : Int))).run Tryz.prog W = .ok (.slice (some ⟨W.heap.size, 0, none⟩) gn gn) (W.alloc (.cells cB 4)) := fun W => by
  have hr := run_make (P := Tryz.prog) W 55 4 iB _ Tryz.underlying55 S8 hB0 .i64 .i64 (gn : Int) (gn : Int) ahU (Int.le_refl _) (by rw [hB2]; omega) ahU
  rw [hB1, Int.toNat_natCast] at hr
  rw [hr, ← hcB, ← MM]
  rfl
 have mk3 : ∀ W, (Instr.makeSlice 56 (.int .i64 (gn : Int)) (.int .i64 (gn : Int))).run Tryz.prog W = .ok (.slice (some ⟨W.heap.size, 0, none⟩) gn gn) (W.alloc (.cells cR 174)) := fun W => by
  have hr := run_make (P := Tryz.prog) W 56 174 iC _ Tryz.underlying56 hiC Pm .i64 .i64 (gn : Int) (gn : Int) ahU (Int.le_refl _) (by rw [hC2]; omega) ahU
  rw [hC1, Int.toNat_natCast] at hr
  rw [hr, ← Ym, ← Sh]
  rfl
 have mk4 : ∀ W, (Instr.makeSlice 38 (.int .i64 (gn : Int)) (.int .i64 (gn : Int))).run Tryz.prog W = .ok (.slice (some ⟨W.heap.size, 0, none⟩) gn gn) (W.alloc (.cells cI 3)) := fun W => by
  have hr := run_make (P := Tryz.prog) W 38 3 iD _ Tryz.underlying38 hiD Pk .i64 .i64 (gn : Int) (gn : Int) ahU (Int.le_refl _) (by rw [hD2]; omega) ahU
  rw [hD1, Int.toNat_natCast] at hr
  rw [hr, ← O3, ← Si]
  rfl
 have Vc := aiU O2
 have Vf := aiU hcB
 have Rm := aiU Ym
 have WS := aiU O3
 clear O2 hcB Ym O3 Nk hA1 J6 hB0 hB1 hB2 Pm hC1 hC2 Pk hD1 hD2 S9 S8 hiC hiD
 go_cut [7] from 31 to 41 (fun a7 wx => ∃ ab cb rb ib pb, a7 = .pointer (some ⟨ab, 0, none⟩) ∧ wx.heap[ab]? = some (.cells #[.slice GA gn aY, .slice PA P.length aX, .slice (some ⟨cb, 0, none⟩) gn gn, .slice (some ⟨rb, 0, none⟩) gn gn, .slice (some ⟨ib, 0, none⟩) gn gn, .slice (some ⟨pb, 0, none⟩) gn gn] 169 (0, 0)) ∧ wx.heap[cb]? = some (.cells cS 144 (0, 0)) ∧ wx.heap[rb]? = some (.cells cB 4 (0, 0)) ∧ wx.heap[ib]? = some (.cells cR 174 (0, 0)) ∧ wx.heap[pb]? = some (.cells cI 3 (0, 0)) ∧ (X.heap.size ≤ ab ∧ X.heap.size ≤ cb ∧ X.heap.size ≤ rb ∧ X.heap.size ≤ ib ∧ X.heap.size ≤ pb) ∧ Below X.heap.size X wx)
 case first =>
  go_region_held3 (fun w' => (∀ b o, b < X.heap.size → w'.cell? ⟨b, o, none⟩ = X.cell? ⟨b, o, none⟩) ∧ Below X.heap.size X w') ((exact MS (by (repeat (first | (with_reducible exact Below.refl _ _) | (with_reducible refine Below.drew ?_) | (with_reducible refine Below.alloc ?_ aie _)))))) (fail)
  all_goals (go_wp2_with fail; go_meet)
  all_goals
   refine ⟨_, _, _, _, _, rfl, aG _ _ ahZ, ?_, ?_, ?_, ?_, by omega, ?_⟩
   ·(show (World.alloc _ _).heap[_]? = _); (repeat (first | exact heap_alloc_new _ _ | exact aG _ _ aio | rw [heap_alloc_old _ _ aij]))
   ·(show (World.alloc _ _).heap[_]? = _); (repeat (first | exact heap_alloc_new _ _ | exact aG _ _ aio | rw [heap_alloc_old _ _ aij]))
   ·(show (World.alloc _ _).heap[_]? = _); (repeat (first | exact heap_alloc_new _ _ | exact aG _ _ aio | rw [heap_alloc_old _ _ aij]))
   ·(show (World.alloc _ _).heap[_]? = _); (repeat (first | exact heap_alloc_new _ _ | exact aG _ _ aio | rw [heap_alloc_old _ _ aij]))
   ·(repeat (first | (with_reducible exact Below.refl _ _) | (with_reducible refine Below.drew ?_) | (with_reducible refine Below.alloc ?_ aie _)))
 obtain ⟨ab, cb, rb, ib, pb, rfl, hd1, hd2, hd3, hd4, hd5, ⟨ha, hc, hr, hi, hp⟩, bW⟩ := hcut
 obtain ⟨W1, hW1⟩ : ∃ W1 : World, W1 = wc := ⟨_, rfl⟩
 subst hW1
 rw [← Vc.out] at hd2
 rw [← Vf.out] at hd3
 rw [← Rm.out] at hd4
 rw [← WS.out] at hd5
 have WR := aiU (show CM X W1 ab cb rb ib pb gn (.slice GA gn aY) (.slice PA P.length aX) (fun _ => .slice none 0 0) (fun _ => []) from
  ⟨bW, ha, hr, hi, hp, hd1, ⟨by simp, .inr ⟨cb, gn, _, rfl, hc, hd2, Nat.le_refl _, by unfold maxLen; omega, by simp, by simp [List.take_of_length_le]⟩⟩, fun i hi => World.ownsRow_nil _ _ _ _, fun i j hi hj _ q hq => (by cases hq), hd3, hd4, hd5⟩)
 have bW1 := bW.size
 have d0 : W1.cell? ⟨w.heap.size + 1, 0, none⟩ = _ := (bW.cell (p := ⟨w.heap.size + 1, 0, none⟩) lX).trans c0
 have Xv : w.heap.size + 1 < W1.heap.size := by omega
 clear hd1 hd2 hd3 hd4 hd5 ha hc hr hi hp bW Vc Vf Rm WS mk1 mk2 mk3 mk4
 obtain ⟨iI, p9, qd, oy, ox⟩ := info_parts Hf
 go_upto_region 6 with fail
 clear d0 Xv
 have SK := BX.out.size
 go_loopw [45] (fun a45 wr => ∃ (k : Nat) (val : Nat → Value), k ≤ gn ∧ a45 = .int .i64 (k : Int) ∧ CM X wr ab cb rb ib pb gn (.slice GA gn aY) (.slice PA P.length aX) val (eE (cz cd G) k [])) (fun a45 _ => gn - (intOf a45).toNat)
 case atStart => exact ⟨0, _, by omega, rfl, by rw [uZ]; exact WR.out⟩
 case round =>
  obtain ⟨k, val, hk, rfl, hM⟩ := hrel
  have HM := aiU hM
  have hrX := hM.aD.size
  clear hM
  by_cases hlt : k < gn
  ·have dl : decide ((k : Int) < (gn : Int)) = true := decide_eq_true ahU
   have dk : (k : Int) < (gn : Int) := by omega
   obtain ⟨x, hx⟩ : ∃ x, G[k]? = some x := ⟨_, List.getElem?_eq_getElem (by rw [eP.out]; exact hlt)⟩
   have hgo := pQ.out x (List.mem_of_getElem? hx)
   obtain ⟨gq, j8, rfl, Ib, gc⟩ := WJ.out aib
   obtain ⟨e0, e1, nv, e2, OW⟩ := gc k x hx
   obtain ⟨nA, di, rfl, n1, n2⟩ := ints_at OW
   have n3 := ep n2
   have bw : Below w.heap.size w wr := BV.out.trans ((BX.out.trans (HM.out.aD.mono BX.out.size)).mono BV.out.size)
   have f0 : wr.cell? ⟨gq, j8 + k * 3, none⟩ = _ := (bw.cell (p := ⟨gq, _, none⟩) Ib).trans e0
   have f1 : wr.cell? ⟨gq, j8 + k * 3 + 1, none⟩ = _ := (bw.cell (p := ⟨gq, _, none⟩) Ib).trans e1
   have f2 : wr.cell? ⟨gq, j8 + k * 3 + 2, none⟩ = _ := (bw.cell (p := ⟨gq, _, none⟩) Ib).trans e2
   have lg : gq < wr.heap.size := by have := bw.size; omega
   obtain ⟨xlo, yq⟩ : ∃ v, x.lo = v := ⟨_, rfl⟩
   obtain ⟨xhi, yt⟩ : ∃ v, x.hi = v := ⟨_, rfl⟩
   obtain ⟨xu, JX⟩ : ∃ v, x.nx.length = v := ⟨_, rfl⟩
   have X8 := hgo.lo
   have S2 := hgo.lt
   have pG := hgo.II
   rw [yq] at f0 X8 S2 pG
   rw [yt] at f1 S2 pG
   rw [JX] at f2 n1
   obtain ⟨ln, rfl⟩ : ∃ ln : Nat, xlo = (ln : Int) := ⟨xlo.toNat, by omega⟩
   obtain ⟨hn, rfl⟩ : ∃ hn : Nat, xhi = (hn : Int) := ⟨xhi.toNat, by omega⟩
   have QM : hn ≤ 1000000 := by
    have h1 := Ke.out.le
    have := (pG (hn - 1) ahU ahU).1
    omega
   have wW := aiU (show ∀ a : Nat, ln ≤ a → a < hn → a < n ∧ (bk (cd a)).2 = 0 ∧ 0 ≤ (au cd (a : Int)).op from fun a h1 h2 => pG a ahU ahU)
   have Qv := aiU (show cz cd G k = codeFrom cd (ln : Int) (hn - ln) by
    unfold cz
    rw [show G.getD k ⟨0, 0, []⟩ = x by simp [List.getD, hx], yq, yt]
    congr 1
    omega)
   clear hgo e0 e1 e2 OW gc bw yq yt JX pG hx n2
   go_upto_region 9 with fail
   obtain ⟨b9, hb9⟩ : ∃ b9, wr.heap.size = b9 := ⟨_, rfl⟩
   obtain ⟨Y, hY⟩ : ∃ Y, wr.alloc (.cells #[.int .i64 (ln : Int), .int .i64 (hn : Int), .slice nA xu di] 78) = Y := ⟨_, rfl⟩
   rw [hY]
   have bY : Below wr.heap.size wr Y := hY ▸ (Below.refl _ _).alloc (Nat.le_refl _) _
   have kY : Y.heap[b9]? = some (.cells #[.int .i64 (ln : Int), .int .i64 (hn : Int), .slice nA xu di] 78 (0, 0)) := by rw [← hb9, ← hY]; exact heap_alloc_new _ _
   rw [hb9]
   have KY := aiU kY
   have WA := aiU (HM.out.below bY)
   have L9 := aiU (show X.heap.size ≤ b9 by omega)
   clear hb9 hY bY kY f0 f1 f2
   obtain ⟨wo, Hi⟩ : ∃ wo : World, wo = wr := ⟨_, rfl⟩
   subst Hi
   go_loopw [10] (fun a10 wz => ∃ (j : Nat) (lJ : Nat → Value), j ≤ hn - ln ∧ a10 = .int .i64 ((ln : Int) + (j : Int)) ∧ CM X wz ab cb rb ib pb gn (.slice (some ⟨gq, j8, none⟩) gn aY) (.slice PA P.length aX) lJ (eE (cz cd G) k (codeFrom cd (ln : Int) j)) ∧ wz.heap[b9]? = some (.cells #[.int .i64 (ln : Int), .int .i64 (hn : Int), .slice nA xu di] 78 (0, 0))) (fun a10 _ => hn - (intOf a10).toNat)
   case atStart => exact ⟨0, val, by omega, rfl, WA.out, KY.out⟩
   case round =>
    obtain ⟨j, lJ, hj, rfl, hM2, k9⟩ := hrel
    have JC := aiU hM2
    have K9 := aiU k9
    have hzX := hM2.aD.size
    have z1 : wr.cell? ⟨b9, 1, none⟩ = some (.int .i64 (hn : Int)) := by simp [World.cell?, k9]
    have lz9 : b9 < wr.heap.size := aB k9
    clear hM2 k9
    by_cases hlt2 : j < hn - ln
    ·have dl2 : decide ((ln : Int) + (j : Int) < (hn : Int)) = true := decide_eq_true ahU
     obtain ⟨m1, m2, m3⟩ := wW.out (ln + j) ahU ahU
     have J8 : Below w.heap.size w wr := BV.out.trans ((BX.out.trans (JC.out.aD.mono BX.out.size)).mono BV.out.size)
     have Q3 := aiU (((BX.out.trans (JC.out.aD.mono BX.out.size)).block _ aiv).trans K0.out)
     have t0 : wr.cell? ⟨w.heap.size, 0, none⟩ = some cv := by have := Q3.out; simp [World.cell?, this]
     have t1 : wr.cell? ⟨w.heap.size, 1, none⟩ = some ev := by have := Q3.out; simp [World.cell?, this]
     have t2 : wr.cell? ⟨w.heap.size, 2, none⟩ = some (.int .i64 sh) := by have := Q3.out; simp [World.cell?, this]
     have t3 : wr.cell? ⟨w.heap.size, 3, none⟩ = some (.int .i64 lk) := by have := Q3.out; simp [World.cell?, this]
     have lz0 : w.heap.size < wr.heap.size := by omega
     obtain ⟨op, ia, ic, id, im, hi⟩ : ∃ op ia ic id im, au cd ((ln : Int) + (j : Int)) = ⟨op, ia, ic, id, im⟩ := ⟨_, _, _, _, _, rfl⟩
     have JK := aiU (show Calls Tryz.prog 85 #[.agg #[cv, ev, .int .i64 sh, .int .i64 lk], .int .i64 ((ln : Int) + (j : Int))] wr fun e w' => e = .returned (.tuple #[.agg #[.int .u8 op, .int .i64 ia, .int .i64 ic, .int .i64 id, .int .i64 im], .bool true]) ∧ Below wr.heap.size wr w' from by
      have := xw cv ev sh lk n cd (ln + j) m1 m2 wr (HT.out.below J8) (Ke.out.below J8)
      rw [Int.natCast_add, hi] at this
      exact this)
     have HI := aiU hi
     have wl : IntKind.i64.wrap ((ln : Int) + (j : Int) + 1) = (ln : Int) + (j : Int) + 1 := IntWalk.i64_in _ ahU
     clear m1 m2 m3 J8 hi
     go_upto_region 14 with (first | (go_at_call 85; refine JK.out.mono ?_; rintro e w2 ⟨rfl, hb2⟩))
     obtain ⟨U, hU⟩ : ∃ U, w2.alloc (.cells #[.int .u8 op, .int .i64 ia, .int .i64 ic, .int .i64 id, .int .i64 im] 67) = U := ⟨_, rfl⟩
     rw [hU]
     have bU : Below w2.heap.size w2 U := hU ▸ (Below.refl _ _).alloc (Nat.le_refl _) _
     obtain ⟨y0, y1, y2, y3, y4, lU⟩ := bP (show U.heap[w2.heap.size]? = some (.cells #[.int .u8 op, .int .i64 ia, .int .i64 ic, .int .i64 id, .int .i64 im] 67 (0, 0)) from hU ▸ heap_alloc_new _ _)
     obtain ⟨b11, O9⟩ : ∃ b, w2.heap.size = b := ⟨_, rfl⟩
     have NF : Below wr.heap.size wr U := hb2.trans (bU.mono hb2.size)
     rw [O9] at y0 y1 y2 y3 y4 lU
     rw [O9]
     have tM := aiU (JC.out.below NF)
     have Kc := aiU ((NF.block b9 lz9).trans K9.out)
     have v0 := tM.out.cells.1
     obtain ⟨lab, lcb, -, -, -⟩ := tM.out.lt
     obtain ⟨v1, v1f⟩ := tM.out.at_ hlt
     have hop := tM.out.own k hlt
     rw [fW, ey] at hop
     obtain ⟨vk, Ch⟩ : ∃ v, lJ k = v := ⟨_, rfl⟩
     have Q7 := aiU Ch
     have Ra := aiU (show some cb ≠ vk.ownBlock from fun e' => by
      rw [← Ch] at e'
      exact (tM.out.zi hlt cb e'.symm).2.2.1 rfl)
     have HNa := aiU (show some ab ≠ vk.ownBlock from fun e' => by
      rw [← Ch] at e'
      exact (tM.out.zi hlt ab e'.symm).2.1 rfl)
     have Wy := aiU (show some b9 ≠ vk.ownBlock from fun e' => by
      rw [← Ch] at e'
      obtain ⟨cs, hcs⟩ := dJ hop e'.symm
      exact aS hcs Kc.out ahW rfl)
     rw [Ch] at hop v1
     have wS := aiU hop
     obtain ⟨vA, vn, dI, hvs⟩ : ∃ vA vn dI, vk = .slice vA vn dI := by
      rcases hop.2 with ⟨e, _⟩ | ⟨g', cap', cur', e, _⟩
      ·exact ⟨_, _, _, e⟩
      ·exact ⟨_, _, _, e⟩
     subst hvs
     have Xw : b9 < U.heap.size := aB Kc.out
     have Ms := aiU (show X.heap.size ≤ U.heap.size from tM.out.aD.size)
     have zH := aiU (show ∀ (W2 : World) (v2 : Value), ((U.alloc (.cells #[.int .u8 op, .int .i64 ia, .int .i64 ic, .int .i64 id, .int .i64 im] 67)).drew).grownBy W2 (Value.slice vA vn dI).ownBlock → W2.ownsRow X.heap.size 67 5 v2 (j + 1) (eY (codeFrom cd (ln : Int) j) ++ [.int .u8 op, .int .i64 ia, .int .i64 ic, .int .i64 id, .int .i64 im]) → (v2.ownBlock = (Value.slice vA vn dI).ownBlock ∨ v2.ownBlock = some ((U.alloc (.cells #[.int .u8 op, .int .i64 ia, .int .i64 ic, .int .i64 id, .int .i64 im] 67)).drew).heap.size) →
       CM X (W2.setCell ⟨cb, k, none⟩ v2) ab cb rb ib pb gn (.slice (some ⟨gq, j8, none⟩) gn aY) (.slice PA P.length aX) (upd lJ k v2) (eE (cz cd G) k (codeFrom cd (ln : Int) (j + 1))) ∧ (W2.setCell ⟨cb, k, none⟩ v2).heap[b9]? = some (.cells #[.int .i64 (ln : Int), .int .i64 (hn : Int), .slice nA xu di] 78 (0, 0)) from fun W2 v2 hg2 ho2 vZ => by
      have bD : Below U.heap.size U ((U.alloc (.cells #[.int .u8 op, .int .i64 ia, .int .i64 ic, .int .i64 id, .int .i64 im] 67)).drew) := Below.drew ((Below.refl _ _).alloc (Nat.le_refl _) _)
      have h3 := tM.out.app (y := au cd ((ln : Int) + (j : Int))) hlt bD (by rw [Q7.out]; exact hg2) (by rw [fW, ey, tS, HI.out]; exact ho2) (by rw [Q7.out]; exact vZ)
      rw [fW, yQ, ← jB] at h3
      refine ⟨h3, ?_⟩
      rw [Below.heap_setCell _ _ _ _ (by
       show b9 ≠ cb
       intro e
       obtain ⟨cs, hcs⟩ := dJ tM.out.l9 (q := cb) rfl
       exact aS Kc.out hcs ahW e)]
      rw [(grown_of bD hg2).block b9 Xw (fun e => Wy.out e)]
      exact Kc.out)
     clear hU bU NF O9 hb2 hop Ch t0 t1 t2 t3
     refine wp_region_noPanic ?_
     go_region_law (refine bK rfl (.tmp 78) (.tmp 80) 144 rfl X.heap.size 67 iI _ 5 40 Tryz.underlying144 p9 qd oy ox rfl ahW (.slice vA vn dI) j (eY (codeFrom cd (ln : Int) j)) aiq (World.ownsRow.alloc (World.ownsRow.drew wS.out) _) ⟨U.heap.size, 0, none⟩ 1 1 [.int .u8 op, .int .i64 ia, .int .i64 ic, .int .i64 id, .int .i64 im] aiq rfl (sK _ _ _ _ _ _ _) ahX ahY ahU air ?_; intro v' W2 hown2 hgrow2 yD; obtain ⟨g2, gj, rfl⟩ := ownsRow_succ hown2; have hc1 := hgrow2.cell (a := ⟨cb, k, none⟩) (v := .slice vA vn dI) ah8 Ra.out; have hc2 := hgrow2.cell (a := ⟨ab, 2, none⟩) (v := .slice (some ⟨cb, 0, none⟩) gn gn) ah8 HNa.out; have hf1 : W2.frozen? ⟨cb, k, none⟩ = false := (World.frozen?_of_block (hgrow2.block cb ah3 Ra.out)).trans ah8)
     all_goals
      have F1 := aiU (zH.out W2 _ hgrow2 hown2 yD)
      clear hgrow2 hown2 yD hc1 hc2 hf1
      refine NoPanic.normal ?_
      go_wp2_with fail
      go_roundw
      case rel => exact ⟨j + 1, _, by omega, by first | rfl | (congr 1; omega) | go_num, F1.out.1, F1.out.2⟩
      case measure => simp [intOf]; omega
    ·obtain rfl : j = hn - ln := by omega
     have dl2 : decide ((ln : Int) + ((hn - ln : Nat) : Int) < (hn : Int)) = false := decide_eq_false ahU
     have tI := aiU (show CM X wr ab cb rb ib pb gn (.slice (some ⟨gq, j8, none⟩) gn aY) (.slice PA P.length aX) lJ (eE (cz cd G) (k + 1) []) by rw [← ve, Qv.out]; exact JC.out)
     go_wp2_with fail
     go_roundw
     case rel => exact ⟨k + 1, lJ, by omega, by go_num, tI.out⟩
     case measure => simp [intOf]; omega
  ·obtain rfl : k = gn := by omega
   have dl : decide ((k : Int) < (k : Int)) = false := by simp
   obtain ⟨-, u3, u7⟩ := HM.out.cells
   obtain ⟨ua, -, ur, -, -⟩ := HM.out.lt
   obtain ⟨u4, u5⟩ := RT HM.out.fo hg0
   have iz : (0 : Int) < (k : Int) := by omega
   have SR : ∀ (q : Nat) (x : aU) (b : AB), G[q]? = some x → (aR cd G)[q]? = some b → x.nx = b.nx := fun q x b h1 h2 => by
    obtain ⟨x', e1, e2⟩ := oI h2
    rw [h1] at e1
    cases e1
    rw [e2]
   have Tf : ∀ (q : Nat) (b : AB), (aR cd G)[q]? = some b → eE (cz cd G) k [] q = b.code := fun q b h2 => by
    obtain ⟨x', e1, e2⟩ := oI h2
    have hq : q < k := by have := (List.getElem?_eq_some_iff.1 e1).1; rw [eP.out] at this; exact this
    unfold eE cz
    rw [if_pos hq, e2, show G.getD q ⟨0, 0, []⟩ = x' by simp [List.getD, e1]]
   have hbl : (aR cd G).length = k := by rw [pO]; exact eP.out
   have JN := aiU (HM.out.start (B := aR cd G) (G := G) (JI.out.below (BV.out.trans (BX.out.mono BV.out.size))) hbl eP.out hg0 ahU SR Tf)
   have qF := aiU hbl
   have Ut := aiU hrX
   clear SR Tf hbl u7
   go_upto_region 18 with fail
   obtain ⟨W2, hW2⟩ : ∃ W2, wr.setCell ⟨rb, 0, none⟩ (.bool true) = W2 := ⟨_, rfl⟩
   rw [hW2]
   rw [hW2] at JN
   have MD := aiU (show ∀ (q : Nat) (b : AB), (aR cd G)[q]? = some b → ABw (aR cd G).length b from fun q b h2 => by
    obtain ⟨x', e1, e2⟩ := oI h2
    have := (pQ.out x' (List.mem_of_getElem? e1)).YZ
    rw [e2, pO]
    exact this)
   have Zf := aiU (HT.out.below (BV.out.trans (BX.out.mono BV.out.size)))
   clear hW2 u3 u4 u5 ua ur
   go_loopg [13] (jx (cg k) k + 1) (fun gk a13 wr => ∃ (s : AS) (c : Bool), a13 = .bool c ∧ jx s k + (if c = true then 1 else 0) ≤ gk ∧ An X wr ab cb rb ib pb (.slice GA k aY) (.slice PA P.length aX) G (aR cd G) val s ∧ (c = true → ∀ s', Ends (aR cd G) s s' → Ends (aR cd G) (cg k) s') ∧ (c = false → Ends (aR cd G) (cg k) s))
   case atStart => exact ⟨cg k, true, rfl, by simp, JN.out, fun _ s' h => h, fun h => by cases h⟩
   case round =>
    obtain ⟨s, c, rfl, J2, hA, hc1, hc2⟩ := hrel
    have HA := aiU hA
    have Z7 := aiU hc1
    have zF := aiU hc2
    clear hA hc1 hc2 JN
    cases c with
    | true =>
     have HGK := aiU (show jx s k + 1 ≤ gk by simpa using J2)
     clear J2 zF
     have e0 : wr.cell? ⟨w.heap.size + 1, 0, none⟩ = _ := (HA.out.aD.cell (p := ⟨w.heap.size + 1, 0, none⟩) lX).trans c0
     have le0 : w.heap.size + 1 < wr.heap.size := by have := HA.out.aD.size; omega
     go_upto_region 21 with fail
     clear e0 le0
     obtain ⟨wo, Hi⟩ : ∃ wo : World, wo = wr := ⟨_, rfl⟩
     subst Hi
     go_loopw [13, 93] (fun a13 a93 wz => ∃ q : Nat, q ≤ k ∧ a93 = .int .i64 (q : Int) ∧ a13 = .bool (cF (aR cd G) s q).2 ∧ An X wz ab cb rb ib pb (.slice GA k aY) (.slice PA P.length aX) G (aR cd G) val (cF (aR cd G) s q).1) (fun _ a93 _ => k - (intOf a93).toNat)
     case atStart => exact ⟨0, by omega, rfl, rfl, HA.out⟩
     case round =>
      obtain ⟨q, hq, rfl, rfl, J6⟩ := hrel
      have zG := aiU J6
      clear J6
      by_cases hlt3 : q < k
      ·have dl3 : decide ((q : Int) < (k : Int)) = true := decide_eq_true ahU
       have dq : (q : Int) < (k : Int) := by omega
       obtain ⟨sq, Le⟩ : ∃ sq, cF (aR cd G) s q = sq := ⟨_, rfl⟩
       have HSQ := aiU Le
       rw [Le] at zG
       rw [Le]
       obtain ⟨b, hb⟩ : ∃ b, (aR cd G)[q]? = some b := ⟨_, List.getElem?_eq_getElem (by rw [qF.out]; exact hlt3)⟩
       obtain ⟨t1, t2, -, -, -⟩ := zG.out.lt
       obtain ⟨-, -, t3, -, -⟩ := zG.out.cells
       rw [qF.out] at t3
       have t4 := (zG.out.qJ (t := q) (by rw [qF.out]; exact hlt3)).1
       have tr : rb < wr.heap.size := zG.out.lt.2.2.1
       have Qb := aiU (Dj zG.out hb (MD.out q b hb) Zf.out)
       have hgb : (aR cd G).getD q ⟨[], []⟩ = b := by simp [List.getD, hb]
       rcases wX : sq.1.reach.getD q false with _ | _
       ·rw [wX] at t4
        have HST := aiU (show cF (aR cd G) s (q + 1) = sq by simp only [cF]; rw [HSQ.out, wX]; simp)
        clear Le hb wX hgb
        go_wp2_with fail
        go_roundw
        case rel => exact ⟨q + 1, by omega, by go_num, by rw [HST.out], by rw [HST.out]; exact zG.out⟩
        case measure => simp [intOf]; omega
       ·rw [wX] at t4
        have HST := aiU (show cF (aR cd G) s (q + 1) = ((jv b q sq.1).1, sq.2 || (jv b q sq.1).2) by simp only [cF]; rw [HSQ.out, wX, if_pos rfl, hgb])
        clear Le hb wX hgb
        rcases VC : (jv b q sq.1).2 with _ | _
        ·rw [VC] at Qb HST
         clear VC
         go_wp2_with (go_at_call 86; refine Qb.out.mono ?_; rintro e w3 ⟨rfl, YD, VX⟩)
         go_roundw
         case rel => exact ⟨q + 1, by omega, by go_num, by rw [HST.out]; simp, by rw [HST.out]; exact YD⟩
         case measure => simp [intOf]; omega
        ·rw [VC] at Qb HST
         clear VC
         go_wp2_with (go_at_call 86; refine Qb.out.mono ?_; rintro e w3 ⟨rfl, YD, VX⟩)
         go_roundw
         case rel => exact ⟨q + 1, by omega, by go_num, by rw [HST.out]; simp, by rw [HST.out]; exact YD⟩
         case measure => simp [intOf]; omega
      ·obtain rfl : q = k := by omega
       have dl3 : decide ((q : Int) < (q : Int)) = false := by simp
       have hpa := uB (fun b hb => by
        obtain ⟨i, hi, e⟩ := List.getElem_of_mem hb
        have := (MD.out i b (by rw [← e]; exact List.getElem?_eq_getElem hi)).f.ok
        rwa [qF.out] at this) qF.out (by have := HA.out.qu; rwa [qF.out] at this) q (Nat.le_refl _)
       have HPA := aiU hpa
       have Kk := aiU (show ((cF (aR cd G) s q).2 = true → ∀ s', Ends (aR cd G) (cF (aR cd G) s q).1 s' → Ends (aR cd G) (cg q) s') ∧ ((cF (aR cd G) s q).2 = false → Ends (aR cd G) (cg q) (cF (aR cd G) s q).1) from
        ⟨fun h s' h2 => Z7.out aiy s' (Ends.more (by rw [qF.out]; exact h) (by rw [qF.out]; exact h2)), fun h => Z7.out aiy _ (by
         have := Ends.done (B := aR cd G) (s := s) (by rw [qF.out]; exact h)
         rwa [qF.out] at this)⟩)
       clear hpa
       go_wp2_with fail
       go_roundg (jx (cF (aR cd G) s q).1 q + (if (cF (aR cd G) s q).2 = true then 1 else 0))
       case measure =>
        obtain ⟨-, h1, h2⟩ := HPA.out
        have h3 := HGK.out
        rcases hpp : (cF (aR cd G) s q).2 with _ | _
        ·rw [h2 hpp]; simp; omega
        ·have := h1 hpp; simp; omega
       case rel => exact ⟨_, _, rfl, Nat.le_refl _, zG.out, Kk.out.1, Kk.out.2⟩
    | false =>
     have HE := aiU (zF.out aiy)
     clear Z7 zF J2
     go_upto_region 26 with fail
     obtain ⟨Z, hZw⟩ : ∃ Z : World, Z = wr := ⟨_, rfl⟩
     subst hZw
     obtain ⟨t1, -, t5, t6, -⟩ := HA.out.lt
     obtain ⟨-, -, t3, t4, -⟩ := HA.out.cells
     rw [qF.out] at t3 t4
     go_cut [15] from 109 to 117 (fun a15 wx => ∃ b15, a15 = .pointer (some ⟨b15, 0, none⟩) ∧ wx.heap[b15]? = some (.cells #[.slice (some ⟨rb, 0, none⟩) k k, .slice (some ⟨ib, 0, none⟩) k k, .slice none 0 0] 59 (0, 0)) ∧ Z.heap.size ≤ b15 ∧ Below Z.heap.size Z wx)
     case first =>
      go_region
      all_goals
       go_wp2_with fail
       go_meet
       case rel => exact ⟨_, rfl, heap_alloc_new _ _, Nat.le_refl _, (Below.drew (Below.refl _ _)).alloc (Nat.le_refl _) _⟩
     obtain ⟨b15, rfl, kd, hbd, bZ⟩ := hcut
     obtain ⟨W6, Tj⟩ : ∃ W6 : World, W6 = wc := ⟨_, rfl⟩
     subst Tj
     have U8 := aiU (show DM Z W6 b15 rb ib k (.slice none 0 0) [] from ⟨bZ, hbd, kd, World.ownsRow_nil _ _ _ _⟩)
     obtain ⟨iP, VI, VS, VR, VQ⟩ := info_parts infoP
     have Q6 := aiU (HA.out.aD)
     have YU : Below X.heap.size X W6 := HA.out.aD.trans (bZ.mono HA.out.aD.size)
     have e0 : W6.cell? ⟨w.heap.size + 1, 0, none⟩ = _ := (YU.cell (p := ⟨w.heap.size + 1, 0, none⟩) lX).trans c0
     have le0 : w.heap.size + 1 < W6.heap.size := by have := YU.size; omega
     have HDL := aiU (uW (B := aR cd G) (s := s) (fun q b hb => (MD.out q b hb).rQ))
     clear t1 t3 t4 t5 t6 kd hbd bZ YU
     go_upto_region 28 with fail
     clear e0 le0
     go_loopw [121] (fun PZ wz => ∃ (q : Nat) (dv : Value), q ≤ k ∧ PZ = .int .i64 (q : Int) ∧ DM Z wz b15 rb ib k dv (fJ (aR cd G) s q)) (fun PZ _ => k - (intOf PZ).toNat)
     case atStart => exact ⟨0, _, by omega, rfl, U8.out⟩
     case round =>
      obtain ⟨q, dv, hq, rfl, hD⟩ := hrel
      have HD := aiU hD
      clear hD
      by_cases Ar : q < k
      ·have dl4 : decide ((q : Int) < (k : Int)) = true := decide_eq_true ahU
       have dq : (q : Int) < (k : Int) := by omega
       have Vi := aiU (HA.out.below HD.out.aD)
       obtain ⟨x, hx⟩ : ∃ x, G[q]? = some x := ⟨_, List.getElem?_eq_getElem (by rw [eP.out]; exact Ar)⟩
       have hgo := pQ.out x (List.mem_of_getElem? hx)
       obtain ⟨gq, j8, rfl, Ib, gc⟩ := WJ.out aib
       obtain ⟨e0, e1, nv, e2, OW⟩ := gc q x hx
       obtain ⟨nA, di, rfl, n1, n2, n4⟩ := OW
       have n3 := ep n2
       have bw : Below w.heap.size w wr := BV.out.trans ((BX.out.trans (Vi.out.aD.mono BX.out.size)).mono BV.out.size)
       have f0 : wr.cell? ⟨gq, j8 + q * 3, none⟩ = _ := (bw.cell (p := ⟨gq, _, none⟩) Ib).trans e0
       have f1 : wr.cell? ⟨gq, j8 + q * 3 + 1, none⟩ = _ := (bw.cell (p := ⟨gq, _, none⟩) Ib).trans e1
       have f2 : wr.cell? ⟨gq, j8 + q * 3 + 2, none⟩ = _ := (bw.cell (p := ⟨gq, _, none⟩) Ib).trans e2
       have lg : gq < wr.heap.size := by have := bw.size; omega
       obtain ⟨xu, JX⟩ : ∃ v, x.nx.length = v := ⟨_, rfl⟩
       have aeh : xu ≤ 1000 := by rw [← JX]; exact hgo.rQ
       rw [JX] at f2 n1
       obtain ⟨b, hb⟩ : ∃ b, (aR cd G)[q]? = some b := ⟨_, List.getElem?_eq_getElem (by rw [qF.out]; exact Ar)⟩
       have Lt : b.nx = x.nx := by
        obtain ⟨x', h1, h2⟩ := oI hb
        rw [hx] at h1
        cases h1
        rw [h2]
       have hgb : (aR cd G).getD q ⟨[], []⟩ = b := by simp [List.getD, hb]
       have HB := aiU (MD.out q b hb)
       have JM := aiU hb
       have lH := aiU Lt
       have Ms := aiU JX
       obtain ⟨r1, -, r3, -, -⟩ := Vi.out.lt
       obtain ⟨-, -, r5, -, -⟩ := Vi.out.cells
       rw [qF.out] at r5
       have r6 := (Vi.out.qJ (t := q) (by rw [qF.out]; exact Ar)).1
       have mY := aiU (show ∀ (j : Nat) (t : Int), x.nx[j]? = some t → ∃ nb ie, nA = some ⟨nb, ie, none⟩ ∧ nb < w.heap.size ∧ w.cell? ⟨nb, ie + j, none⟩ = some (.int .i64 t) from fun j t hj => by
        have hl := (List.getElem?_eq_some_iff.1 hj).1
        obtain ⟨nb, ie, ha, hb2, hcc⟩ := n4 ahU
        exact ⟨nb, ie, ha, hb2, by rw [hcc j hl, show x.nx.getD j 0 = t by simp [List.getD, hj]]⟩)
       have Qw := aiU bw
       have FD := aiU (show fJ (aR cd G) s (q + 1) = fJ (aR cd G) s q ++ (if s.reach.getD q false = true then fC b q b.nx.length (s.bC.getD q []) else []) by rw [sG, hgb])
       have hdl := HDL.out q
       clear hgo e0 e1 e2 gc JX hx hb Lt hgb n4 n2 bw
       rcases wX : s.reach.getD q false with _ | _
       ·rw [wX] at r6 FD
        simp only [Bool.false_eq_true, if_false, List.append_nil] at FD
        clear wX
        go_wp2_with fail
        go_roundw
        case rel => exact ⟨q + 1, dv, by omega, by go_num, by rw [FD.out]; exact HD.out.below ((Below.refl _ _).alloc (Nat.le_refl _) _)⟩
        case measure => simp [intOf]; omega
       ·rw [wX] at r6 FD
        rw [if_pos rfl] at FD
        clear wX
        go_upto_region 31 with fail
        obtain ⟨b17, H7⟩ : ∃ b17, wr.heap.size = b17 := ⟨_, rfl⟩
        obtain ⟨Y, hY⟩ : ∃ Y, wr.alloc (.cells #[.int .i64 x.lo, .int .i64 x.hi, .slice nA xu di] 78) = Y := ⟨_, rfl⟩
        rw [hY]
        have bY : Below wr.heap.size wr Y := hY ▸ (Below.refl _ _).alloc (Nat.le_refl _) _
        have kY : Y.heap[b17]? = some (.cells #[.int .i64 x.lo, .int .i64 x.hi, .slice nA xu di] 78 (0, 0)) := by rw [← H7, ← hY]; exact heap_alloc_new _ _
        rw [H7]
        have HDY := aiU (HD.out.below bY)
        have xg := aiU (Vi.out.below bY)
        have KY := aiU kY
        have y17 : Y.cell? ⟨b17, 2, none⟩ = some (.slice nA xu di) := by simp [World.cell?, kY]
        have l17 : b17 < Y.heap.size := aB kY
        have tO := aiU (vq xg.out JM.out HB.out.ne HB.out.f.ops (Zf.out.below xg.out.aD))
        have Mu := aiU (fun bz (h : gS b.code (s.bC.getD q []) = some bz) => nR HB.out.f.ops (xg.out.qu.get (by rw [qF.out]; exact Ar)) h)
        clear hY bY kY H7 f0 f1 f2 r1 r3 r5 r6
        have HDK := aiU hdl
        rcases hr : gS b.code (s.bC.getD q []) with _ | bz
        ·rw [hr] at tO
         have Kg := aiU hr
         clear hr Mu
         go_upto_region 32 with (first | (go_at_call 87; refine tO.out.mono ?_; rintro e w3 ⟨rfl, hb3⟩; unfold dB) | (refine wpList_store_row rfl 174 (.tmp 18) (.tmp 138) rfl w3.heap.size (aa aA).toArray rfl rfl 174 _ (heap_alloc_new _ _) (hi4 aF) (hi6 aF aF) (ay aA) ?_))
         obtain ⟨Y2, Ni⟩ : ∃ Y2, (w3.alloc (.cells ai3.toArray 174)).setRow w3.heap.size (aa aA).toArray = Y2 := ⟨_, rfl⟩
         rw [Ni]
         have Mi : Below Y.heap.size Y Y2 := Ni ▸ below_setRow (hb3.alloc hb3.size _) hb3.size _
         have z17 : Y2.cell? ⟨b17, 2, none⟩ = _ := (Mi.cell (p := ⟨b17, 2, none⟩) l17).trans y17
         have m17 : b17 < Y2.heap.size := by have := Mi.size; omega
         have Z5 := aiU (HDY.out.below Mi)
         clear Ni Mi hb3
         go_upto_region 33 with fail
         clear z17 m17
         obtain ⟨wo, Hi⟩ : ∃ wo : World, wo = wr := ⟨_, rfl⟩
         subst Hi
         go_loopw [143] (fun a143 wz => ∃ (j : Nat) (dv2 : Value), j ≤ xu ∧ a143 = .int .i64 (j : Int) ∧ DM Z wz b15 rb ib k dv2 (fJ (aR cd G) s q ++ fC b q j (s.bC.getD q []))) (fun a143 _ => xu - (intOf a143).toNat)
         case atStart => exact ⟨0, dv, by omega, rfl, by rw [sH, List.append_nil]; exact Z5.out⟩
         case round =>
          obtain ⟨j, dv2, hj, rfl, Ts⟩ := hrel
          have zD := aiU Ts
          clear Ts
          by_cases Hy : j < xu
          ·have dl5 : decide ((j : Int) < (xu : Int)) = true := decide_eq_true ahU
           have dj : (j : Int) < (xu : Int) := by omega
           obtain ⟨t, ht⟩ : ∃ t, x.nx[j]? = some t := ⟨_, List.getElem?_eq_getElem (by rw [Ms.out]; exact Hy)⟩
           obtain ⟨nb, ie, rfl, hnb, Fp⟩ := mY.out j t ht
           have Pv : Below w.heap.size w wr := BV.out.trans ((BX.out.trans ((Q6.out.trans (zD.out.aD.mono Q6.out.size)).mono BX.out.size)).mono BV.out.size)
           have x0 : wr.cell? ⟨nb, ie + j, none⟩ = some (.int .i64 t) := (Pv.cell (p := ⟨nb, ie + j, none⟩) hnb).trans Fp
           have Xt : nb < wr.heap.size := by have := Pv.size; omega
           obtain ⟨d1, d2, d3⟩ := zD.out.cell
           have HOW := aiU zD.out.row
           have Eo := pI b q j (s.bC.getD q [])
           have hZs := zD.out.aD.size
           have Kf := aiU (show fJ (aR cd G) s q ++ fC b q (j + 1) (s.bC.getD q []) = fJ (aR cd G) s q ++ fC b q j (s.bC.getD q []) ++ [((q : Int), t)] by
            rw [AY Kg.out (by rw [lH.out, Ms.out]; exact Hy), lH.out, show x.nx.getD j 0 = t by simp [List.getD, ht], List.append_assoc])
           obtain ⟨LL, Ph⟩ : ∃ LL, fJ (aR cd G) s q ++ fC b q j (s.bC.getD q []) = LL := ⟨_, rfl⟩
           have hLn : LL.length ≤ 1000 * q + j := by rw [← Ph, List.length_append]; have := HDK.out; omega
           rw [Ph] at Kf HOW zD
           clear ht Fp Pv Eo Ph
           go_wp2_with (at_builtin; refine wpList_append_own_at _ rfl (.tmp 151) (.tmp 155) 57 rfl Z.heap.size 109 iP _ 2 16 Tryz.underlying57 VI VS VR VQ rfl ahW dv2 LL.length (xQ LL) rfl (HOW.out.alloc _) ⟨wr.heap.size, 0, none⟩ 1 1 [.int .i64 (q : Int), .int .i64 t] rfl rfl (nK _ _ _ _) ahX ahY ahU ah6 ?_; intro v' W' hown' hgrow hni j6; obtain ⟨g3, YP, rfl⟩ := ownsRow_succ hown'; obtain ⟨Yk, hkeep⟩ := zD.out.app (y := ((q : Int), t)) ((Below.refl _ _).alloc (Nat.le_refl _) _) hgrow (by rw [rK]; exact hown'); have h15 : W'.cell? ⟨b15, 2, none⟩ = some dv2 := hgrow.cell (a := ⟨b15, 2, none⟩) (v := dv2) ah8 (fun e => zD.out.zi e); have YE : W'.frozen? ⟨b15, 2, none⟩ = false := (World.frozen?_of_block (hgrow.block b15 ah3 (fun e => zD.out.zi e))).trans ah8)
           go_roundw
           case rel => exact ⟨j + 1, _, by omega, by go_num, by rw [Kf.out]; exact Yk⟩
           case measure => simp [intOf]; omega
          ·obtain rfl : j = xu := by omega
           have dl5 : decide ((j : Int) < (j : Int)) = false := by simp
           have tI := aiU (show DM Z wr b15 rb ib k dv2 (fJ (aR cd G) s (q + 1)) by rw [FD.out, lH.out, Ms.out]; exact zD.out)
           go_wp2_with fail
           go_roundw
           case rel => exact ⟨q + 1, dv2, by omega, by go_num, tI.out⟩
           case measure => simp [intOf]; omega
        ·rw [hr] at tO
         have Kg := aiU hr
         have gJ := aiU (Mu.out bz hr)
         clear hr Mu
         go_upto_region 32 with (first | (go_at_call 87; refine tO.out.mono ?_; rintro e w3 ⟨rfl, hb3⟩; unfold dB) | (refine wpList_store_row rfl 174 (.tmp 18) (.tmp 138) rfl w3.heap.size (aa bz).toArray rfl rfl 174 _ (heap_alloc_new _ _) (hi4 gJ.out.len) (hi6 gJ.out.len aF) (ay bz) ?_))
         obtain ⟨b18, O7⟩ : ∃ b18, w3.heap.size = b18 := ⟨_, rfl⟩
         obtain ⟨Y2, Ni⟩ : ∃ Y2, (w3.alloc (.cells ai3.toArray 174)).setRow w3.heap.size (aa bz).toArray = Y2 := ⟨_, rfl⟩
         rw [Ni]
         have Mi : Below Y.heap.size Y Y2 := Ni ▸ below_setRow (hb3.alloc hb3.size _) hb3.size _
         have kY2 : aN Y2 b18 174 bz := by rw [← O7, ← Ni]; exact aN.row (z := aA) (heap_alloc_new _ _)
         rw [O7]
         have z17 : Y2.cell? ⟨b17, 2, none⟩ = _ := (Mi.cell (p := ⟨b17, 2, none⟩) l17).trans y17
         have m17 : b17 < Y2.heap.size := by have := Mi.size; omega
         have Z5 := aiU (HDY.out.below Mi)
         have KB0 := aiU kY2
         clear Ni Mi hb3 O7 kY2
         go_upto_region 33 with fail
         clear z17 m17
         obtain ⟨wo, Hi⟩ : ∃ wo : World, wo = wr := ⟨_, rfl⟩
         subst Hi
         go_loopw [143] (fun a143 wz => ∃ (j : Nat) (dv2 : Value), j ≤ xu ∧ a143 = .int .i64 (j : Int) ∧ DM Z wz b15 rb ib k dv2 (fJ (aR cd G) s q ++ fC b q j (s.bC.getD q [])) ∧ aN wz b18 174 bz) (fun a143 _ => xu - (intOf a143).toNat)
         case atStart => exact ⟨0, dv, by omega, rfl, by rw [sH, List.append_nil]; exact Z5.out, KB0.out⟩
         case round =>
          obtain ⟨j, dv2, hj, rfl, Ts, hkb⟩ := hrel
          have zD := aiU Ts
          have KB := aiU hkb
          have lF := aiU hkb.range
          clear Ts hkb
          by_cases Hy : j < xu
          ·have dl5 : decide ((j : Int) < (xu : Int)) = true := decide_eq_true ahU
           have dj : (j : Int) < (xu : Int) := by omega
           obtain ⟨t, ht⟩ : ∃ t, x.nx[j]? = some t := ⟨_, List.getElem?_eq_getElem (by rw [Ms.out]; exact Hy)⟩
           obtain ⟨nb, ie, rfl, hnb, Fp⟩ := mY.out j t ht
           have Pv : Below w.heap.size w wr := BV.out.trans ((BX.out.trans ((Q6.out.trans (zD.out.aD.mono Q6.out.size)).mono BX.out.size)).mono BV.out.size)
           have x0 : wr.cell? ⟨nb, ie + j, none⟩ = some (.int .i64 t) := (Pv.cell (p := ⟨nb, ie + j, none⟩) hnb).trans Fp
           have Xt : nb < wr.heap.size := by have := Pv.size; omega
           have HAz := aiU (HA.out.below zD.out.aD)
           have tN := aiU (yI HAz.out JM.out HB.out.ne HB.out.rQ HB.out.f.op j bz gJ.out (Zf.out.below HAz.out.aD))
           have Eo := pI b q j (s.bC.getD q [])
           have Kf := aiU (show fJ (aR cd G) s q ++ fC b q (j + 1) (s.bC.getD q []) = fJ (aR cd G) s q ++ fC b q j (s.bC.getD q []) ++ (if (dW b.last b.nx.length j bz).isNone = true then [((q : Int), t)] else []) by
            rw [AX Kg.out, show b.nx.getD j 0 = t by rw [lH.out]; simp [List.getD, ht], List.append_assoc])
           obtain ⟨LL, Ph⟩ : ∃ LL, fJ (aR cd G) s q ++ fC b q j (s.bC.getD q []) = LL := ⟨_, rfl⟩
           have hLn : LL.length ≤ 1000 * q + j := by rw [← Ph, List.length_append]; have := HDK.out; omega
           rw [Ph] at Kf zD
           clear ht Fp Pv Eo Ph
           rcases he : dW b.last b.nx.length j bz with _ | r
           ·rw [he] at tN Kf
            simp only [Option.isNone_none, if_true] at Kf
            clear he
            go_upto_region 39 with (first | (refine wpList_load_mid rfl _ _ rfl _ _ rfl (aa bz) _ lF.out Tryz.underlying174 rfl (hi3 gJ.out.len) ?_) | (go_at_call 88; refine tN.out.mono ?_; rintro e w5 ⟨rfl, hb5⟩; unfold dB) | (refine wpList_store_row rfl 174 (.tmp 22) (.tmp 164) rfl w5.heap.size (aa aA).toArray rfl rfl 174 _ (heap_alloc_new _ _) (hi4 aF) (hi6 aF aF) (ay aA) ?_))
            obtain ⟨U, hU⟩ : ∃ U, (w5.alloc (.cells ai3.toArray 174)).setRow w5.heap.size (aa aA).toArray = U := ⟨_, rfl⟩
            rw [hU]
            have bU : Below wr.heap.size wr U := hU ▸ below_setRow (hb5.alloc hb5.size _) hb5.size _
            have Rk := aiU (zD.out.below bU)
            have KBU := aiU (KB.out.keep bU)
            obtain ⟨d1, d2, d3⟩ := Rk.out.cell
            have HOW := aiU Rk.out.row
            have hZs := Rk.out.aD.size
            clear hU bU hb5 x0 Xt
            go_wp2_with (at_builtin; refine wpList_append_own_at _ rfl (.tmp 169) (.tmp 173) 57 rfl Z.heap.size 109 iP _ 2 16 Tryz.underlying57 VI VS VR VQ rfl ahW dv2 LL.length (xQ LL) rfl (HOW.out.alloc _) ⟨U.heap.size, 0, none⟩ 1 1 [.int .i64 (q : Int), .int .i64 t] rfl rfl (nK _ _ _ _) ahX ahY ahU ah6 ?_; intro v' W' hown' hgrow hni j6; obtain ⟨g3, YP, rfl⟩ := ownsRow_succ hown'; obtain ⟨Yk, hkeep⟩ := Rk.out.app (y := ((q : Int), t)) ((Below.refl _ _).alloc (Nat.le_refl _) _) hgrow (by rw [rK]; exact hown'); have h15 : W'.cell? ⟨b15, 2, none⟩ = some dv2 := hgrow.cell (a := ⟨b15, 2, none⟩) (v := dv2) ah8 (fun e => Rk.out.zi e); have YE : W'.frozen? ⟨b15, 2, none⟩ = false := (World.frozen?_of_block (hgrow.block b15 ah3 (fun e => Rk.out.zi e))).trans ah8)
            go_roundw
            case rel => exact ⟨j + 1, _, by omega, by go_num, by rw [Kf.out]; exact Yk, hkeep _ _ _ KBU.out ahW ahW⟩
            case measure => simp [intOf]; omega
           ·rw [he] at tN Kf
            simp only [Option.isNone_some, Bool.false_eq_true, if_false, List.append_nil] at Kf
            have Uc := aiU (oC gJ.out he)
            clear he
            go_wp2_with (first | (refine wpList_load_mid rfl _ _ rfl _ _ rfl (aa bz) _ lF.out Tryz.underlying174 rfl (hi3 gJ.out.len) ?_) | (go_at_call 88; refine tN.out.mono ?_; rintro e w5 ⟨rfl, hb5⟩; unfold dB) | (refine wpList_store_row rfl 174 (.tmp 22) (.tmp 164) rfl w5.heap.size (aa r).toArray rfl rfl 174 _ (heap_alloc_new _ _) (hi4 Uc.out.len) (hi6 Uc.out.len aF) (ay r) ?_))
            go_roundw
            case rel =>
             have bU : Below wr.heap.size wr ((w5.alloc (.cells ai3.toArray 174)).setRow w5.heap.size (aa r).toArray) := below_setRow (hb5.alloc hb5.size _) hb5.size _
             exact ⟨j + 1, dv2, by omega, by go_num, by rw [Kf.out]; exact zD.out.below bU, KB.out.keep bU⟩
            case measure => simp [intOf]; omega
          ·obtain rfl : j = xu := by omega
           have dl5 : decide ((j : Int) < (j : Int)) = false := by simp
           have tI := aiU (show DM Z wr b15 rb ib k dv2 (fJ (aR cd G) s (q + 1)) by rw [FD.out, lH.out, Ms.out]; exact zD.out)
           go_wp2_with fail
           go_roundw
           case rel => exact ⟨q + 1, dv2, by omega, by go_num, tI.out⟩
           case measure => simp [intOf]; omega
      ·obtain rfl : q = k := by omega
       have dl4 : decide ((q : Int) < (q : Int)) = false := by simp
       obtain ⟨wf, hwf⟩ : ∃ wf : World, wf = wr := ⟨_, rfl⟩
       subst hwf
       have tO := aiU (HA.out.below HD.out.aD)
       have KR0 := aiU (show wf.heap[w.heap.size + 1 + 1]? = some (.cells #[.slice none 0 0, .slice none 0 0, .slice none 0 0] 59 (0, 0)) from ((BX.out.trans (tO.out.aD.mono BX.out.size)).block _ aiv).trans K2.out)
       have h15 := HD.out.head
       have o0 : wf.cell? ⟨b15, 0, none⟩ = some (.slice (some ⟨rb, 0, none⟩) q q) := by simp [World.cell?, h15]
       have o1 : wf.cell? ⟨b15, 1, none⟩ = some (.slice (some ⟨ib, 0, none⟩) q q) := by simp [World.cell?, h15]
       have o2 : wf.cell? ⟨b15, 2, none⟩ = some dv := by simp [World.cell?, h15]
       have lo := aB h15
       obtain ⟨vA, vn, vc, rfl⟩ : ∃ vA vn vc, dv = .slice vA vn vc := by
        rcases HD.out.row.2 with ⟨e, _⟩ | ⟨g', cap', cur', e, _⟩
        ·exact ⟨_, _, _, e⟩
        ·exact ⟨_, _, _, e⟩
       have BWF := aiU (BV.out.trans ((BX.out.trans (tO.out.aD.mono BX.out.size)).mono BV.out.size))
       clear h15
       go_wp2_with (refine wpList_store_row rfl 59 (.tmp 4) (.tmp 178) rfl (w.heap.size + 1 + 1) #[.slice (some ⟨rb, 0, none⟩) q q, .slice (some ⟨ib, 0, none⟩) q q, .slice vA vn vc] rfl rfl 59 _ KR0.out ahV rfl ahX ?_)
       have hbf : Below w.heap.size w (wf.setRow (w.heap.size + 1 + 1) #[.slice (some ⟨rb, 0, none⟩) q q, .slice (some ⟨ib, 0, none⟩) q q, .slice vA vn vc]) := below_setRow BWF.out ahU _
       refine bodyPost_ret (results_cell_tmp (P := Tryz.prog) Tryz.results52 _ _ (w.heap.size + 1 + 1) [.slice (some ⟨rb, 0, none⟩) q q, .slice (some ⟨ib, 0, none⟩) q q, .slice vA vn vc] _ rfl (aM (setRow_heap _ _ _ _ _ _ KR0.out)) Tryz.underlying59 rfl ahV) rfl ⟨⟨s, _, _, _, HE.out, rfl, ?_, ?_, ?_⟩, hbf⟩
       ·have hne : ∀ z, z ≠ w.heap.size + 1 + 1 → (wf.setRow (w.heap.size + 1 + 1) #[.slice (some ⟨rb, 0, none⟩) q q, .slice (some ⟨ib, 0, none⟩) q q, .slice vA vn vc]).heap[z]? = wf.heap[z]? := fun z hz => setRow_other _ _ _ _ hz
        have s1 : s.reach.length = q := by have := tO.out.qu.l1; rwa [qF.out] at this
        have s2 : s.bC.length = q := by have := tO.out.qu.l2; rwa [qF.out] at this
        have x1 := tO.out.rV
        have x2 := tO.out.iV
        have x3 := SV.out
        have x4 := BX.out.size
        refine ⟨⟨_, q, by rw [s1], by omega, by unfold maxLen; omega, fun _ => ⟨rb, 0, rfl, by have := tO.out.lt; simp [World.setRow]; omega, fun p hp => ?_⟩⟩, ⟨_, q, by rw [s2], by omega, by unfold maxLen; omega, fun _ => ⟨ib, 0, rfl, by have := tO.out.lt; simp [World.setRow]; omega, fun p hp => ?_⟩⟩⟩
        ·rw [Nat.zero_add, World.cell?_of_block (hne rb ahU)]
         exact (tO.out.qJ (by rw [qF.out]; omega)).1
        ·rw [Nat.zero_add]
         intro jj vv QH
         rw [World.cell?_of_block (hne ib ahU)]
         exact tO.out.mK (by rw [qF.out]; omega) jj vv QH
       ·have hp := B9 HD.out.row
        obtain ⟨A', cap', e1, e2, e3, e4⟩ := hp
        refine ⟨A', cap', e1, e2, e3, fun h0 => ?_⟩
        obtain ⟨b', off', ea, eb, ec⟩ := e4 h0
        refine ⟨b', off', ea, by simp [World.setRow]; omega, fun i p hi => ?_⟩
        obtain ⟨c1', c2'⟩ := ec i p hi
        have hnb : b' ≠ w.heap.size + 1 + 1 := by
         have h1 := (HD.out.row.lt b' (by rw [e1, ea]; rfl)).1
         have h2 := Q6.out.size
         have x3 := SV.out
         have x4 := BX.out.size
         omega
        exact ⟨by rw [World.cell?_of_block (setRow_other _ _ _ _ hnb)]; exact c1', by rw [World.cell?_of_block (setRow_other _ _ _ _ hnb)]; exact c2'⟩
       ·intro q' h
        have x1 := tO.out.rV
        have x2 := tO.out.iV
        have x3 := SV.out
        have x4 := BX.out.size
        have x5 := Q6.out.size
        rcases h with h | h | h
        ·have e : rb = q' := by simpa [Value.ownBlock] using h
         omega
        ·have e : ib = q' := by simpa [Value.ownBlock] using h
         omega
        ·have := (HD.out.row.lt q' h).1
         omega
theorem Jn : qW := fun cv ev bv pv sh lk n cd G P w T HW HG HP hv h0 h1 hok => y9 cv ev bv pv sh lk n cd G P w T HW HG HP hv h0 h1 hok
end
end Go.Proofs.YtlmgkipmfgijiaaGreatDoor
