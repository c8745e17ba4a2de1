/-
 What is proved here: what Analyze returns.
-/
import Derived.Test.YtebklpnkcicpjaaDoorFaAz0
namespace Go.Proofs.YtebklpnkcicpjaaDoor
open Go.RowKit
set_option linter.unusedVariables false
set_option linter.unusedSimpArgs false

set_option maxRecDepth 100000 in
set_option maxHeartbeats 8000000 in
theorem analyze_any (cv ev bv pv : Value) (sh lk : Int) (n : Nat) (cd : Nat → Int) (G : List Blk) (P : List (List Int)) (w : World) (T : Tab w) (HW : Words w cv n cd) (HG : Blks w bv G) (HP : Lls w pv P)
  (hv : ValidG G P) (hg0 : 0 < G.length) (hg1 : G.length ≤ 1000) (hok : ∀ x ∈ G, GOk n cd G x) :
  Calls Tryd.prog 16 #[.agg #[cv, ev, .int .i64 sh, .int .i64 lk], .agg #[bv, pv]] w fun e w' => (∃ s rv iv dv, Ends (absOf cd G) (startS G.length) s ∧ e = .returned (.tuple #[.agg #[rv, iv, dv], .int .i64 0]) ∧ ResIn w' rv iv s.reach s.inn ∧ Prs w' dv (deadK (absOf cd G) s G.length) ∧ NewV w.heap.size rv iv dv) ∧ Below w.heap.size w w' := by
 obtain ⟨GA, gcap, hbv, g2, g3, g4⟩ := id HG
 have g3' := max_63 g3
 obtain ⟨PA, pcap, hpv, p2, p3, p4⟩ := id HP
 obtain ⟨V, hV, k0, k1, k2, bV, sV⟩ := three_new w #[cv, ev, .int .i64 sh, .int .i64 lk] #[bv, pv] #[.slice none 0 0, .slice none 0 0, .slice none 0 0] 38 48 55
 have sV2 : V.heap.size = w.heap.size + 1 + 1 + 1 := by rw [← hV]; simp
 have b0 : V.cell? ⟨w.heap.size + 1, 0, none⟩ = some bv := by simp [World.cell?, k1]
 have b1 : V.cell? ⟨w.heap.size + 1, 1, none⟩ = some pv := by simp [World.cell?, k1]
 have l1 : w.heap.size + 1 < V.heap.size := by omega
 have HVA := Lib.hid (valid_any' bv pv G P V (HG.below bV) (HP.below bV) (by omega) (fun x hx => by have := (hok x hx).nxl; omega))
 obtain ⟨gn, hgn⟩ : ∃ m, G.length = m := ⟨_, rfl⟩
 rw [hgn] at hbv g2 hg0 hg1
 rw [hgn]
 subst hbv hpv
 have HGN := Lib.hid hgn
 have HOK := Lib.hid hok
 have HWH := Lib.hid HW
 have HGH := Lib.hid HG
 have HT := Lib.hid T
 have BV := Lib.hid bV
 have SV := Lib.hid sV2
 have K0 := Lib.hid k0
 have K2 := Lib.hid k2
 have HVG := Lib.hid hv
 have HG4 := Lib.hid g4
 clear hgn hok HW HG HP T bV sV sV2 k0 k1 k2 hv g3 g4 p4 p3
 go_enter Tryd.func16, Tryd.ntmps16
 go_upto_region 3 with (go_at_call 41; refine HVA.out.mono ?_; rintro e X ⟨⟨r, rfl, hr⟩, hbX⟩; obtain rfl : r = true := hr.2 HVG.out)
 have c0 : X.cell? ⟨w.heap.size + 1, 0, none⟩ = _ := (hbX.cell (p := ⟨w.heap.size + 1, 0, none⟩) l1).trans b0
 have c1 : X.cell? ⟨w.heap.size + 1, 1, none⟩ = _ := (hbX.cell (p := ⟨w.heap.size + 1, 1, none⟩) l1).trans b1
 have lX : w.heap.size + 1 < X.heap.size := by have := hbX.size; omega
 have BX := Lib.hid hbX
 clear b0 b1 hr hbX HVA HVG hV
 go_upto_region 4 with fail
 obtain ⟨cS, hcS⟩ : ∃ c, ((List.range gn).map fun _ => Value.slice none 0 0).toArray = c := ⟨_, rfl⟩
 obtain ⟨cB, hcB⟩ : ∃ c, ((List.replicate gn false).map Value.bool).toArray = c := ⟨_, rfl⟩
 obtain ⟨cR, hcR⟩ : ∃ c, (rowR (List.replicate gn zeroR)).toArray = c := ⟨_, rfl⟩
 obtain ⟨cI, hcI⟩ : ∃ c, ((List.replicate gn (0 : Int)).map (Value.int .i64)).toArray = c := ⟨_, rfl⟩
 obtain ⟨iA, hiA, hA0, hA1, hA2⟩ := info_parts infoSl
 obtain ⟨iB, hiB, hB0, hB1, hB2⟩ := info_parts infoBo
 obtain ⟨iC, hiC, hC0, hC1, hC2⟩ := info_parts infoRe
 obtain ⟨iD, hiD, hD0, hD1, hD2⟩ := info_parts infoIt
 have mk1 : ∀ W, (Instr.makeSlice 108 (.int .i64 (gn : Int)) (.int .i64 (gn : Int))).run Tryd.prog W = .ok (.slice (some ⟨W.heap.size, 0, none⟩) gn gn) (W.alloc (.cells cS 113)) := fun W => by
  have hr := run_make (P := Tryd.prog) W 108 113 iA _ Tryd.underlying108 hiA hA0 .i64 .i64 (gn : Int) (gn : Int) (by omega) (Int.le_refl _) (by rw [hA2]; omega) (by omega)
  rw [hA1, Int.toNat_natCast] at hr
  rw [hr, ← hcS, ← madeS]
  rfl
 have mk2 : ∀ W, (Instr.makeSlice 51 (.int .i64 (gn : Int)) (.int .i64 (gn : Int))).run Tryd.prog W = .ok (.slice (some ⟨W.heap.size, 0, none⟩) gn gn) (W.alloc (.cells cB 4)) := fun W => by
  have hr := run_make (P := Tryd.prog) W 51 4 iB _ Tryd.underlying51 hiB hB0 .i64 .i64 (gn : Int) (gn : Int) (by omega) (Int.le_refl _) (by rw [hB2]; omega) (by omega)
  rw [hB1, Int.toNat_natCast] at hr
  rw [hr, ← hcB, ← madeB]
  rfl
 have mk3 : ∀ W, (Instr.makeSlice 52 (.int .i64 (gn : Int)) (.int .i64 (gn : Int))).run Tryd.prog W = .ok (.slice (some ⟨W.heap.size, 0, none⟩) gn gn) (W.alloc (.cells cR 27)) := fun W => by
  have hr := run_make (P := Tryd.prog) W 52 27 iC _ Tryd.underlying52 hiC hC0 .i64 .i64 (gn : Int) (gn : Int) (by omega) (Int.le_refl _) (by rw [hC2]; omega) (by omega)
  rw [hC1, Int.toNat_natCast] at hr
  rw [hr, ← hcR, ← madeR]
  rfl
 have mk4 : ∀ W, (Instr.makeSlice 62 (.int .i64 (gn : Int)) (.int .i64 (gn : Int))).run Tryd.prog W = .ok (.slice (some ⟨W.heap.size, 0, none⟩) gn gn) (W.alloc (.cells cI 3)) := fun W => by
  have hr := run_make (P := Tryd.prog) W 62 3 iD _ Tryd.underlying62 hiD hD0 .i64 .i64 (gn : Int) (gn : Int) (by omega) (Int.le_refl _) (by rw [hD2]; omega) (by omega)
  rw [hD1, Int.toNat_natCast] at hr
  rw [hr, ← hcI, ← madeI]
  rfl
 have HCS := Lib.hid hcS
 have HCB := Lib.hid hcB
 have HCR := Lib.hid hcR
 have HCI := Lib.hid hcI
 clear hcS hcB hcR hcI hA0 hA1 hA2 hB0 hB1 hB2 hC0 hC1 hC2 hD0 hD1 hD2 hiA hiB hiC hiD
 go_cut [7] from 31 to 41 (fun a7 wx => ∃ ab cb rb ib pb, a7 = .pointer (some ⟨ab, 0, none⟩) ∧ wx.heap[ab]? = some (.cells #[.slice GA gn gcap, .slice PA P.length pcap, .slice (some ⟨cb, 0, none⟩) gn gn, .slice (some ⟨rb, 0, none⟩) gn gn, .slice (some ⟨ib, 0, none⟩) gn gn, .slice (some ⟨pb, 0, none⟩) gn gn] 110 (0, 0)) ∧ wx.heap[cb]? = some (.cells cS 113 (0, 0)) ∧ wx.heap[rb]? = some (.cells cB 4 (0, 0)) ∧ wx.heap[ib]? = some (.cells cR 27 (0, 0)) ∧ wx.heap[pb]? = some (.cells cI 3 (0, 0)) ∧ (X.heap.size ≤ ab ∧ X.heap.size ≤ cb ∧ X.heap.size ≤ rb ∧ X.heap.size ≤ ib ∧ X.heap.size ≤ pb) ∧ Below X.heap.size X wx)
 case first =>
  go_region_held3 (fun w' => (∀ b o, b < X.heap.size → w'.cell? ⟨b, o, none⟩ = X.cell? ⟨b, o, none⟩) ∧ Below X.heap.size X w') ((exact keepX (by (repeat (first | (with_reducible exact Below.refl _ _) | (with_reducible refine Below.drew ?_) | (with_reducible refine Below.alloc ?_ (by first | exact Nat.le_refl _ | (simp; done) | (simp; omega)) _)))))) (fail)
  all_goals (go_wp2_with fail; go_meet)
  all_goals
   refine ⟨_, _, _, _, _, rfl, heap_alloc_at _ _ (by simp), ?_, ?_, ?_, ?_, by omega, ?_⟩
   ·(show (World.alloc _ _).heap[_]? = _); (repeat (first | exact heap_alloc_new _ _ | exact heap_alloc_at _ _ (by simp only [World.size_alloc]) | rw [heap_alloc_old _ _ (by simp only [World.size_alloc]; omega)]))
   ·(show (World.alloc _ _).heap[_]? = _); (repeat (first | exact heap_alloc_new _ _ | exact heap_alloc_at _ _ (by simp only [World.size_alloc]) | rw [heap_alloc_old _ _ (by simp only [World.size_alloc]; omega)]))
   ·(show (World.alloc _ _).heap[_]? = _); (repeat (first | exact heap_alloc_new _ _ | exact heap_alloc_at _ _ (by simp only [World.size_alloc]) | rw [heap_alloc_old _ _ (by simp only [World.size_alloc]; omega)]))
   ·(show (World.alloc _ _).heap[_]? = _); (repeat (first | exact heap_alloc_new _ _ | exact heap_alloc_at _ _ (by simp only [World.size_alloc]) | rw [heap_alloc_old _ _ (by simp only [World.size_alloc]; omega)]))
   ·(repeat (first | (with_reducible exact Below.refl _ _) | (with_reducible refine Below.drew ?_) | (with_reducible refine Below.alloc ?_ (by first | exact Nat.le_refl _ | (simp; done) | (simp; omega)) _)))
 obtain ⟨ab, cb, rb, ib, pb, rfl, hd1, hd2, hd3, hd4, hd5, ⟨ha, hc, hr, hi, hp⟩, bW⟩ := hcut
 obtain ⟨W1, hW1⟩ : ∃ W1 : World, W1 = wc := ⟨_, rfl⟩
 subst hW1
 rw [← HCS.out] at hd2
 rw [← HCB.out] at hd3
 rw [← HCR.out] at hd4
 rw [← HCI.out] at hd5
 have HCM := Lib.hid (show CM X W1 ab cb rb ib pb gn (.slice GA gn gcap) (.slice PA P.length pcap) (fun _ => .slice none 0 0) (fun _ => []) from
  ⟨bW, ha, hr, hi, hp, hd1, ⟨by simp, .inr ⟨cb, gn, _, rfl, hc, hd2, Nat.le_refl _, by unfold maxLen; omega, by simp, by simp [List.take_of_length_le]⟩⟩, fun i hi => World.ownsRow_nil _ _ _ _, fun i j hi hj _ q hq => (by cases hq), hd3, hd4, hd5⟩)
 have bW1 := bW.size
 have d0 : W1.cell? ⟨w.heap.size + 1, 0, none⟩ = _ := (bW.cell (p := ⟨w.heap.size + 1, 0, none⟩) lX).trans c0
 have lW1 : w.heap.size + 1 < W1.heap.size := by omega
 clear hd1 hd2 hd3 hd4 hd5 ha hc hr hi hp bW HCS HCB HCR HCI mk1 mk2 mk3 mk4
 obtain ⟨iI, hiI, hI0, hI1, hI2⟩ := info_parts infoIn
 go_upto_region 6 with fail
 clear d0 lW1
 have hsX := BX.out.size
 go_loopw [45] (fun a45 wr => ∃ (k : Nat) (val : Nat → Value), k ≤ gn ∧ a45 = .int .i64 (k : Int) ∧ CM X wr ab cb rb ib pb gn (.slice GA gn gcap) (.slice PA P.length pcap) val (cdAt (codeK cd G) k [])) (fun a45 _ => gn - (intOf a45).toNat)
 case atStart => exact ⟨0, _, by omega, rfl, by rw [cdAt_zero]; exact HCM.out⟩
 case round =>
  obtain ⟨k, val, hk, rfl, hM⟩ := hrel
  have HM := Lib.hid hM
  have hrX := hM.bel.size
  clear hM
  by_cases hlt : k < gn
  ·have dl : decide ((k : Int) < (gn : Int)) = true := decide_eq_true (by omega)
   have dk : (k : Int) < (gn : Int) := by omega
   obtain ⟨x, hx⟩ : ∃ x, G[k]? = some x := ⟨_, List.getElem?_eq_getElem (by rw [HGN.out]; exact hlt)⟩
   have hgo := HOK.out x (List.mem_of_getElem? hx)
   obtain ⟨gq, goff, rfl, glt, gc⟩ := HG4.out (by rw [HGN.out]; omega)
   obtain ⟨e0, e1, nv, e2, hnv⟩ := gc k x hx
   obtain ⟨nA, ncap, rfl, n1, n2⟩ := ints_at hnv
   have n3 := max_63 n2
   have bw : Below w.heap.size w wr := BV.out.trans ((BX.out.trans (HM.out.bel.mono BX.out.size)).mono BV.out.size)
   have f0 : wr.cell? ⟨gq, goff + k * 3, none⟩ = _ := (bw.cell (p := ⟨gq, _, none⟩) glt).trans e0
   have f1 : wr.cell? ⟨gq, goff + k * 3 + 1, none⟩ = _ := (bw.cell (p := ⟨gq, _, none⟩) glt).trans e1
   have f2 : wr.cell? ⟨gq, goff + k * 3 + 2, none⟩ = _ := (bw.cell (p := ⟨gq, _, none⟩) glt).trans e2
   have lg : gq < wr.heap.size := by have := bw.size; omega
   obtain ⟨xlo, hxlo⟩ : ∃ v, x.lo = v := ⟨_, rfl⟩
   obtain ⟨xhi, hxhi⟩ : ∃ v, x.hi = v := ⟨_, rfl⟩
   obtain ⟨xu, hxu⟩ : ∃ v, x.nx.length = v := ⟨_, rfl⟩
   have hlo0 := hgo.lo
   have hlt0 := hgo.lt
   have hcod := hgo.cod
   rw [hxlo] at f0 hlo0 hlt0 hcod
   rw [hxhi] at f1 hlt0 hcod
   rw [hxu] at f2 n1
   obtain ⟨ln, rfl⟩ : ∃ ln : Nat, xlo = (ln : Int) := ⟨xlo.toNat, by omega⟩
   obtain ⟨hn, rfl⟩ : ∃ hn : Nat, xhi = (hn : Int) := ⟨xhi.toNat, by omega⟩
   have hhn : hn ≤ 1000000 := by
    have h1 := HWH.out.le
    have := (hcod (hn - 1) (by omega) (by omega)).1
    omega
   have HCOD := Lib.hid (show ∀ a : Nat, ln ≤ a → a < hn → a < n ∧ (decI (cd a)).2 = 0 ∧ 0 ≤ (insAt cd (a : Int)).op from fun a h1 h2 => hcod a (by omega) (by omega))
   have HCK := Lib.hid (show codeK cd G k = codeFrom cd (ln : Int) (hn - ln) by
    unfold codeK
    rw [show G.getD k ⟨0, 0, []⟩ = x by simp [List.getD, hx], hxlo, hxhi]
    congr 1
    omega)
   clear hgo e0 e1 e2 hnv gc bw hxlo hxhi hxu hcod hx n2
   go_upto_region 9 with fail
   obtain ⟨b9, hb9⟩ : ∃ b9, wr.heap.size = b9 := ⟨_, rfl⟩
   obtain ⟨Y, hY⟩ : ∃ Y, wr.alloc (.cells #[.int .i64 (ln : Int), .int .i64 (hn : Int), .slice nA xu ncap] 64) = Y := ⟨_, rfl⟩
   rw [hY]
   have bY : Below wr.heap.size wr Y := hY ▸ (Below.refl _ _).alloc (Nat.le_refl _) _
   have kY : Y.heap[b9]? = some (.cells #[.int .i64 (ln : Int), .int .i64 (hn : Int), .slice nA xu ncap] 64 (0, 0)) := by rw [← hb9, ← hY]; exact heap_alloc_new _ _
   rw [hb9]
   have KY := Lib.hid kY
   have HMY := Lib.hid (HM.out.below bY)
   have L9 := Lib.hid (show X.heap.size ≤ b9 by omega)
   clear hb9 hY bY kY f0 f1 f2
   obtain ⟨wo, hwo⟩ : ∃ wo : World, wo = wr := ⟨_, rfl⟩
   subst hwo
   go_loopw [10] (fun a10 wz => ∃ (j : Nat) (val2 : Nat → Value), j ≤ hn - ln ∧ a10 = .int .i64 ((ln : Int) + (j : Int)) ∧ CM X wz ab cb rb ib pb gn (.slice (some ⟨gq, goff, none⟩) gn gcap) (.slice PA P.length pcap) val2 (cdAt (codeK cd G) k (codeFrom cd (ln : Int) j)) ∧ wz.heap[b9]? = some (.cells #[.int .i64 (ln : Int), .int .i64 (hn : Int), .slice nA xu ncap] 64 (0, 0))) (fun a10 _ => hn - (intOf a10).toNat)
   case atStart => exact ⟨0, val, by omega, rfl, HMY.out, KY.out⟩
   case round =>
    obtain ⟨j, val2, hj, rfl, hM2, k9⟩ := hrel
    have HM2 := Lib.hid hM2
    have K9 := Lib.hid k9
    have hzX := hM2.bel.size
    have z1 : wr.cell? ⟨b9, 1, none⟩ = some (.int .i64 (hn : Int)) := by simp [World.cell?, k9]
    have lz9 : b9 < wr.heap.size := lt_of_blk' k9
    clear hM2 k9
    by_cases hlt2 : j < hn - ln
    ·have dl2 : decide ((ln : Int) + (j : Int) < (hn : Int)) = true := decide_eq_true (by omega)
     obtain ⟨m1, m2, m3⟩ := HCOD.out (ln + j) (by omega) (by omega)
     have bww : Below w.heap.size w wr := BV.out.trans ((BX.out.trans (HM2.out.bel.mono BX.out.size)).mono BV.out.size)
     have K0z := Lib.hid (((BX.out.trans (HM2.out.bel.mono BX.out.size)).block _ (by have := SV.out; omega)).trans K0.out)
     have t0 : wr.cell? ⟨w.heap.size, 0, none⟩ = some cv := by have := K0z.out; simp [World.cell?, this]
     have t1 : wr.cell? ⟨w.heap.size, 1, none⟩ = some ev := by have := K0z.out; simp [World.cell?, this]
     have t2 : wr.cell? ⟨w.heap.size, 2, none⟩ = some (.int .i64 sh) := by have := K0z.out; simp [World.cell?, this]
     have t3 : wr.cell? ⟨w.heap.size, 3, none⟩ = some (.int .i64 lk) := by have := K0z.out; simp [World.cell?, this]
     have lz0 : w.heap.size < wr.heap.size := by omega
     obtain ⟨op, ia, ic, id, im, hi⟩ : ∃ op ia ic id im, insAt cd ((ln : Int) + (j : Int)) = ⟨op, ia, ic, id, im⟩ := ⟨_, _, _, _, _, rfl⟩
     have HDE := Lib.hid (show Calls Tryd.prog 42 #[.agg #[cv, ev, .int .i64 sh, .int .i64 lk], .int .i64 ((ln : Int) + (j : Int))] wr fun e w' => e = .returned (.tuple #[.agg #[.int .u8 op, .int .i64 ia, .int .i64 ic, .int .i64 id, .int .i64 im], .bool true]) ∧ Below wr.heap.size wr w' from by
      have := vdecode_any cv ev sh lk n cd (ln + j) m1 m2 wr (HT.out.below bww) (HWH.out.below bww)
      rw [Int.natCast_add, hi] at this
      exact this)
     have HI := Lib.hid hi
     have wl : IntKind.i64.wrap ((ln : Int) + (j : Int) + 1) = (ln : Int) + (j : Int) + 1 := IntWalk.i64_in _ (by omega)
     clear m1 m2 m3 bww hi
     go_upto_region 14 with (first | (go_at_call 42; refine HDE.out.mono ?_; rintro e w2 ⟨rfl, hb2⟩))
     obtain ⟨U, hU⟩ : ∃ U, w2.alloc (.cells #[.int .u8 op, .int .i64 ia, .int .i64 ic, .int .i64 id, .int .i64 im] 23) = U := ⟨_, rfl⟩
     rw [hU]
     have bU : Below w2.heap.size w2 U := hU ▸ (Below.refl _ _).alloc (Nat.le_refl _) _
     obtain ⟨y0, y1, y2, y3, y4, lU⟩ := ins_block (show U.heap[w2.heap.size]? = some (.cells #[.int .u8 op, .int .i64 ia, .int .i64 ic, .int .i64 id, .int .i64 im] 23 (0, 0)) from hU ▸ heap_alloc_new _ _)
     obtain ⟨b11, hb11⟩ : ∃ b, w2.heap.size = b := ⟨_, rfl⟩
     have bRU : Below wr.heap.size wr U := hb2.trans (bU.mono hb2.size)
     rw [hb11] at y0 y1 y2 y3 y4 lU
     rw [hb11]
     have HMU := Lib.hid (HM2.out.below bRU)
     have K9U := Lib.hid ((bRU.block b9 lz9).trans K9.out)
     have v0 := HMU.out.cells.1
     obtain ⟨lab, lcb, -, -, -⟩ := HMU.out.lt
     obtain ⟨v1, v1f⟩ := HMU.out.at_ hlt
     have hop := HMU.out.own k hlt
     rw [cdAt_self, codeFrom_len] at hop
     obtain ⟨vk, hvk⟩ : ∃ v, val2 k = v := ⟨_, rfl⟩
     have HVK := Lib.hid hvk
     have HNc := Lib.hid (show some cb ≠ vk.ownBlock from fun e' => by
      rw [← hvk] at e'
      exact (HMU.out.qne hlt cb e'.symm).2.2.1 rfl)
     have HNa := Lib.hid (show some ab ≠ vk.ownBlock from fun e' => by
      rw [← hvk] at e'
      exact (HMU.out.qne hlt ab e'.symm).2.1 rfl)
     have HN9 := Lib.hid (show some b9 ≠ vk.ownBlock from fun e' => by
      rw [← hvk] at e'
      obtain ⟨cs, hcs⟩ := own_type hop e'.symm
      exact ne_type hcs K9U.out (by decide) rfl)
     rw [hvk] at hop v1
     have HOP := Lib.hid hop
     obtain ⟨vA, vn, vcap, hvs⟩ : ∃ vA vn vcap, vk = .slice vA vn vcap := by
      rcases hop.2 with ⟨e, _⟩ | ⟨g', cap', cur', e, _⟩
      ·exact ⟨_, _, _, e⟩
      ·exact ⟨_, _, _, e⟩
     subst hvs
     have lU9 : b9 < U.heap.size := lt_of_blk' K9U.out
     have HXU := Lib.hid (show X.heap.size ≤ U.heap.size from HMU.out.bel.size)
     have FIN := Lib.hid (show ∀ (W2 : World) (v2 : Value), ((U.alloc (.cells #[.int .u8 op, .int .i64 ia, .int .i64 ic, .int .i64 id, .int .i64 im] 23)).drew).grownBy W2 (Value.slice vA vn vcap).ownBlock → W2.ownsRow X.heap.size 23 5 v2 (j + 1) (insCells (codeFrom cd (ln : Int) j) ++ [.int .u8 op, .int .i64 ia, .int .i64 ic, .int .i64 id, .int .i64 im]) → (v2.ownBlock = (Value.slice vA vn vcap).ownBlock ∨ v2.ownBlock = some ((U.alloc (.cells #[.int .u8 op, .int .i64 ia, .int .i64 ic, .int .i64 id, .int .i64 im] 23)).drew).heap.size) →
       CM X (W2.setCell ⟨cb, k, none⟩ v2) ab cb rb ib pb gn (.slice (some ⟨gq, goff, none⟩) gn gcap) (.slice PA P.length pcap) (upd val2 k v2) (cdAt (codeK cd G) k (codeFrom cd (ln : Int) (j + 1))) ∧ (W2.setCell ⟨cb, k, none⟩ v2).heap[b9]? = some (.cells #[.int .i64 (ln : Int), .int .i64 (hn : Int), .slice nA xu ncap] 64 (0, 0)) from fun W2 v2 hg2 ho2 hb2' => by
      have bD : Below U.heap.size U ((U.alloc (.cells #[.int .u8 op, .int .i64 ia, .int .i64 ic, .int .i64 id, .int .i64 im] 23)).drew) := Below.drew ((Below.refl _ _).alloc (Nat.le_refl _) _)
      have h3 := HMU.out.app (y := insAt cd ((ln : Int) + (j : Int))) hlt bD (by rw [HVK.out]; exact hg2) (by rw [cdAt_self, codeFrom_len, insCells_snoc, HI.out]; exact ho2) (by rw [HVK.out]; exact hb2')
      rw [cdAt_self, cdAt_upd, ← codeFrom_succ] at h3
      refine ⟨h3, ?_⟩
      rw [Below.heap_setCell _ _ _ _ (by
       show b9 ≠ cb
       intro e
       obtain ⟨cs, hcs⟩ := own_type HMU.out.crow (q := cb) rfl
       exact ne_type K9U.out hcs (by decide) e)]
      rw [(grown_of bD hg2).block b9 lU9 (fun e => HN9.out e)]
      exact K9U.out)
     clear hU bU bRU hb11 hb2 hop hvk t0 t1 t2 t3
     refine wp_region_noPanic ?_
     go_region_law (refine step_append_own rfl (.tmp 78) (.tmp 80) 113 rfl X.heap.size 23 iI _ 5 40 Tryd.underlying113 hiI hI0 hI1 hI2 rfl (by decide) (.slice vA vn vcap) j (insCells (codeFrom cd (ln : Int) j)) (by simp [Act.eval, Act.put]) (World.ownsRow.alloc (World.ownsRow.drew HOP.out) _) ⟨U.heap.size, 0, none⟩ 1 1 [.int .u8 op, .int .i64 ia, .int .i64 ic, .int .i64 id, .int .i64 im] (by simp [Act.eval, Act.put]) rfl (cells_new5 _ _ _ _ _ _ _) (by simp [Value.oneCell']) (by unfold maxLen; omega) (by omega) (by show X.heap.size ≤ (World.alloc _ _).heap.size; rw [World.size_alloc]; have := HXU.out; show X.heap.size ≤ U.heap.size + 1; omega) ?_; intro v' W2 hown2 hgrow2 hat2; obtain ⟨g2, cap2, rfl⟩ := ownsRow_succ hown2; have hc1 := hgrow2.cell (a := ⟨cb, k, none⟩) (v := .slice vA vn vcap) (by simp [go_sem, *]) HNc.out; have hc2 := hgrow2.cell (a := ⟨ab, 2, none⟩) (v := .slice (some ⟨cb, 0, none⟩) gn gn) (by simp [go_sem, *]) HNa.out; have hf1 : W2.frozen? ⟨cb, k, none⟩ = false := (World.frozen?_of_block (hgrow2.block cb (by simp; omega) HNc.out)).trans (by simp [go_sem, *]))
     all_goals
      have F1 := Lib.hid (FIN.out W2 _ hgrow2 hown2 hat2)
      clear hgrow2 hown2 hat2 hc1 hc2 hf1
      refine NoPanic.normal ?_
      go_wp2_with fail
      go_roundw
      case rel => exact ⟨j + 1, _, by omega, by first | rfl | (congr 1; omega) | go_num, F1.out.1, F1.out.2⟩
      case measure => simp [intOf]; omega
    ·obtain rfl : j = hn - ln := by omega
     have dl2 : decide ((ln : Int) + ((hn - ln : Nat) : Int) < (hn : Int)) = false := decide_eq_false (by omega)
     have HFIN := Lib.hid (show CM X wr ab cb rb ib pb gn (.slice (some ⟨gq, goff, none⟩) gn gcap) (.slice PA P.length pcap) val2 (cdAt (codeK cd G) (k + 1) []) by rw [← cdAt_step, HCK.out]; exact HM2.out)
     go_wp2_with fail
     go_roundw
     case rel => exact ⟨k + 1, val2, by omega, by go_num, HFIN.out⟩
     case measure => simp [intOf]; omega
  ·obtain rfl : k = gn := by omega
   have dl : decide ((k : Int) < (k : Int)) = false := by simp
   obtain ⟨-, u3, u7⟩ := HM.out.cells
   obtain ⟨ua, -, ur, -, -⟩ := HM.out.lt
   obtain ⟨u4, u5⟩ := rows0 HM.out.rrow hg0
   have iz : (0 : Int) < (k : Int) := by omega
   have hnxs : ∀ (q : Nat) (x : Blk) (b : AB), G[q]? = some x → (absOf cd G)[q]? = some b → x.nx = b.nx := fun q x b h1 h2 => by
    obtain ⟨x', e1, e2⟩ := absOf_at h2
    rw [h1] at e1
    cases e1
    rw [e2]
   have hcks : ∀ (q : Nat) (b : AB), (absOf cd G)[q]? = some b → cdAt (codeK cd G) k [] q = b.code := fun q b h2 => by
    obtain ⟨x', e1, e2⟩ := absOf_at h2
    have hq : q < k := by have := (List.getElem?_eq_some_iff.1 e1).1; rw [HGN.out] at this; exact this
    unfold cdAt codeK
    rw [if_pos hq, e2, show G.getD q ⟨0, 0, []⟩ = x' by simp [List.getD, e1]]
   have hbl : (absOf cd G).length = k := by rw [absOf_len]; exact HGN.out
   have HAN := Lib.hid (HM.out.start (B := absOf cd G) (G := G) (HGH.out.below (BV.out.trans (BX.out.mono BV.out.size))) hbl HGN.out hg0 (by omega) hnxs hcks)
   have HBL := Lib.hid hbl
   have HSZ := Lib.hid hrX
   clear hnxs hcks hbl u7
   go_upto_region 18 with fail
   obtain ⟨W2, hW2⟩ : ∃ W2, wr.setCell ⟨rb, 0, none⟩ (.bool true) = W2 := ⟨_, rfl⟩
   rw [hW2]
   rw [hW2] at HAN
   have HABW := Lib.hid (show ∀ (q : Nat) (b : AB), (absOf cd G)[q]? = some b → ABw (absOf cd G).length b from fun q b h2 => by
    obtain ⟨x', e1, e2⟩ := absOf_at h2
    have := (HOK.out x' (List.mem_of_getElem? e1)).abw
    rw [e2, absOf_len]
    exact this)
   have HTX := Lib.hid (HT.out.below (BV.out.trans (BX.out.mono BV.out.size)))
   clear hW2 u3 u4 u5 ua ur
   go_loopg [13] (potS (startS k) k + 1) (fun gk a13 wr => ∃ (s : AS) (c : Bool), a13 = .bool c ∧ potS s k + (if c = true then 1 else 0) ≤ gk ∧ An X wr ab cb rb ib pb (.slice GA k gcap) (.slice PA P.length pcap) G (absOf cd G) val s ∧ (c = true → ∀ s', Ends (absOf cd G) s s' → Ends (absOf cd G) (startS k) s') ∧ (c = false → Ends (absOf cd G) (startS k) s))
   case atStart => exact ⟨startS k, true, rfl, by simp, HAN.out, fun _ s' h => h, fun h => by cases h⟩
   case round =>
    obtain ⟨s, c, rfl, hgk, hA, hc1, hc2⟩ := hrel
    have HA := Lib.hid hA
    have HC1 := Lib.hid hc1
    have HC2 := Lib.hid hc2
    clear hA hc1 hc2 HAN
    cases c with
    | true =>
     have HGK := Lib.hid (show potS s k + 1 ≤ gk by simpa using hgk)
     clear hgk HC2
     have e0 : wr.cell? ⟨w.heap.size + 1, 0, none⟩ = _ := (HA.out.bel.cell (p := ⟨w.heap.size + 1, 0, none⟩) lX).trans c0
     have le0 : w.heap.size + 1 < wr.heap.size := by have := HA.out.bel.size; omega
     go_upto_region 21 with fail
     clear e0 le0
     obtain ⟨wo, hwo⟩ : ∃ wo : World, wo = wr := ⟨_, rfl⟩
     subst hwo
     go_loopw [13, 93] (fun a13 a93 wz => ∃ q : Nat, q ≤ k ∧ a93 = .int .i64 (q : Int) ∧ a13 = .bool (passK (absOf cd G) s q).2 ∧ An X wz ab cb rb ib pb (.slice GA k gcap) (.slice PA P.length pcap) G (absOf cd G) val (passK (absOf cd G) s q).1) (fun _ a93 _ => k - (intOf a93).toNat)
     case atStart => exact ⟨0, by omega, rfl, rfl, HA.out⟩
     case round =>
      obtain ⟨q, hq, rfl, rfl, hA2⟩ := hrel
      have HA2 := Lib.hid hA2
      clear hA2
      by_cases hlt3 : q < k
      ·have dl3 : decide ((q : Int) < (k : Int)) = true := decide_eq_true (by omega)
       have dq : (q : Int) < (k : Int) := by omega
       obtain ⟨sq, hsq⟩ : ∃ sq, passK (absOf cd G) s q = sq := ⟨_, rfl⟩
       have HSQ := Lib.hid hsq
       rw [hsq] at HA2
       rw [hsq]
       obtain ⟨b, hb⟩ : ∃ b, (absOf cd G)[q]? = some b := ⟨_, List.getElem?_eq_getElem (by rw [HBL.out]; exact hlt3)⟩
       obtain ⟨t1, t2, -, -, -⟩ := HA2.out.lt
       obtain ⟨-, -, t3, -, -⟩ := HA2.out.cells
       rw [HBL.out] at t3
       have t4 := (HA2.out.reachAt (t := q) (by rw [HBL.out]; exact hlt3)).1
       have tr : rb < wr.heap.size := HA2.out.lt.2.2.1
       have HVI := Lib.hid (visit_any HA2.out hb (HABW.out q b hb) HTX.out)
       have hgb : (absOf cd G).getD q ⟨[], []⟩ = b := by simp [List.getD, hb]
       rcases hre : sq.1.reach.getD q false with _ | _
       ·rw [hre] at t4
        have HST := Lib.hid (show passK (absOf cd G) s (q + 1) = sq by simp only [passK]; rw [HSQ.out, hre]; simp)
        clear hsq hb hre hgb
        go_wp2_with fail
        go_roundw
        case rel => exact ⟨q + 1, by omega, by go_num, by rw [HST.out], by rw [HST.out]; exact HA2.out⟩
        case measure => simp [intOf]; omega
       ·rw [hre] at t4
        have HST := Lib.hid (show passK (absOf cd G) s (q + 1) = ((visR b q sq.1).1, sq.2 || (visR b q sq.1).2) by simp only [passK]; rw [HSQ.out, hre, if_pos rfl, hgb])
        clear hsq hb hre hgb
        rcases hvr : (visR b q sq.1).2 with _ | _
        ·rw [hvr] at HVI HST
         clear hvr
         go_wp2_with (go_at_call 43; refine HVI.out.mono ?_; rintro e w3 ⟨rfl, hA3, hF3⟩)
         go_roundw
         case rel => exact ⟨q + 1, by omega, by go_num, by rw [HST.out]; simp, by rw [HST.out]; exact hA3⟩
         case measure => simp [intOf]; omega
        ·rw [hvr] at HVI HST
         clear hvr
         go_wp2_with (go_at_call 43; refine HVI.out.mono ?_; rintro e w3 ⟨rfl, hA3, hF3⟩)
         go_roundw
         case rel => exact ⟨q + 1, by omega, by go_num, by rw [HST.out]; simp, by rw [HST.out]; exact hA3⟩
         case measure => simp [intOf]; omega
      ·obtain rfl : q = k := by omega
       have dl3 : decide ((q : Int) < (q : Int)) = false := by simp
       have hpa := passK_asi (fun b hb => by
        obtain ⟨i, hi, e⟩ := List.getElem_of_mem hb
        have := (HABW.out i b (by rw [← e]; exact List.getElem?_eq_getElem hi)).f.ok
        rwa [HBL.out] at this) HBL.out (by have := HA.out.asi; rwa [HBL.out] at this) q (Nat.le_refl _)
       have HPA := Lib.hid hpa
       have HEN := Lib.hid (show ((passK (absOf cd G) s q).2 = true → ∀ s', Ends (absOf cd G) (passK (absOf cd G) s q).1 s' → Ends (absOf cd G) (startS q) s') ∧ ((passK (absOf cd G) s q).2 = false → Ends (absOf cd G) (startS q) (passK (absOf cd G) s q).1) from
        ⟨fun h s' h2 => HC1.out (by first | rfl | trivial) s' (Ends.more (by rw [HBL.out]; exact h) (by rw [HBL.out]; exact h2)), fun h => HC1.out (by first | rfl | trivial) _ (by
         have := Ends.done (B := absOf cd G) (s := s) (by rw [HBL.out]; exact h)
         rwa [HBL.out] at this)⟩)
       clear hpa
       go_wp2_with fail
       go_roundg (potS (passK (absOf cd G) s q).1 q + (if (passK (absOf cd G) s q).2 = true then 1 else 0))
       case measure =>
        obtain ⟨-, h1, h2⟩ := HPA.out
        have h3 := HGK.out
        rcases hpp : (passK (absOf cd G) s q).2 with _ | _
        ·rw [h2 hpp]; simp; omega
        ·have := h1 hpp; simp; omega
       case rel => exact ⟨_, _, rfl, Nat.le_refl _, HA2.out, HEN.out.1, HEN.out.2⟩
    | false =>
     have HE := Lib.hid (HC2.out (by first | rfl | trivial))
     clear HC1 HC2 hgk
     go_upto_region 26 with fail
     obtain ⟨Z, hZw⟩ : ∃ Z : World, Z = wr := ⟨_, rfl⟩
     subst hZw
     obtain ⟨t1, -, t5, t6, -⟩ := HA.out.lt
     obtain ⟨-, -, t3, t4, -⟩ := HA.out.cells
     rw [HBL.out] at t3 t4
     go_cut [15] from 109 to 117 (fun a15 wx => ∃ b15, a15 = .pointer (some ⟨b15, 0, none⟩) ∧ wx.heap[b15]? = some (.cells #[.slice (some ⟨rb, 0, none⟩) k k, .slice (some ⟨ib, 0, none⟩) k k, .slice none 0 0] 55 (0, 0)) ∧ Z.heap.size ≤ b15 ∧ Below Z.heap.size Z wx)
     case first =>
      go_region
      all_goals
       go_wp2_with fail
       go_meet
       case rel => exact ⟨_, rfl, heap_alloc_new _ _, Nat.le_refl _, (Below.drew (Below.refl _ _)).alloc (Nat.le_refl _) _⟩
     obtain ⟨b15, rfl, kd, hbd, bZ⟩ := hcut
     obtain ⟨W6, hW6⟩ : ∃ W6 : World, W6 = wc := ⟨_, rfl⟩
     subst hW6
     have HDM := Lib.hid (show DM Z W6 b15 rb ib k (.slice none 0 0) [] from ⟨bZ, hbd, kd, World.ownsRow_nil _ _ _ _⟩)
     obtain ⟨iP, hiP, hP0, hP1, hP2⟩ := info_parts infoP
     have HXZ := Lib.hid (HA.out.bel)
     have bXw : Below X.heap.size X W6 := HA.out.bel.trans (bZ.mono HA.out.bel.size)
     have e0 : W6.cell? ⟨w.heap.size + 1, 0, none⟩ = _ := (bXw.cell (p := ⟨w.heap.size + 1, 0, none⟩) lX).trans c0
     have le0 : w.heap.size + 1 < W6.heap.size := by have := bXw.size; omega
     have HDL := Lib.hid (deadK_len (B := absOf cd G) (s := s) (fun q b hb => (HABW.out q b hb).nxl))
     clear t1 t3 t4 t5 t6 kd hbd bZ bXw
     go_upto_region 28 with fail
     clear e0 le0
     go_loopw [121] (fun a121 wz => ∃ (q : Nat) (dv : Value), q ≤ k ∧ a121 = .int .i64 (q : Int) ∧ DM Z wz b15 rb ib k dv (deadK (absOf cd G) s q)) (fun a121 _ => k - (intOf a121).toNat)
     case atStart => exact ⟨0, _, by omega, rfl, HDM.out⟩
     case round =>
      obtain ⟨q, dv, hq, rfl, hD⟩ := hrel
      have HD := Lib.hid hD
      clear hD
      by_cases hlt4 : q < k
      ·have dl4 : decide ((q : Int) < (k : Int)) = true := decide_eq_true (by omega)
       have dq : (q : Int) < (k : Int) := by omega
       have HAq := Lib.hid (HA.out.below HD.out.bel)
       obtain ⟨x, hx⟩ : ∃ x, G[q]? = some x := ⟨_, List.getElem?_eq_getElem (by rw [HGN.out]; exact hlt4)⟩
       have hgo := HOK.out x (List.mem_of_getElem? hx)
       obtain ⟨gq, goff, rfl, glt, gc⟩ := HG4.out (by rw [HGN.out]; omega)
       obtain ⟨e0, e1, nv, e2, hnv⟩ := gc q x hx
       obtain ⟨nA, ncap, rfl, n1, n2, n4⟩ := hnv
       have n3 := max_63 n2
       have bw : Below w.heap.size w wr := BV.out.trans ((BX.out.trans (HAq.out.bel.mono BX.out.size)).mono BV.out.size)
       have f0 : wr.cell? ⟨gq, goff + q * 3, none⟩ = _ := (bw.cell (p := ⟨gq, _, none⟩) glt).trans e0
       have f1 : wr.cell? ⟨gq, goff + q * 3 + 1, none⟩ = _ := (bw.cell (p := ⟨gq, _, none⟩) glt).trans e1
       have f2 : wr.cell? ⟨gq, goff + q * 3 + 2, none⟩ = _ := (bw.cell (p := ⟨gq, _, none⟩) glt).trans e2
       have lg : gq < wr.heap.size := by have := bw.size; omega
       obtain ⟨xu, hxu⟩ : ∃ v, x.nx.length = v := ⟨_, rfl⟩
       have hxu1 : xu ≤ 1000 := by rw [← hxu]; exact hgo.nxl
       rw [hxu] at f2 n1
       obtain ⟨b, hb⟩ : ∃ b, (absOf cd G)[q]? = some b := ⟨_, List.getElem?_eq_getElem (by rw [HBL.out]; exact hlt4)⟩
       have hbx : b.nx = x.nx := by
        obtain ⟨x', h1, h2⟩ := absOf_at hb
        rw [hx] at h1
        cases h1
        rw [h2]
       have hgb : (absOf cd G).getD q ⟨[], []⟩ = b := by simp [List.getD, hb]
       have HB := Lib.hid (HABW.out q b hb)
       have HBK := Lib.hid hb
       have HBX := Lib.hid hbx
       have HXU := Lib.hid hxu
       obtain ⟨r1, -, r3, -, -⟩ := HAq.out.lt
       obtain ⟨-, -, r5, -, -⟩ := HAq.out.cells
       rw [HBL.out] at r5
       have r6 := (HAq.out.reachAt (t := q) (by rw [HBL.out]; exact hlt4)).1
       have HNX := Lib.hid (show ∀ (j : Nat) (t : Int), x.nx[j]? = some t → ∃ nb noff, nA = some ⟨nb, noff, none⟩ ∧ nb < w.heap.size ∧ w.cell? ⟨nb, noff + j, none⟩ = some (.int .i64 t) from fun j t hj => by
        have hl := (List.getElem?_eq_some_iff.1 hj).1
        obtain ⟨nb, noff, ha, hb2, hcc⟩ := n4 (by omega)
        exact ⟨nb, noff, ha, hb2, by rw [hcc j hl, show x.nx.getD j 0 = t by simp [List.getD, hj]]⟩)
       have HBW := Lib.hid bw
       have HDS := Lib.hid (show deadK (absOf cd G) s (q + 1) = deadK (absOf cd G) s q ++ (if s.reach.getD q false = true then deadB b q b.nx.length (s.inn.getD q []) else []) by rw [deadK_succ, hgb])
       have hdl := HDL.out q
       clear hgo e0 e1 e2 gc hxu hx hb hbx hgb n4 n2 bw
       rcases hre : s.reach.getD q false with _ | _
       ·rw [hre] at r6 HDS
        simp only [Bool.false_eq_true, if_false, List.append_nil] at HDS
        clear hre
        go_wp2_with fail
        go_roundw
        case rel => exact ⟨q + 1, dv, by omega, by go_num, by rw [HDS.out]; exact HD.out.below ((Below.refl _ _).alloc (Nat.le_refl _) _)⟩
        case measure => simp [intOf]; omega
       ·rw [hre] at r6 HDS
        rw [if_pos rfl] at HDS
        clear hre
        go_upto_region 31 with fail
        obtain ⟨b17, hb17⟩ : ∃ b17, wr.heap.size = b17 := ⟨_, rfl⟩
        obtain ⟨Y, hY⟩ : ∃ Y, wr.alloc (.cells #[.int .i64 x.lo, .int .i64 x.hi, .slice nA xu ncap] 64) = Y := ⟨_, rfl⟩
        rw [hY]
        have bY : Below wr.heap.size wr Y := hY ▸ (Below.refl _ _).alloc (Nat.le_refl _) _
        have kY : Y.heap[b17]? = some (.cells #[.int .i64 x.lo, .int .i64 x.hi, .slice nA xu ncap] 64 (0, 0)) := by rw [← hb17, ← hY]; exact heap_alloc_new _ _
        rw [hb17]
        have HDY := Lib.hid (HD.out.below bY)
        have HAY := Lib.hid (HAq.out.below bY)
        have KY := Lib.hid kY
        have y17 : Y.cell? ⟨b17, 2, none⟩ = some (.slice nA xu ncap) := by simp [World.cell?, kY]
        have l17 : b17 < Y.heap.size := lt_of_blk' kY
        have HAF := Lib.hid (after_any HAY.out HBK.out HB.out.ne HB.out.f.ops (HTX.out.below HAY.out.bel))
        have HRC := Lib.hid (fun aft (h : runR b.code (s.inn.getD q []) = some aft) => runR_16 HB.out.f.ops (HAY.out.asi.get (by rw [HBL.out]; exact hlt4)) h)
        clear hY bY kY hb17 f0 f1 f2 r1 r3 r5 r6
        have HDK := Lib.hid hdl
        rcases hr : runR b.code (s.inn.getD q []) with _ | aft
        ·rw [hr] at HAF
         have HRN := Lib.hid hr
         clear hr HRC
         go_upto_region 32 with (first | (go_at_call 44; refine HAF.out.mono ?_; rintro e w3 ⟨rfl, hb3⟩; unfold outR) | (refine wpList_store_row rfl 27 (.tmp 18) (.tmp 138) rfl w3.heap.size (cellsR zeroR).toArray rfl rfl 27 _ (heap_alloc_new _ _) (hi4 zero16) (hi6 zero16 zero16) (cellsR_one zeroR) ?_))
         obtain ⟨Y2, hY2⟩ : ∃ Y2, (w3.alloc (.cells #[.int .i32 0, .int .i32 0, .int .i32 0, .int .i32 0, .int .i32 0, .int .i32 0, .int .i32 0, .int .i32 0, .int .i32 0, .int .i32 0, .int .i32 0, .int .i32 0, .int .i32 0, .int .i32 0, .int .i32 0, .int .i32 0, .int .i32 0, .int .i32 0, .int .i32 0, .int .i32 0, .int .i32 0, .int .i32 0, .int .i32 0, .int .i32 0, .int .i32 0, .int .i32 0, .int .i32 0, .int .i32 0, .int .i32 0, .int .i32 0, .int .i32 0, .int .i32 0] 27)).setRow w3.heap.size (cellsR zeroR).toArray = Y2 := ⟨_, rfl⟩
         rw [hY2]
         have bY2 : Below Y.heap.size Y Y2 := hY2 ▸ below_setRow (hb3.alloc hb3.size _) hb3.size _
         have z17 : Y2.cell? ⟨b17, 2, none⟩ = _ := (bY2.cell (p := ⟨b17, 2, none⟩) l17).trans y17
         have m17 : b17 < Y2.heap.size := by have := bY2.size; omega
         have HD2 := Lib.hid (HDY.out.below bY2)
         clear hY2 bY2 hb3
         go_upto_region 33 with fail
         clear z17 m17
         obtain ⟨wo, hwo⟩ : ∃ wo : World, wo = wr := ⟨_, rfl⟩
         subst hwo
         go_loopw [143] (fun a143 wz => ∃ (j : Nat) (dv2 : Value), j ≤ xu ∧ a143 = .int .i64 (j : Int) ∧ DM Z wz b15 rb ib k dv2 (deadK (absOf cd G) s q ++ deadB b q j (s.inn.getD q []))) (fun a143 _ => xu - (intOf a143).toNat)
         case atStart => exact ⟨0, dv, by omega, rfl, by rw [deadB_zero, List.append_nil]; exact HD2.out⟩
         case round =>
          obtain ⟨j, dv2, hj, rfl, hD3⟩ := hrel
          have HD3 := Lib.hid hD3
          clear hD3
          by_cases hlt5 : j < xu
          ·have dl5 : decide ((j : Int) < (xu : Int)) = true := decide_eq_true (by omega)
           have dj : (j : Int) < (xu : Int) := by omega
           obtain ⟨t, ht⟩ : ∃ t, x.nx[j]? = some t := ⟨_, List.getElem?_eq_getElem (by rw [HXU.out]; exact hlt5)⟩
           obtain ⟨nb, noff, rfl, hnb, hcn⟩ := HNX.out j t ht
           have bwz : Below w.heap.size w wr := BV.out.trans ((BX.out.trans ((HXZ.out.trans (HD3.out.bel.mono HXZ.out.size)).mono BX.out.size)).mono BV.out.size)
           have x0 : wr.cell? ⟨nb, noff + j, none⟩ = some (.int .i64 t) := (bwz.cell (p := ⟨nb, noff + j, none⟩) hnb).trans hcn
           have lnb : nb < wr.heap.size := by have := bwz.size; omega
           obtain ⟨d1, d2, d3⟩ := HD3.out.cell
           have HOW := Lib.hid HD3.out.row
           have hln := deadB_len b q j (s.inn.getD q [])
           have hZs := HD3.out.bel.size
           have HTJ := Lib.hid (show deadK (absOf cd G) s q ++ deadB b q (j + 1) (s.inn.getD q []) = deadK (absOf cd G) s q ++ deadB b q j (s.inn.getD q []) ++ [((q : Int), t)] by
            rw [deadB_none HRN.out (by rw [HBX.out, HXU.out]; exact hlt5), HBX.out, show x.nx.getD j 0 = t by simp [List.getD, ht], List.append_assoc])
           obtain ⟨LL, hLL⟩ : ∃ LL, deadK (absOf cd G) s q ++ deadB b q j (s.inn.getD q []) = LL := ⟨_, rfl⟩
           have hLn : LL.length ≤ 1000 * q + j := by rw [← hLL, List.length_append]; have := HDK.out; omega
           rw [hLL] at HTJ HOW HD3
           clear ht hcn bwz hln hLL
           go_wp2_with (at_builtin; refine wpList_append_own_at _ rfl (.tmp 151) (.tmp 155) 53 rfl Z.heap.size 72 iP _ 2 16 Tryd.underlying53 hiP hP0 hP1 hP2 rfl (by decide) dv2 LL.length (pvs LL) rfl (HOW.out.alloc _) ⟨wr.heap.size, 0, none⟩ 1 1 [.int .i64 (q : Int), .int .i64 t] rfl rfl (cells_new2 _ _ _ _) (by simp [Value.oneCell']) (by unfold maxLen; omega) (by omega) (by rw [World.size_alloc]; omega) ?_; intro v' W' hown' hgrow hni hob; obtain ⟨g3, cap3, rfl⟩ := ownsRow_succ hown'; obtain ⟨hdm, hkeep⟩ := HD3.out.app (y := ((q : Int), t)) ((Below.refl _ _).alloc (Nat.le_refl _) _) hgrow (by rw [pvs_snoc]; exact hown'); have h15 : W'.cell? ⟨b15, 2, none⟩ = some dv2 := hgrow.cell (a := ⟨b15, 2, none⟩) (v := dv2) (by simp [go_sem, *]) (fun e => HD3.out.qne e); have h15f : W'.frozen? ⟨b15, 2, none⟩ = false := (World.frozen?_of_block (hgrow.block b15 (by simp; omega) (fun e => HD3.out.qne e))).trans (by simp [go_sem, *]))
           go_roundw
           case rel => exact ⟨j + 1, _, by omega, by go_num, by rw [HTJ.out]; exact hdm⟩
           case measure => simp [intOf]; omega
          ·obtain rfl : j = xu := by omega
           have dl5 : decide ((j : Int) < (j : Int)) = false := by simp
           have HFIN := Lib.hid (show DM Z wr b15 rb ib k dv2 (deadK (absOf cd G) s (q + 1)) by rw [HDS.out, HBX.out, HXU.out]; exact HD3.out)
           go_wp2_with fail
           go_roundw
           case rel => exact ⟨q + 1, dv2, by omega, by go_num, HFIN.out⟩
           case measure => simp [intOf]; omega
        ·rw [hr] at HAF
         have HRN := Lib.hid hr
         have A16 := Lib.hid (HRC.out aft hr)
         clear hr HRC
         go_upto_region 32 with (first | (go_at_call 44; refine HAF.out.mono ?_; rintro e w3 ⟨rfl, hb3⟩; unfold outR) | (refine wpList_store_row rfl 27 (.tmp 18) (.tmp 138) rfl w3.heap.size (cellsR aft).toArray rfl rfl 27 _ (heap_alloc_new _ _) (hi4 A16.out.len) (hi6 A16.out.len zero16) (cellsR_one aft) ?_))
         obtain ⟨b18, hb18⟩ : ∃ b18, w3.heap.size = b18 := ⟨_, rfl⟩
         obtain ⟨Y2, hY2⟩ : ∃ Y2, (w3.alloc (.cells #[.int .i32 0, .int .i32 0, .int .i32 0, .int .i32 0, .int .i32 0, .int .i32 0, .int .i32 0, .int .i32 0, .int .i32 0, .int .i32 0, .int .i32 0, .int .i32 0, .int .i32 0, .int .i32 0, .int .i32 0, .int .i32 0, .int .i32 0, .int .i32 0, .int .i32 0, .int .i32 0, .int .i32 0, .int .i32 0, .int .i32 0, .int .i32 0, .int .i32 0, .int .i32 0, .int .i32 0, .int .i32 0, .int .i32 0, .int .i32 0, .int .i32 0, .int .i32 0] 27)).setRow w3.heap.size (cellsR aft).toArray = Y2 := ⟨_, rfl⟩
         rw [hY2]
         have bY2 : Below Y.heap.size Y Y2 := hY2 ▸ below_setRow (hb3.alloc hb3.size _) hb3.size _
         have kY2 : RBox Y2 b18 27 aft := by rw [← hb18, ← hY2]; exact RBox.row (z := zeroR) (heap_alloc_new _ _)
         rw [hb18]
         have z17 : Y2.cell? ⟨b17, 2, none⟩ = _ := (bY2.cell (p := ⟨b17, 2, none⟩) l17).trans y17
         have m17 : b17 < Y2.heap.size := by have := bY2.size; omega
         have HD2 := Lib.hid (HDY.out.below bY2)
         have KB0 := Lib.hid kY2
         clear hY2 bY2 hb3 hb18 kY2
         go_upto_region 33 with fail
         clear z17 m17
         obtain ⟨wo, hwo⟩ : ∃ wo : World, wo = wr := ⟨_, rfl⟩
         subst hwo
         go_loopw [143] (fun a143 wz => ∃ (j : Nat) (dv2 : Value), j ≤ xu ∧ a143 = .int .i64 (j : Int) ∧ DM Z wz b15 rb ib k dv2 (deadK (absOf cd G) s q ++ deadB b q j (s.inn.getD q [])) ∧ RBox wz b18 27 aft) (fun a143 _ => xu - (intOf a143).toNat)
         case atStart => exact ⟨0, dv, by omega, rfl, by rw [deadB_zero, List.append_nil]; exact HD2.out, KB0.out⟩
         case round =>
          obtain ⟨j, dv2, hj, rfl, hD3, hkb⟩ := hrel
          have HD3 := Lib.hid hD3
          have KB := Lib.hid hkb
          have HRG := Lib.hid hkb.range
          clear hD3 hkb
          by_cases hlt5 : j < xu
          ·have dl5 : decide ((j : Int) < (xu : Int)) = true := decide_eq_true (by omega)
           have dj : (j : Int) < (xu : Int) := by omega
           obtain ⟨t, ht⟩ : ∃ t, x.nx[j]? = some t := ⟨_, List.getElem?_eq_getElem (by rw [HXU.out]; exact hlt5)⟩
           obtain ⟨nb, noff, rfl, hnb, hcn⟩ := HNX.out j t ht
           have bwz : Below w.heap.size w wr := BV.out.trans ((BX.out.trans ((HXZ.out.trans (HD3.out.bel.mono HXZ.out.size)).mono BX.out.size)).mono BV.out.size)
           have x0 : wr.cell? ⟨nb, noff + j, none⟩ = some (.int .i64 t) := (bwz.cell (p := ⟨nb, noff + j, none⟩) hnb).trans hcn
           have lnb : nb < wr.heap.size := by have := bwz.size; omega
           have HAz := Lib.hid (HA.out.below HD3.out.bel)
           have HED := Lib.hid (edge_any HAz.out HBK.out HB.out.ne HB.out.nxl HB.out.f.op j aft A16.out (HTX.out.below HAz.out.bel))
           have hln := deadB_len b q j (s.inn.getD q [])
           have HTJ := Lib.hid (show deadK (absOf cd G) s q ++ deadB b q (j + 1) (s.inn.getD q []) = deadK (absOf cd G) s q ++ deadB b q j (s.inn.getD q []) ++ (if (edgeR b.last b.nx.length j aft).isNone = true then [((q : Int), t)] else []) by
            rw [deadB_some HRN.out, show b.nx.getD j 0 = t by rw [HBX.out]; simp [List.getD, ht], List.append_assoc])
           obtain ⟨LL, hLL⟩ : ∃ LL, deadK (absOf cd G) s q ++ deadB b q j (s.inn.getD q []) = LL := ⟨_, rfl⟩
           have hLn : LL.length ≤ 1000 * q + j := by rw [← hLL, List.length_append]; have := HDK.out; omega
           rw [hLL] at HTJ HD3
           clear ht hcn bwz hln hLL
           rcases he : edgeR b.last b.nx.length j aft with _ | r
           ·rw [he] at HED HTJ
            simp only [Option.isNone_none, if_true] at HTJ
            clear he
            go_upto_region 39 with (first | (refine wpList_load_mid rfl _ _ rfl _ _ rfl (cellsR aft) _ HRG.out Tryd.underlying27 rfl (hi3 A16.out.len) ?_) | (go_at_call 45; refine HED.out.mono ?_; rintro e w5 ⟨rfl, hb5⟩; unfold outR) | (refine wpList_store_row rfl 27 (.tmp 22) (.tmp 164) rfl w5.heap.size (cellsR zeroR).toArray rfl rfl 27 _ (heap_alloc_new _ _) (hi4 zero16) (hi6 zero16 zero16) (cellsR_one zeroR) ?_))
            obtain ⟨U, hU⟩ : ∃ U, (w5.alloc (.cells #[.int .i32 0, .int .i32 0, .int .i32 0, .int .i32 0, .int .i32 0, .int .i32 0, .int .i32 0, .int .i32 0, .int .i32 0, .int .i32 0, .int .i32 0, .int .i32 0, .int .i32 0, .int .i32 0, .int .i32 0, .int .i32 0, .int .i32 0, .int .i32 0, .int .i32 0, .int .i32 0, .int .i32 0, .int .i32 0, .int .i32 0, .int .i32 0, .int .i32 0, .int .i32 0, .int .i32 0, .int .i32 0, .int .i32 0, .int .i32 0, .int .i32 0, .int .i32 0] 27)).setRow w5.heap.size (cellsR zeroR).toArray = U := ⟨_, rfl⟩
            rw [hU]
            have bU : Below wr.heap.size wr U := hU ▸ below_setRow (hb5.alloc hb5.size _) hb5.size _
            have HDU := Lib.hid (HD3.out.below bU)
            have KBU := Lib.hid (KB.out.keep bU)
            obtain ⟨d1, d2, d3⟩ := HDU.out.cell
            have HOW := Lib.hid HDU.out.row
            have hZs := HDU.out.bel.size
            clear hU bU hb5 x0 lnb
            go_wp2_with (at_builtin; refine wpList_append_own_at _ rfl (.tmp 169) (.tmp 173) 53 rfl Z.heap.size 72 iP _ 2 16 Tryd.underlying53 hiP hP0 hP1 hP2 rfl (by decide) dv2 LL.length (pvs LL) rfl (HOW.out.alloc _) ⟨U.heap.size, 0, none⟩ 1 1 [.int .i64 (q : Int), .int .i64 t] rfl rfl (cells_new2 _ _ _ _) (by simp [Value.oneCell']) (by unfold maxLen; omega) (by omega) (by rw [World.size_alloc]; omega) ?_; intro v' W' hown' hgrow hni hob; obtain ⟨g3, cap3, rfl⟩ := ownsRow_succ hown'; obtain ⟨hdm, hkeep⟩ := HDU.out.app (y := ((q : Int), t)) ((Below.refl _ _).alloc (Nat.le_refl _) _) hgrow (by rw [pvs_snoc]; exact hown'); have h15 : W'.cell? ⟨b15, 2, none⟩ = some dv2 := hgrow.cell (a := ⟨b15, 2, none⟩) (v := dv2) (by simp [go_sem, *]) (fun e => HDU.out.qne e); have h15f : W'.frozen? ⟨b15, 2, none⟩ = false := (World.frozen?_of_block (hgrow.block b15 (by simp; omega) (fun e => HDU.out.qne e))).trans (by simp [go_sem, *]))
            go_roundw
            case rel => exact ⟨j + 1, _, by omega, by go_num, by rw [HTJ.out]; exact hdm, hkeep _ _ _ KBU.out (by decide) (by decide)⟩
            case measure => simp [intOf]; omega
           ·rw [he] at HED HTJ
            simp only [Option.isNone_some, Bool.false_eq_true, if_false, List.append_nil] at HTJ
            have R16' := Lib.hid (edgeR_16 A16.out he)
            clear he
            go_wp2_with (first | (refine wpList_load_mid rfl _ _ rfl _ _ rfl (cellsR aft) _ HRG.out Tryd.underlying27 rfl (hi3 A16.out.len) ?_) | (go_at_call 45; refine HED.out.mono ?_; rintro e w5 ⟨rfl, hb5⟩; unfold outR) | (refine wpList_store_row rfl 27 (.tmp 22) (.tmp 164) rfl w5.heap.size (cellsR r).toArray rfl rfl 27 _ (heap_alloc_new _ _) (hi4 R16'.out.len) (hi6 R16'.out.len zero16) (cellsR_one r) ?_))
            go_roundw
            case rel =>
             have bU : Below wr.heap.size wr ((w5.alloc (.cells #[.int .i32 0, .int .i32 0, .int .i32 0, .int .i32 0, .int .i32 0, .int .i32 0, .int .i32 0, .int .i32 0, .int .i32 0, .int .i32 0, .int .i32 0, .int .i32 0, .int .i32 0, .int .i32 0, .int .i32 0, .int .i32 0, .int .i32 0, .int .i32 0, .int .i32 0, .int .i32 0, .int .i32 0, .int .i32 0, .int .i32 0, .int .i32 0, .int .i32 0, .int .i32 0, .int .i32 0, .int .i32 0, .int .i32 0, .int .i32 0, .int .i32 0, .int .i32 0] 27)).setRow w5.heap.size (cellsR r).toArray) := below_setRow (hb5.alloc hb5.size _) hb5.size _
             exact ⟨j + 1, dv2, by omega, by go_num, by rw [HTJ.out]; exact HD3.out.below bU, KB.out.keep bU⟩
            case measure => simp [intOf]; omega
          ·obtain rfl : j = xu := by omega
           have dl5 : decide ((j : Int) < (j : Int)) = false := by simp
           have HFIN := Lib.hid (show DM Z wr b15 rb ib k dv2 (deadK (absOf cd G) s (q + 1)) by rw [HDS.out, HBX.out, HXU.out]; exact HD3.out)
           go_wp2_with fail
           go_roundw
           case rel => exact ⟨q + 1, dv2, by omega, by go_num, HFIN.out⟩
           case measure => simp [intOf]; omega
      ·obtain rfl : q = k := by omega
       have dl4 : decide ((q : Int) < (q : Int)) = false := by simp
       obtain ⟨wf, hwf⟩ : ∃ wf : World, wf = wr := ⟨_, rfl⟩
       subst hwf
       have HAF := Lib.hid (HA.out.below HD.out.bel)
       have KR0 := Lib.hid (show wf.heap[w.heap.size + 1 + 1]? = some (.cells #[.slice none 0 0, .slice none 0 0, .slice none 0 0] 55 (0, 0)) from ((BX.out.trans (HAF.out.bel.mono BX.out.size)).block _ (by have := SV.out; omega)).trans K2.out)
       have h15 := HD.out.head
       have o0 : wf.cell? ⟨b15, 0, none⟩ = some (.slice (some ⟨rb, 0, none⟩) q q) := by simp [World.cell?, h15]
       have o1 : wf.cell? ⟨b15, 1, none⟩ = some (.slice (some ⟨ib, 0, none⟩) q q) := by simp [World.cell?, h15]
       have o2 : wf.cell? ⟨b15, 2, none⟩ = some dv := by simp [World.cell?, h15]
       have lo := lt_of_blk' h15
       obtain ⟨vA, vn, vc, rfl⟩ : ∃ vA vn vc, dv = .slice vA vn vc := by
        rcases HD.out.row.2 with ⟨e, _⟩ | ⟨g', cap', cur', e, _⟩
        ·exact ⟨_, _, _, e⟩
        ·exact ⟨_, _, _, e⟩
       have BWF := Lib.hid (BV.out.trans ((BX.out.trans (HAF.out.bel.mono BX.out.size)).mono BV.out.size))
       clear h15
       go_wp2_with (refine wpList_store_row rfl 55 (.tmp 4) (.tmp 178) rfl (w.heap.size + 1 + 1) #[.slice (some ⟨rb, 0, none⟩) q q, .slice (some ⟨ib, 0, none⟩) q q, .slice vA vn vc] rfl rfl 55 _ KR0.out (by kernel_rfl) rfl (by simp [Value.oneCell']) ?_)
       have hbf : Below w.heap.size w (wf.setRow (w.heap.size + 1 + 1) #[.slice (some ⟨rb, 0, none⟩) q q, .slice (some ⟨ib, 0, none⟩) q q, .slice vA vn vc]) := below_setRow BWF.out (by omega) _
       refine bodyPost_ret (results_cell_tmp (P := Tryd.prog) Tryd.results16 _ _ (w.heap.size + 1 + 1) [.slice (some ⟨rb, 0, none⟩) q q, .slice (some ⟨ib, 0, none⟩) q q, .slice vA vn vc] _ rfl (rangeAt_block (setRow_heap _ _ _ _ _ _ KR0.out)) Tryd.underlying55 rfl (by kernel_rfl)) rfl ⟨⟨s, _, _, _, HE.out, rfl, ?_, ?_, ?_⟩, hbf⟩
       ·have hne : ∀ z, z ≠ w.heap.size + 1 + 1 → (wf.setRow (w.heap.size + 1 + 1) #[.slice (some ⟨rb, 0, none⟩) q q, .slice (some ⟨ib, 0, none⟩) q q, .slice vA vn vc]).heap[z]? = wf.heap[z]? := fun z hz => setRow_other _ _ _ _ hz
        have s1 : s.reach.length = q := by have := HAF.out.asi.l1; rwa [HBL.out] at this
        have s2 : s.inn.length = q := by have := HAF.out.asi.l2; rwa [HBL.out] at this
        have x1 := HAF.out.rV
        have x2 := HAF.out.iV
        have x3 := SV.out
        have x4 := BX.out.size
        refine ⟨⟨_, q, by rw [s1], by omega, by unfold maxLen; omega, fun _ => ⟨rb, 0, rfl, by have := HAF.out.lt; simp [World.setRow]; omega, fun p hp => ?_⟩⟩, ⟨_, q, by rw [s2], by omega, by unfold maxLen; omega, fun _ => ⟨ib, 0, rfl, by have := HAF.out.lt; simp [World.setRow]; omega, fun p hp => ?_⟩⟩⟩
        ·rw [Nat.zero_add, World.cell?_of_block (hne rb (by omega))]
         exact (HAF.out.reachAt (by rw [HBL.out]; omega)).1
        ·rw [Nat.zero_add]
         intro jj vv hvv
         rw [World.cell?_of_block (hne ib (by omega))]
         exact HAF.out.inAt (by rw [HBL.out]; omega) jj vv hvv
       ·have hp := own_prs HD.out.row
        obtain ⟨A', cap', e1, e2, e3, e4⟩ := hp
        refine ⟨A', cap', e1, e2, e3, fun h0 => ?_⟩
        obtain ⟨b', off', ea, eb, ec⟩ := e4 h0
        refine ⟨b', off', ea, by simp [World.setRow]; omega, fun i p hi => ?_⟩
        obtain ⟨c1', c2'⟩ := ec i p hi
        have hnb : b' ≠ w.heap.size + 1 + 1 := by
         have h1 := (HD.out.row.lt b' (by rw [e1, ea]; rfl)).1
         have h2 := HXZ.out.size
         have x3 := SV.out
         have x4 := BX.out.size
         omega
        exact ⟨by rw [World.cell?_of_block (setRow_other _ _ _ _ hnb)]; exact c1', by rw [World.cell?_of_block (setRow_other _ _ _ _ hnb)]; exact c2'⟩
       ·intro q' h
        have x1 := HAF.out.rV
        have x2 := HAF.out.iV
        have x3 := SV.out
        have x4 := BX.out.size
        have x5 := HXZ.out.size
        rcases h with h | h | h
        ·have e : rb = q' := by simpa [Value.ownBlock] using h
         omega
        ·have e : ib = q' := by simpa [Value.ownBlock] using h
         omega
        ·have := (HD.out.row.lt q' h).1
         omega

theorem anl_spec : AnlSpec := fun cv ev bv pv sh lk n cd G P w T HW HG HP hv h0 h1 hok => analyze_any cv ev bv pv sh lk n cd G P w T HW HG HP hv h0 h1 hok

end Go.Proofs.YtebklpnkcicpjaaDoor


