/-
 What is proved here: what ValueOutcomes returns.
-/
import Derived.Test.YtebklpnkcicpjaaDoorRlCo
import Derived.Test.YtebklpnkcicpjaaDoorRaBd
import Derived.Test.YtebklpnkcicpjaaDoorRaRf
import Derived.BigQuiet
namespace Go.Proofs.YtebklpnkcicpjaaDoor
open Go.RowKit
set_option linter.unusedVariables false
set_option linter.unusedSimpArgs false

theorem two_lo (w : World) (cA cB : Array Value) (tA tB : TypeId) : ((w.alloc (.cells cA tA)).alloc (.cells cB tB)).heap[w.heap.size]? = some (.cells cA tA (0, 0)) := by
 rw [heap_alloc_old _ _ (by simp)]
 exact heap_alloc_new _ _
theorem two_hi (w : World) (cA cB row : Array Value) (tA tB : TypeId) : (((w.alloc (.cells cA tA)).alloc (.cells cB tB)).setRow w.heap.size row).heap[w.heap.size + 1]? = some (.cells cB tB (0, 0)) := by
 rw [setRow_other _ _ _ _ (by omega)]
 exact heap_alloc_at _ _ (by simp)
set_option maxRecDepth 100000 in
set_option maxHeartbeats 8000000 in
theorem vout_any (AZ : AnlSpec) (op ia ib ic im : Int) (h0 : 0 ≤ op) (r : RG) (hr : R16 r) (ov : Value) (ol : List Int) (w : World) (T : Tab w) (HO : Wds w ov ol) :
  Calls Tryd.prog 3 #[.agg #[.int .u8 op, .int .i64 ia, .int .i64 ib, .int .i64 ic, .int .i64 im], .agg (cellsR r).toArray, ov] w fun e w' => e = .returned (.bool true) ∧ Below w.heap.size w w' := by
 obtain ⟨V, hV, k0, k1, bV, sV⟩ := two_new w #[.int .u8 op, .int .i64 ia, .int .i64 ib, .int .i64 ic, .int .i64 im] (cellsR r).toArray 23 27
 obtain ⟨a0, a1, a2, a3, a4, l0⟩ := ins_block k0
 have KI := Lib.hid k0
 have KR := Lib.hid (show RBox V (w.heap.size + 1) 27 r from k1)
 have HAW := Lib.hid (vawake_any AZ V (T.below bV))
 have HTV := Lib.hid (T.below bV)
 have HTB := Lib.hid T
 have HOV := Lib.hid (HO.below bV)
 have BV := Lib.hid bV
 have R := Lib.hid hr
 clear k0 k1 bV hr T HO
 go_enter Tryd.func3, Tryd.ntmps3
 go_upto_region 3 with (go_at_call 9; refine HAW.out.mono ?_; rintro e W1 ⟨rfl, hb1⟩)
 have HBr := Lib.hid (fun W => bad_any r R.out.len W)
 obtain ⟨pr, hpr⟩ : ∃ p, properR r = p := ⟨_, rfl⟩
 rw [hpr] at HBr
 have HPR := Lib.hid hpr
 obtain ⟨vl, hvl⟩ : ∃ p, validI ⟨op, ia, ib, ic, im⟩ = p := ⟨_, rfl⟩
 have HT1 := Lib.hid (HTV.out.below hb1)
 have HVA := Lib.hid (show ∀ W, Below W1.heap.size W1 W → Calls Tryd.prog 11 #[.agg #[.int .u8 op, .int .i64 ia, .int .i64 ib, .int .i64 ic, .int .i64 im]] W fun e w' => e = .returned (.bool vl) ∧ Below W.heap.size W w' from fun W hW => by
  have := valid_any ⟨op, ia, ib, ic, im⟩ h0 W (HT1.out.below hW)
  rw [hvl] at this
  exact this)
 have HVL := Lib.hid hvl
 have HB1 := Lib.hid (BV.out.trans (hb1.mono BV.out.size))
 have KI1 := Lib.hid ((hb1.block _ l0).trans KI.out)
 have KR1 := Lib.hid (KR.out.keep hb1)
 have rg1 := KR1.out.range
 have HO1 := Lib.hid (HOV.out.below hb1)
 obtain ⟨b0, b1, b2, b3, b4, l1⟩ := ins_block KI1.out
 clear hpr hvl hV hb1 a0 a1 a2 a3 a4
 rcases pr with _ | _
 ·simp only [Bool.not_false] at HBr
  go_wp2_with (first | (go_at_call 10; refine (HBr.out _).mono ?_; rintro e W2 ⟨rfl, hb2⟩; obtain ⟨i0, i1, i2, i3, i4, lI2⟩ := ins_block ((hb2.block _ l1).trans KI1.out)) | (go_at_call 11; refine (HVA.out _ hb2).mono ?_; rintro e W3 ⟨rfl, hb3⟩) | (refine wpList_load_mid rfl _ _ rfl _ _ rfl (cellsR r) _ rg1 Tryd.underlying27 rfl (hi3 R.out.len) ?_))
  go_ret
  exact ⟨rfl, HB1.out.trans (hb2.mono HB1.out.size)⟩
 simp only [Bool.not_true] at HBr
 by_cases hop : ¬ (op = 22 ∨ op = 23)
 ·have g1 : (op != 22) = true := by simp; omega
  have g2 : (op != 23) = true := by simp; omega
  have g3 : decide (op = 22) = false := decide_eq_false (by omega)
  have g4 : decide (op = 23) = false := decide_eq_false (by omega)
  clear hop
  go_wp2_with (first | (go_at_call 10; refine (HBr.out _).mono ?_; rintro e W2 ⟨rfl, hb2⟩; obtain ⟨i0, i1, i2, i3, i4, lI2⟩ := ins_block ((hb2.block _ l1).trans KI1.out)) | (go_at_call 11; refine (HVA.out _ hb2).mono ?_; rintro e W3 ⟨rfl, hb3⟩) | (refine wpList_load_mid rfl _ _ rfl _ _ rfl (cellsR r) _ rg1 Tryd.underlying27 rfl (hi3 R.out.len) ?_))
  go_ret
  exact ⟨rfl, HB1.out.trans (hb2.mono HB1.out.size)⟩
 have hop := Decidable.not_not.1 hop
 have HOP := Lib.hid hop
 have HCN := Lib.hid (fun (W : World) (hW : Below W1.heap.size W1 W) => concrete_any op ia ib ic im h0 r R.out HPR.out ov ol W (HT1.out.below hW) (HO1.out.below hW))
 unfold ConPost at HCN
 go_cut [30] from 14 to 31 (fun a30 wx => a30 = .bool (!vl) ∧ Below W1.heap.size W1 wx)
 case first =>
  clear HCN HOP
  rcases hop with rfl | rfl
  all_goals
   go_wp2_with (first | (go_at_call 10; refine (HBr.out _).mono ?_; rintro e W2 ⟨rfl, hb2⟩; obtain ⟨i0, i1, i2, i3, i4, lI2⟩ := ins_block ((hb2.block _ l1).trans KI1.out)) | (go_at_call 11; refine (HVA.out _ hb2).mono ?_; rintro e W3 ⟨rfl, hb3⟩) | (refine wpList_load_mid rfl _ _ rfl _ _ rfl (cellsR r) _ rg1 Tryd.underlying27 rfl (hi3 R.out.len) ?_))
   go_meet
   exact ⟨rfl, hb2.trans (hb3.mono hb2.size)⟩
 case rest =>
  obtain ⟨rfl, hbc⟩ := hcut
  obtain ⟨W4, hW4⟩ : ∃ W4 : World, W4 = wc := ⟨_, rfl⟩
  subst hW4
  have HBC := Lib.hid hbc
  have HB4 := Lib.hid (HB1.out.trans (hbc.mono HB1.out.size))
  rcases vl with _ | _
  ·simp only [Bool.not_false]
   go_wp2_with fail
   go_ret
   exact ⟨rfl, HB4.out⟩
  simp only [Bool.not_true]
  obtain ⟨b0, b1, b2, b3, b4, l4⟩ := ins_block ((hbc.block _ l1).trans KI1.out)
  have rg4 := (KR1.out.keep hbc).range
  have KI4 := Lib.hid ((hbc.block _ l1).trans KI1.out)
  have KR4 := Lib.hid (KR1.out.keep hbc)
  have HCO := Lib.hid (HCN.out W4 hbc)
  clear hbc hop HCN rg1
  obtain ⟨hia, hib, hic, him⟩ := valid_in (i := ⟨op, ia, ib, ic, im⟩) h0 HVL.out
  simp only at hia
  obtain ⟨an, rfl⟩ : ∃ an : Nat, ia = (an : Int) := ⟨ia.toNat, by omega⟩
  have han : an < 16 := by omega
  clear hia hib hic him
  obtain ⟨st, hst⟩ : ∃ f : Nat → St, (fun c => (⟨0, conR r ol 16, .slice (some ⟨c + 1 + 1 + 1, 0, none⟩) 8 8, false, -1⟩ : St)) = f := ⟨_, rfl⟩
  have hs1 : ∀ c, (st c).r = conR r ol 16 := fun c => by rw [← hst]
  have hs2 : ∀ c, (⟨0, conR r ol 16, .slice (some ⟨c + 1 + 1 + 1, 0, none⟩) 8 8, false, -1⟩ : St) = st c := fun c => by rw [← hst]
  have hsl : ∀ c, (st c).r.length = 16 := fun c => by rw [hs1]; exact conR_len _ _ _
  have hsz : ∀ c, (st c).cells.size = 20 := fun c => by rw [← Array.length_toList]; exact st_cells_len (hsl c)
  have hsi : ∀ c, (Tryd.prog.info? 34).map (·.size) = some (st c).cells.size := fun c => by rw [hsz]; kernel_rfl
  have hso : ∀ c, (st c).cells.all (·.oneCell') = true := fun c => by
   rw [← hs2]
   simp [St.cells, Value.oneCell']
  have hcs : ∀ c, (#[.int .i64 0, .int .i32 0, .int .i32 0, .int .i32 0, .int .i32 0, .int .i32 0, .int .i32 0, .int .i32 0, .int .i32 0, .int .i32 0, .int .i32 0, .int .i32 0, .int .i32 0, .int .i32 0, .int .i32 0, .int .i32 0, .int .i32 0, .slice none 0 0, .bool false, .int .i64 0] : Array Value).size = (st c).cells.size := fun c => by rw [hsz]; rfl
  simp only [hs2] at HCO
  have HS1 := Lib.hid hs1
  have HSL := Lib.hid hsl
  have HSZ := Lib.hid hsz
  have HSI := Lib.hid hsi
  have HSO := Lib.hid hso
  have HCS := Lib.hid hcs
  clear hst hs1 hs2 hsl hsz hsi hso hcs
  go_upto_region 6 with (first | (refine wpList_load_mid rfl _ _ rfl _ _ rfl (cellsR r) _ rg4 Tryd.underlying27 rfl (hi3 R.out.len) ?_) | (go_at_call 12; refine HCO.out.mono ?_; rintro e W5 ⟨c, rfl, hb5, hc, hcode, hent, hdat⟩) | (refine wpList_store_row rfl 34 (.tmp 7) (.tmp 36) rfl W5.heap.size (st c).cells rfl rfl 34 _ (two_lo _ _ _ _ _) (HSI.out c) (HCS.out c) (HSO.out c) ?_) | (refine wpList_store_row rfl 38 (.tmp 8) (.tmp 37) rfl (W5.heap.size + 1) #[.slice (some ⟨c, 0, none⟩) 1 1, .slice (some ⟨c + 1, 0, none⟩) 1 1, .int .i64 4, .int .i64 4] rfl rfl 38 _ (two_hi _ _ _ _ _ _) (by kernel_rfl) rfl (by simp [Value.oneCell']) ?_))
  obtain ⟨sb, hsb⟩ : ∃ q, W5.heap.size = q := ⟨_, rfl⟩
  obtain ⟨X, hX⟩ : ∃ X, ((((W5.alloc (.cells #[.int .i64 0, .int .i32 0, .int .i32 0, .int .i32 0, .int .i32 0, .int .i32 0, .int .i32 0, .int .i32 0, .int .i32 0, .int .i32 0, .int .i32 0, .int .i32 0, .int .i32 0, .int .i32 0, .int .i32 0, .int .i32 0, .int .i32 0, .slice none 0 0, .bool false, .int .i64 0] 34)).alloc (.cells #[.slice none 0 0, .slice none 0 0, .int .i64 0, .int .i64 0] 38)).setRow W5.heap.size (st c).cells).setRow (W5.heap.size + 1) #[.slice (some ⟨c, 0, none⟩) 1 1, .slice (some ⟨c + 1, 0, none⟩) 1 1, .int .i64 4, .int .i64 4]) = X := ⟨_, rfl⟩
  rw [hX, hsb]
  have kX : X.heap[sb]? = some (.cells (st c).cells 34 (0, 0)) := by
   rw [← hX, ← hsb, setRow_other _ _ _ _ (by omega)]
   exact setRow_heap _ _ _ _ _ _ (two_lo _ _ _ _ _)
  have b5X : Below W5.heap.size W5 X := by
   rw [← hX]
   exact below_setRow (below_setRow (((Below.refl _ _).alloc (Nat.le_refl _) _).alloc (by simp) _) (Nat.le_refl _) _) (by omega) _
  have b4X : Below W4.heap.size W4 X := hb5.trans (b5X.mono hb5.size)
  have HBX := Lib.hid (HB4.out.trans (b4X.mono HB4.out.size))
  have hM : Mach X sb (st c) := ⟨kX, HSL.out c, by rw [HS1.out]; exact conR_wd R.out HPR.out ol 16⟩
  obtain ⟨i0, i1, i2, i3, i4, lX⟩ := ins_block ((b4X.block _ l4).trans KI4.out)
  have KRX := Lib.hid (KR4.out.keep b4X)
  have KIX := Lib.hid ((b4X.block _ l4).trans KI4.out)
  have cR := hM.reg han
  have lsb := hM.lt
  obtain ⟨x, hx⟩ : ∃ x, (st c).r.getD an 0 = x := ⟨_, rfl⟩
  rw [hx] at cR
  obtain ⟨z, hz⟩ : ∃ z, decide (x = 0) = z := ⟨_, rfl⟩
  obtain ⟨q, hq⟩ : ∃ q, decide (op = 22) = q := ⟨_, rfl⟩
  have hz2 : (x == 0) = z := hz
  have hq2 : (op == 22) = q := hq
  have dk2 : decide ((16 : Int) ≤ (an : Int)) = false := decide_eq_false (by omega)
  have dk3 : (an : Int) < 16 := by omega
  have HMX := Lib.hid hM
  obtain ⟨a, ha, hin⟩ := ref_in (i := ⟨op, an, ib, ic, im⟩) (v := conR r ol 16) h0 (conR_len _ _ _) R.out HPR.out HOP.out HVL.out (conR_in HPR.out ol)
  have hgx : (conR r ol 16).getD an 0 = x := by rw [← hx, HS1.out]
  simp only [Int.toNat_natCast] at ha
  simp only [hgx, hz, hq] at ha
  have A16 := Lib.hid (refR_16 R.out ha)
  have HRF := Lib.hid (fun (W : World) (hW : Below w.heap.size w W) => by
   have := refine_any op an ib ic im h0 r R.out (z == q) W (HTB.out.below hW)
   rw [ha] at this
   exact this)
  have HIN := Lib.hid (fun (W : World) => by
   have := inside_any (st c) (HSL.out c) (by rw [HS1.out]; exact conR_wd R.out HPR.out ol 16) a A16.out.len W
   rw [show insB (st c).r a = true by rw [HS1.out]; exact insB_iff.2 hin] at this
   exact this)
  unfold outR at HRF
  clear hX hsb kX b5X b4X hb5 hM hc hcode hent hdat hx ha hin hgx hz hq HCO rg4 i2 i3 i4 b0 b1 b2 b3 b4
  go_quiet (fail)
  obtain ⟨Y, hY⟩ : ∃ Y, X.drewN nq = Y := ⟨_, rfl⟩
  rw [hY]
  have bY : Below X.heap.size X Y := hY ▸ drewN_below _ _
  have rgY := (KRX.out.keep bY).range
  obtain ⟨i0', i1', i2', i3', i4', lY⟩ := ins_block ((bY.block _ lX).trans KIX.out)
  have HBY := Lib.hid (HBX.out.trans (bY.mono HBX.out.size))
  have HMY := Lib.hid (HMX.out.keep (bY.block _ lsb))
  clear hY bY i0 i1 cR hz2 hq2
  go_upto_region 8 with (first | (refine wpList_load_mid rfl _ _ rfl _ _ rfl (cellsR r) _ rgY Tryd.underlying27 rfl (hi3 R.out.len) ?_) | (go_at_call 13; refine (HRF.out _ HBY.out).mono ?_; rintro e W7 ⟨rfl, hb7⟩) | (refine wpList_store_row rfl 27 (.tmp 10) (.tmp 53) rfl W7.heap.size (cellsR a).toArray rfl rfl 27 _ (heap_alloc_new _ _) (hi4 A16.out.len) (hi6 A16.out.len zero16) (cellsR_one a) ?_))
  obtain ⟨b10, hb10⟩ : ∃ b, W7.heap.size = b := ⟨_, rfl⟩
  obtain ⟨E, hE⟩ : ∃ E, (W7.alloc (.cells #[.int .i32 0, .int .i32 0, .int .i32 0, .int .i32 0, .int .i32 0, .int .i32 0, .int .i32 0, .int .i32 0, .int .i32 0, .int .i32 0, .int .i32 0, .int .i32 0, .int .i32 0, .int .i32 0, .int .i32 0, .int .i32 0, .int .i32 0, .int .i32 0, .int .i32 0, .int .i32 0, .int .i32 0, .int .i32 0, .int .i32 0, .int .i32 0, .int .i32 0, .int .i32 0, .int .i32 0, .int .i32 0, .int .i32 0, .int .i32 0, .int .i32 0, .int .i32 0] 27)).setRow W7.heap.size (cellsR a).toArray = E := ⟨_, rfl⟩
  rw [hE, hb10]
  have bE : Below W7.heap.size W7 E := hE ▸ below_setRow ((Below.refl _ _).alloc (Nat.le_refl _) _) (Nat.le_refl _) _
  have kE : RBox E b10 27 a := by rw [← hb10, ← hE]; exact RBox.row (z := zeroR) (heap_alloc_new _ _)
  have bYE : Below Y.heap.size Y E := hb7.trans (bE.mono hb7.size)
  have hME := HMY.out.keep (bYE.block _ HMY.out.lt)
  have rgS : E.rangeAt sb 0 (st c).cells.toList := rangeAt_block hME.blk
  have rgA := kE.range
  have HBE := Lib.hid (HBY.out.trans (bYE.mono HBY.out.size))
  have hiS : (Tryd.prog.info? 34).map (·.size) = some (st c).cells.toList.length := by rw [HSI.out c, Array.length_toList]
  clear hE hb10 bE kE bYE hb7 hME rgY
  go_wp2_with (first | (refine wpList_load_midG (by first | rfl | kernel_rfl) _ _ rfl _ _ rfl (st c).cells.toList _ rgS Tryd.underlying34 rfl hiS ?_) | (refine wpList_load_midG (by first | rfl | kernel_rfl) _ _ rfl _ _ rfl (cellsR a) _ rgA Tryd.underlying27 rfl (hi3 A16.out.len) ?_) | (go_at_call 14; refine (HIN.out _).mono ?_; rintro e W8 ⟨rfl, hb8⟩))
  go_ret
  exact ⟨rfl, HBE.out.trans (hb8.mono HBE.out.size)⟩

end Go.Proofs.YtebklpnkcicpjaaDoor


