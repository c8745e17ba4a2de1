/-
 What is proved here: what ValueSteps returns.
-/
import Derived.Test.YtebklpnkcicpjaaDoorRlOu
import Derived.Test.YtebklpnkcicpjaaDoorRlSs
import Derived.Test.YtebklpnkcicpjaaDoorRbKc
import Derived.BigQuiet
import Derived.BigRegion
namespace Go.Proofs.YtebklpnkcicpjaaDoor
open Go.RowKit
set_option linter.unusedVariables false
set_option linter.unusedSimpArgs false

theorem word_port {w : World} {b : Nat} {x : Int} (hx : W32 x) (h : w.heap[b]? = some (.cells #[.int .i32 x] 21 (0, 0))) :
  Port w (.func (.func 27) #[] #[.pointer (some ⟨b, 0, none⟩)]) (fun _ => False) (fun _ => True) := by
 refine ⟨fun k hk => hk.elim, fun _ _ _ _ _ _ => trivial, .inr ⟨_, _, rfl, fun _ _ => by kernel_rfl, fun _ => by kernel_rfl, fun q W hW => ?_⟩⟩
 have hc : W.cell? ⟨b, 0, none⟩ = some (.int .i32 x) := by
  have := (hW.block b (lt_of_blk' h)).trans h
  simp [World.cell?, this]
 go_enter Tryd.func27, Tryd.ntmps27
 go_wp2
 go_ret
 exact ⟨x, hx, rfl, Fr.refl _ _, trivial⟩
theorem zeros8_own {w : World} {b : Nat} (h : w.heap[b]? = some (.cells #[.int .i32 0, .int .i32 0, .int .i32 0, .int .i32 0, .int .i32 0, .int .i32 0, .int .i32 0, .int .i32 0] 21 (0, 0))) :
  w.ownsRow 0 21 1 (.slice (some ⟨b, 0, none⟩) 8 8) 8 (i32s [0, 0, 0, 0, 0, 0, 0, 0]) :=
 ⟨rfl, .inr ⟨b, 8, _, rfl, Nat.zero_le _, h, Nat.le_refl _, by decide, rfl, rfl⟩⟩
theorem words4_own {w : World} {b : Nat} {x : Int} (h : w.heap[b]? = some (.cells #[.int .i32 x, .int .i32 x, .int .i32 x, .int .i32 x] 21 (0, 0))) :
  w.ownsRow 0 21 1 (.slice (some ⟨b, 0, none⟩) 4 4) 4 (i32s [x, x, x, x]) :=
 ⟨rfl, .inr ⟨b, 4, _, rfl, Nat.zero_le _, h, Nat.le_refl _, by decide, rfl, rfl⟩⟩
set_option maxRecDepth 100000 in
set_option maxHeartbeats 16000000 in
theorem vsteps_any (AZ : AnlSpec) (op ia ib ic im : Int) (h0 : 0 ≤ op) (r : RG) (hr : R16 r) (ov : Value) (ol : List Int) (wd : Int) (hwd : W32 wd) (w : World) (T : Tab w) (OT : OpTab w) (HO : Wds w ov ol) :
  Calls Tryd.prog 7 #[.agg #[.int .u8 op, .int .i64 ia, .int .i64 ib, .int .i64 ic, .int .i64 im], .agg (cellsR r).toArray, ov, .int .i32 wd] w fun e w' => e = .returned (.bool true) ∧ Below w.heap.size w w' := by
 obtain ⟨V, hV, k0, k1, k2, bV, sV⟩ := three_new w #[.int .u8 op, .int .i64 ia, .int .i64 ib, .int .i64 ic, .int .i64 im] (cellsR r).toArray #[.int .i32 wd] 23 27 21
 obtain ⟨a0, a1, a2, a3, a4, l0⟩ := ins_block k0
 have KI := Lib.hid k0
 have KR := Lib.hid (show RBox V (w.heap.size + 1) 27 r from k1)
 have KW := Lib.hid k2
 have HAW := Lib.hid (vawake_any AZ V (T.below bV))
 have HTV := Lib.hid (T.below bV)
 have HOTV := Lib.hid (OT.below bV)
 have HOV := Lib.hid (HO.below bV)
 have BV := Lib.hid bV
 have R := Lib.hid hr
 have HWD := Lib.hid hwd
 clear k0 k1 k2 bV hr T OT HO hwd
 go_enter Tryd.func7, Tryd.ntmps7
 go_upto_region 3 with (go_at_call 9; refine HAW.out.mono ?_; rintro e W1 ⟨rfl, hb1⟩)
 have HBr := Lib.hid (fun W => bad_any r R.out.len W)
 have HIB := Lib.hid (fun W => isBranch_any op W)
 obtain ⟨pr, hpr⟩ : ∃ p, properR r = p := ⟨_, rfl⟩
 rw [hpr] at HBr
 have HPR := Lib.hid hpr
 obtain ⟨br, hbr⟩ : ∃ p, isBr op = p := ⟨_, rfl⟩
 rw [hbr] at HIB
 have HBRN := Lib.hid hbr
 obtain ⟨vl, hvl⟩ : ∃ p, validI ⟨op, ia, ib, ic, im⟩ = p := ⟨_, rfl⟩
 have HV1 := Lib.hid hb1
 have HT1 := Lib.hid (HTV.out.below hb1)
 have HVA := Lib.hid (show ∀ W, Below W1.heap.size W1 W → Calls Tryd.prog 11 #[.agg #[.int .u8 op, .int .i64 ia, .int .i64 ib, .int .i64 ic, .int .i64 im]] W fun e w' => e = .returned (.bool vl) ∧ Below W.heap.size W w' from fun W hW => by
  have := valid_any ⟨op, ia, ib, ic, im⟩ h0 W (HT1.out.below hW)
  rw [hvl] at this
  exact this)
 have HVL := Lib.hid hvl
 have KI1 := Lib.hid ((hb1.block _ l0).trans KI.out)
 have KR1 := Lib.hid (KR.out.keep hb1)
 have rg1 := KR1.out.range
 obtain ⟨b0, b1, b2, b3, b4, l1⟩ := ins_block KI1.out
 have lV1 := hb1.size
 clear hpr hvl hbr hV hb1 a0 a1 a2 a3 a4
 rcases pr with _ | _
 ·simp only [Bool.not_false] at HBr
  go_wp2_with (first | (go_at_call 10; refine (HBr.out _).mono ?_; rintro e W2 ⟨rfl, hb2⟩; obtain ⟨i0, i1, i2, i3, i4, lI2⟩ := ins_block ((hb2.block _ l1).trans KI1.out)) | (go_at_call 11; refine (HVA.out _ hb2).mono ?_; rintro e W3 ⟨rfl, hb3⟩; obtain ⟨j0, j1, j2, j3, j4, lI3⟩ := ins_block ((hb3.block _ lI2).trans ((hb2.block _ l1).trans KI1.out))) | (go_at_call 22; refine (HIB.out _).mono ?_; rintro e W9 ⟨rfl, rfl⟩) | (refine wpList_load_mid rfl _ _ rfl _ _ rfl (cellsR r) _ rg1 Tryd.underlying27 rfl (hi3 R.out.len) ?_))
  go_ret
  exact ⟨rfl, BV.out.trans ((HV1.out.trans (hb2.mono lV1)).mono BV.out.size)⟩
 simp only [Bool.not_true] at HBr
 rcases vl with _ | _
 ·go_wp2_with (first | (go_at_call 10; refine (HBr.out _).mono ?_; rintro e W2 ⟨rfl, hb2⟩; obtain ⟨i0, i1, i2, i3, i4, lI2⟩ := ins_block ((hb2.block _ l1).trans KI1.out)) | (go_at_call 11; refine (HVA.out _ hb2).mono ?_; rintro e W3 ⟨rfl, hb3⟩; obtain ⟨j0, j1, j2, j3, j4, lI3⟩ := ins_block ((hb3.block _ lI2).trans ((hb2.block _ l1).trans KI1.out))) | (go_at_call 22; refine (HIB.out _).mono ?_; rintro e W9 ⟨rfl, rfl⟩) | (refine wpList_load_mid rfl _ _ rfl _ _ rfl (cellsR r) _ rg1 Tryd.underlying27 rfl (hi3 R.out.len) ?_))
  go_ret
  exact ⟨rfl, BV.out.trans ((HV1.out.trans ((hb2.trans (hb3.mono hb2.size)).mono lV1)).mono BV.out.size)⟩
 rcases br with _ | _
 rotate_left
 ·go_wp2_with (first | (go_at_call 10; refine (HBr.out _).mono ?_; rintro e W2 ⟨rfl, hb2⟩; obtain ⟨i0, i1, i2, i3, i4, lI2⟩ := ins_block ((hb2.block _ l1).trans KI1.out)) | (go_at_call 11; refine (HVA.out _ hb2).mono ?_; rintro e W3 ⟨rfl, hb3⟩; obtain ⟨j0, j1, j2, j3, j4, lI3⟩ := ins_block ((hb3.block _ lI2).trans ((hb2.block _ l1).trans KI1.out))) | (go_at_call 22; refine (HIB.out _).mono ?_; rintro e W9 ⟨rfl, rfl⟩) | (refine wpList_load_mid rfl _ _ rfl _ _ rfl (cellsR r) _ rg1 Tryd.underlying27 rfl (hi3 R.out.len) ?_))
  go_ret
  exact ⟨rfl, BV.out.trans ((HV1.out.trans ((hb2.trans (hb3.mono hb2.size)).mono lV1)).mono BV.out.size)⟩
 go_upto_region 5 with (first | (go_at_call 10; refine (HBr.out _).mono ?_; rintro e W2 ⟨rfl, hb2⟩; obtain ⟨i0, i1, i2, i3, i4, lI2⟩ := ins_block ((hb2.block _ l1).trans KI1.out)) | (go_at_call 11; refine (HVA.out _ hb2).mono ?_; rintro e W3 ⟨rfl, hb3⟩; obtain ⟨j0, j1, j2, j3, j4, lI3⟩ := ins_block ((hb3.block _ lI2).trans ((hb2.block _ l1).trans KI1.out))) | (go_at_call 22; refine (HIB.out _).mono ?_; rintro e W9 ⟨rfl, rfl⟩) | (refine wpList_load_mid rfl _ _ rfl _ _ rfl (cellsR r) _ rg1 Tryd.underlying27 rfl (hi3 R.out.len) ?_))
 obtain ⟨W4, hW4⟩ : ∃ W4 : World, W4 = W3 := ⟨_, rfl⟩
 subst hW4
 have HV4 := Lib.hid (HV1.out.trans ((hb2.trans (hb3.mono hb2.size)).mono lV1))
 clear b0 b1 b2 b3 b4 i0 i1 i2 i3 i4 j0 j1 j2 j3 j4 rg1 lI2 lI3 l1 hb2 hb3 lV1 HBr HVA HIB HAW
 obtain ⟨b0, b1, b2, b3, b4, l4⟩ := ins_block ((HV4.out.block _ l0).trans KI.out)
 have rg4 := (KR.out.keep HV4.out).range
 have HCO := Lib.hid (concrete_any op ia ib ic im h0 r R.out HPR.out ov ol W4 (HTV.out.below HV4.out) (HOV.out.below HV4.out))
 unfold ConPost at HCO
 obtain ⟨st, hst⟩ : ∃ f : Nat → St, (fun c => (⟨0, conR r ol 16, .slice (some ⟨c + 1 + 1 + 1, 0, none⟩) 8 8, false, -1⟩ : St)) = f := ⟨_, rfl⟩
 have hs1 : ∀ c, (st c).r = conR r ol 16 := fun c => by rw [← hst]
 have hs2 : ∀ c, (⟨0, conR r ol 16, .slice (some ⟨c + 1 + 1 + 1, 0, none⟩) 8 8, false, -1⟩ : St) = st c := fun c => by rw [← hst]
 have hsl : ∀ c, (st c).r.length = 16 := fun c => by rw [hs1]; exact conR_len _ _ _
 have hsz : ∀ c, (st c).cells.size = 20 := fun c => by rw [← Array.length_toList]; exact st_cells_len (hsl c)
 have hsi : ∀ c, (Tryd.prog.info? 34).map (·.size) = some (st c).cells.size := fun c => by rw [hsz]; kernel_rfl
 have hso : ∀ c, (st c).cells.all (·.oneCell') = true := fun c => by
  rw [← hs2]
  simp [St.cells, Value.oneCell']
 have hcs : ∀ c, (#[.int .i64 0, .int .i32 0, .int .i32 0, .int .i32 0, .int .i32 0, .int .i32 0, .int .i32 0, .int .i32 0, .int .i32 0, .int .i32 0, .int .i32 0, .int .i32 0, .int .i32 0, .int .i32 0, .int .i32 0, .int .i32 0, .int .i32 0, .slice none 0 0, .bool false, .int .i64 0] : Array Value).size = (st c).cells.size := fun c => by rw [hsz]; rfl
 simp only [hs2] at HCO
 have HS2 := Lib.hid hs2
 have HS1 := Lib.hid hs1
 have HSL := Lib.hid hsl
 have HSZ := Lib.hid hsz
 have HSI := Lib.hid hsi
 have HSO := Lib.hid hso
 have HCS := Lib.hid hcs
 clear hst hs1 hs2 hsl hsz hsi hso hcs
 go_upto_region 6 with (first | (refine wpList_load_mid rfl _ _ rfl _ _ rfl (cellsR r) _ rg4 Tryd.underlying27 rfl (hi3 R.out.len) ?_) | (go_at_call 12; refine HCO.out.mono ?_; rintro e W5 ⟨c, rfl, hb5, hc, hcode, hent, hdat⟩) | (refine wpList_store_row rfl 34 (.tmp 9) (.tmp 37) rfl W5.heap.size (st c).cells rfl rfl 34 _ (two_lo _ _ _ _ _) (HSI.out c) (HCS.out c) (HSO.out c) ?_) | (refine wpList_store_row rfl 38 (.tmp 10) (.tmp 38) rfl (W5.heap.size + 1) #[.slice (some ⟨c, 0, none⟩) 1 1, .slice (some ⟨c + 1, 0, none⟩) 1 1, .int .i64 4, .int .i64 4] rfl rfl 38 _ (two_hi _ _ _ _ _ _) (by kernel_rfl) rfl (by simp [Value.oneCell']) ?_))
 obtain ⟨sb, hsb⟩ : ∃ q, W5.heap.size = q := ⟨_, rfl⟩
 obtain ⟨X, hX⟩ : ∃ X, ((((W5.alloc (.cells #[.int .i64 0, .int .i32 0, .int .i32 0, .int .i32 0, .int .i32 0, .int .i32 0, .int .i32 0, .int .i32 0, .int .i32 0, .int .i32 0, .int .i32 0, .int .i32 0, .int .i32 0, .int .i32 0, .int .i32 0, .int .i32 0, .int .i32 0, .slice none 0 0, .bool false, .int .i64 0] 34)).alloc (.cells #[.slice none 0 0, .slice none 0 0, .int .i64 0, .int .i64 0] 38)).setRow W5.heap.size (st c).cells).setRow (W5.heap.size + 1) #[.slice (some ⟨c, 0, none⟩) 1 1, .slice (some ⟨c + 1, 0, none⟩) 1 1, .int .i64 4, .int .i64 4]) = X := ⟨_, rfl⟩
 rw [hX, hsb]
 have kX : X.heap[sb]? = some (.cells (st c).cells 34 (0, 0)) := by
  rw [← hX, ← hsb, setRow_other _ _ _ _ (by omega)]
  exact setRow_heap _ _ _ _ _ _ (two_lo _ _ _ _ _)
 have kM : X.heap[sb + 1]? = some (.cells #[.slice (some ⟨c, 0, none⟩) 1 1, .slice (some ⟨c + 1, 0, none⟩) 1 1, .int .i64 4, .int .i64 4] 38 (0, 0)) := by
  rw [← hX, ← hsb]
  exact setRow_heap _ _ _ _ _ _ (two_hi _ _ _ _ _ _)
 have b5X : Below W5.heap.size W5 X := by
  rw [← hX]
  exact below_setRow (below_setRow (((Below.refl _ _).alloc (Nat.le_refl _) _).alloc (by simp) _) (Nat.le_refl _) _) (by omega) _
 have b4X : Below W4.heap.size W4 X := hb5.trans (b5X.mono hb5.size)
 have HVX := Lib.hid (HV4.out.trans (b4X.mono HV4.out.size))
 have hsV : V.heap.size ≤ c := by have := HV4.out.size; omega
 have hcs : c + 1 + 1 + 1 < sb := by rw [← hsb]; exact lt_of_blk' hdat
 have HM := Lib.hid (show Mach X sb (st c) from ⟨kX, HSL.out c, by rw [HS1.out]; exact conR_wd R.out HPR.out ol 16⟩)
 have KM := Lib.hid kM
 have KC := Lib.hid ((b5X.block c (lt_of_blk' hcode)).trans hcode)
 have KE := Lib.hid ((b5X.block (c + 1) (lt_of_blk' hent)).trans hent)
 have KD := Lib.hid ((b5X.block (c + 1 + 1 + 1) (lt_of_blk' hdat)).trans hdat)
 have rgS : X.rangeAt sb 0 (st c).cells.toList := rangeAt_block kX
 have hiS : (Tryd.prog.info? 34).map (·.size) = some (st c).cells.toList.length := by rw [HSI.out c, Array.length_toList]
 have HIS := Lib.hid hiS
 have HSV := Lib.hid hsV
 have HCB := Lib.hid hcs
 have lsb := HM.out.lt
 have ls1 : sb + 1 < X.heap.size := lt_of_blk' kM
 clear hX hsb kX kM b5X b4X hb5 hc hcode hent hdat HCO rg4 b0 b1 b2 b3 b4 hsV hcs l4
 go_upto_region 7 with (first | (refine wpList_load_midG (by first | rfl | kernel_rfl) _ _ rfl _ _ rfl (st c).cells.toList _ rgS Tryd.underlying34 rfl HIS.out ?_) | (refine wpList_store_row rfl 34 (.tmp 11) (.tmp 39) rfl X.heap.size (st c).cells rfl rfl 34 _ (heap_alloc_new _ _) (HSI.out c) (HCS.out c) (HSO.out c) ?_))
 obtain ⟨b11, hb11⟩ : ∃ b, X.heap.size = b := ⟨_, rfl⟩
 obtain ⟨Y, hY⟩ : ∃ Y, (X.alloc (.cells #[.int .i64 0, .int .i32 0, .int .i32 0, .int .i32 0, .int .i32 0, .int .i32 0, .int .i32 0, .int .i32 0, .int .i32 0, .int .i32 0, .int .i32 0, .int .i32 0, .int .i32 0, .int .i32 0, .int .i32 0, .int .i32 0, .int .i32 0, .slice none 0 0, .bool false, .int .i64 0] 34)).setRow X.heap.size (st c).cells = Y := ⟨_, rfl⟩
 rw [hY, hb11]
 have bY : Below X.heap.size X Y := hY ▸ below_setRow ((Below.refl _ _).alloc (Nat.le_refl _) _) (Nat.le_refl _) _
 have kY : Y.heap[b11]? = some (.cells (st c).cells 34 (0, 0)) := by rw [← hb11, ← hY]; exact setRow_heap _ _ _ _ _ _ (heap_alloc_new _ _)
 have rgB : Y.rangeAt b11 0 (st c).cells.toList := rangeAt_block kY
 have HVY := Lib.hid (HVX.out.trans (bY.mono HVX.out.size))
 have BY := Lib.hid bY
 have rgY := (KR.out.keep HVY.out).range
 have HIN := Lib.hid (fun (W : World) => by
  have := inside_any (st c) (HSL.out c) (by rw [HS1.out]; exact conR_wd R.out HPR.out ol 16) r R.out.len W
  rw [show insB (st c).r r = true by rw [HS1.out]; exact insB_iff.2 (conR_in HPR.out ol)] at this
  exact this)
 clear hY hb11 bY kY rgS hiS
 go_upto_region 9 with (first | (refine wpList_load_midG (by first | rfl | kernel_rfl) _ _ rfl _ _ rfl (st c).cells.toList _ rgB Tryd.underlying34 rfl HIS.out ?_) | (refine wpList_load_mid rfl _ _ rfl _ _ rfl (cellsR r) _ rgY Tryd.underlying27 rfl (hi3 R.out.len) ?_) | (go_at_call 14; refine (HIN.out _).mono ?_; rintro e W7 ⟨rfl, hb7⟩))
 have bX7 : Below X.heap.size X W7 := BY.out.trans (hb7.mono BY.out.size)
 have HV7 := Lib.hid (HVX.out.trans (bX7.mono HVX.out.size))
 have HM7 := Lib.hid (HM.out.keep (bX7.block _ lsb))
 have KM7 := Lib.hid ((bX7.block _ ls1).trans KM.out)
 have KC7 := Lib.hid ((bX7.block _ (lt_of_blk' KC.out)).trans KC.out)
 have KE7 := Lib.hid ((bX7.block _ (lt_of_blk' KE.out)).trans KE.out)
 have HD7 := Lib.hid (zeros8_own ((bX7.block _ (lt_of_blk' KD.out)).trans KD.out))
 have KW7 := Lib.hid ((HV7.out.block _ (lt_of_blk' KW.out)).trans KW.out)
 obtain ⟨dc, hdc⟩ : ∃ d, c + 1 + 1 + 1 = d := ⟨_, rfl⟩
 have hstd : (st c).d = .slice (some ⟨dc, 0, none⟩) 8 8 := by rw [← HS2.out, ← hdc]
 have m17 := HM7.out.dat
 rw [hstd] at m17
 rw [hdc] at HD7
 have HSTD := Lib.hid hstd
 have HDC := Lib.hid (show V.heap.size ≤ dc ∧ c + 1 < dc ∧ dc < sb by have := HSV.out; have := HCB.out; omega)
 have lsb7 := HM7.out.lt
 have lw7 : w.heap.size + 1 + 1 < W7.heap.size := lt_of_blk' KW7.out
 clear bX7 hb7 rgB rgY BY HIN HM KM KC KE KD hdc hstd
 go_upto_region 10 with fail
 go_loopw [47] (fun a47 wr => ∃ (k : Nat) (dl : List Int), k ≤ 8 ∧ a47 = .int .i64 (k : Int) ∧ dl.length = 8 ∧ (∀ x ∈ dl, W32 x) ∧ wr.ownsRow 0 21 1 (.slice (some ⟨dc, 0, none⟩) 8 8) 8 (i32s dl) ∧ Fr (· = dc) W7 wr) (fun a47 _ => 8 - (intOf a47).toNat)
 case atStart => exact ⟨0, [0, 0, 0, 0, 0, 0, 0, 0], by omega, rfl, rfl, fun x hx => by simp at hx; subst hx; unfold W32; omega, HD7.out, Fr.refl _ _⟩
 case round =>
  obtain ⟨k, dl, hk, rfl, hdl, hdw, hro, hfr⟩ := hrel
  have HDL := Lib.hid hdl
  have HDW := Lib.hid hdw
  have HRO := Lib.hid hro
  have HF := Lib.hid hfr
  have hsz := hfr.size
  have hne : sb ≠ dc := by have := HDC.out; omega
  have hne2 : w.heap.size + 1 + 1 ≠ dc := by have := HDC.out; have := lt_of_blk' KW.out; omega
  have m17w := (hfr.cell 17 lsb7 hne).trans m17
  have kww := (hfr.block _ lw7 hne2).trans KW7.out
  have mw : wr.cell? ⟨w.heap.size + 1 + 1, 0, none⟩ = some (.int .i32 wd) := by simp [World.cell?, kww]
  have lsbw : sb < wr.heap.size := by omega
  have lww : w.heap.size + 1 + 1 < wr.heap.size := by omega
  have ldc : dc < wr.heap.size := (hro.lt dc rfl).2
  clear hdl hdw hro hfr hne hne2 kww
  by_cases hlt : k < 8
  ·have dl1 : decide ((k : Int) < 8) = true := decide_eq_true (by omega)
   have dk2 : decide ((8 : Int) ≤ (k : Int)) = false := decide_eq_false (by omega)
   have dk3 : (k : Int) < 8 := by omega
   have c1 := row_at HRO.out k hlt
   have c2 : wr.frozen? ⟨dc, k, none⟩ = false := HRO.out.frozenAt k
   go_wp2_with fail
   try go_region
   all_goals
    go_wp2_with fail
    go_roundw
    case rel =>
     refine ⟨k + 1, dl.set k wd, by omega, by go_num, by rw [List.length_set]; exact HDL.out, fun x hx => ?_, ?_, ?_⟩
     ·rcases List.mem_or_eq_of_mem_set hx with h | rfl
      ·exact HDW.out x h
      ·exact HWD.out
     ·exact row_store HRO.out k wd
     ·first
       | exact HF.out.set _ (.inl rfl)
       | exact (HF.out.set _ (.inl rfl)).drew
       | exact HF.out.drew.set _ (.inl rfl)
    case measure => simp [intOf]; omega
  ·have dl1 : decide ((k : Int) < 8) = false := decide_eq_false (by omega)
   obtain ⟨Z, hZ⟩ : ∃ Z : World, Z = wr := ⟨_, rfl⟩
   subst hZ
   go_upto_region 14 with fail
   clear m17w
   go_upto_region 15 with fail
   obtain ⟨b13, hb13⟩ : ∃ b, Z.heap.size = b := ⟨_, rfl⟩
   obtain ⟨E, hE⟩ : ∃ E, Z.alloc (.cells #[.int .i32 wd, .int .i32 wd, .int .i32 wd, .int .i32 wd] 21) = E := ⟨_, rfl⟩
   rw [hE, hb13]
   have bE : Below Z.heap.size Z E := hE ▸ (Below.refl _ _).alloc (Nat.le_refl _) _
   have kE : E.heap[b13]? = some (.cells #[.int .i32 wd, .int .i32 wd, .int .i32 wd, .int .i32 wd] 21 (0, 0)) := by rw [← hb13, ← hE]; exact heap_alloc_new _ _
   have h7E : Fr (· = dc) W7 E := HF.out.trans (Fr.of bE)
   have hVdc : ∀ q, q = dc → V.heap.size ≤ q := fun q hq => by have := HDC.out; omega
   have HVE := Lib.hid (HV7.out.trans (h7E.below (B := V.heap.size) HV7.out.size hVdc))
   have hME := HM7.out.keep (h7E.block sb lsb7 (by have := HDC.out; omega))
   have hcB := HCB.out
   have hdC := HDC.out
   have kME := (h7E.block (sb + 1) (lt_of_blk' KM7.out) (by omega)).trans KM7.out
   have kCE := (h7E.block c (lt_of_blk' KC7.out) (by omega)).trans KC7.out
   have kEE := (h7E.block (c + 1) (lt_of_blk' KE7.out) (by omega)).trans KE7.out
   have kWE := (HVE.out.block _ (lt_of_blk' KW.out)).trans KW.out
   have hdb : dc < b13 := by rw [← hb13]; exact ldc
   have hsb2 : sb < b13 := by rw [← hb13]; exact lsbw
   obtain ⟨kk, hgk⟩ := (validI_iff (i := ⟨op, ia, ib, ic, im⟩) h0).1 HVL.out
   obtain ⟨cd, hcd⟩ : ∃ f : Nat → Int, (fun _ => (encI ⟨op, ia, ib, ic, im⟩).1) = f := ⟨_, rfl⟩
   have hcd0 : ∀ i, cd i = numI ⟨op, ia, ib, ic, im⟩ := fun i => by rw [← hcd]; show (encI ⟨op, ia, ib, ic, im⟩).1 = _; rw [hgk.enc]
   rw [hgk.enc] at kCE
   have hWE : WordsN E (.slice (some ⟨c, 0, none⟩) 1 1) 1 cd := ⟨fun i _ => by rw [hcd0]; exact hgk.num_in, some ⟨c, 0, none⟩, 1, rfl, Nat.le_refl _, by decide, fun _ => ⟨c, 0, rfl, lt_of_blk' kCE, fun i hi => by
    obtain rfl : i = 0 := by omega
    rw [hcd0]
    simp [World.cell?, kCE]⟩⟩
   have hEE : Ents E (.slice (some ⟨c + 1, 0, none⟩) 1 1) [⟨⟨#[116, 97]⟩, 0, 1, 8⟩] := ⟨fun e he => by simp at he; subst he; decide, some ⟨c + 1, 0, none⟩, 1, rfl, Nat.le_refl _, by decide, fun _ => ⟨c + 1, 0, rfl, lt_of_blk' kEE, fun i e he => by
    have hi : i = 0 := by
     have := (List.getElem?_eq_some_iff.1 he).1
     simp at this; omega
    subst hi
    simp at he
    subst he
    refine ⟨?_, ?_, ?_, ?_⟩ <;> simp [World.cell?, kEE]⟩⟩
   have hrE := Fr.own (S := fun _ => False) (Fr.of bE) HRO.out (fun _ _ h => h)
   have hJE : Job E sb (st c) dl (.slice (some ⟨b13, 0, none⟩) 4 4) [wd, wd, wd, wd] :=
    ⟨hME, by rw [HSTD.out, HDL.out]; exact hrE, words4_own kE, fun q hq h9 => by rw [HSTD.out] at hq; simp only [Value.ownBlock, Option.some.injEq] at hq h9; omega, HDW.out, fun x hx => by simp at hx; subst hx; exact HWD.out, by rw [HDL.out]; omega, by simp⟩
   have hpo := word_port HWD.out kWE
   have hpc : (st c).pc = 0 := by rw [← HS2.out]
   have hins : insAt cd (st c).pc = ⟨op, ia, ib, ic, im⟩ := by
    unfold insAt
    rw [hpc, hcd0, hgk.dec]
   have HSP := Lib.hid (show Calls Tryd.prog 26 #[.agg #[.slice (some ⟨c, 0, none⟩) 1 1, .slice (some ⟨c + 1, 0, none⟩) 1 1, .int .i64 4, .int .i64 4], .int .i64 0, .pointer (some ⟨sb, 0, none⟩), .slice (some ⟨b13, 0, none⟩) 4 4, .func (.func 27) #[] #[.pointer (some ⟨w.heap.size + 1 + 1, 0, none⟩)]] E (StepPost E sb cd ⟨⟨#[116, 97]⟩, 0, 1, 8⟩ 4 (st c) dl (.slice (some ⟨b13, 0, none⟩) 4 4) [wd, wd, wd, wd] (fun _ => False) (fun _ => True)) from
    step_any (.slice (some ⟨c, 0, none⟩) 1 1) (.slice (some ⟨c + 1, 0, none⟩) 1 1) 4 4 1 cd [⟨⟨#[116, 97]⟩, 0, 1, 8⟩] 0 ⟨⟨#[116, 97]⟩, 0, 1, 8⟩ sb (st c) dl (.slice (some ⟨b13, 0, none⟩) 4 4) [wd, wd, wd, wd] _ (fun _ => False) (fun _ => True) E (HTV.out.below HVE.out) (HOTV.out.below HVE.out) hWE (by omega) hEE rfl hJE hpo (fun _ _ h => h))
   unfold StepPost at HSP
   have i0 : E.cell? ⟨sb + 1, 0, none⟩ = some (.slice (some ⟨c, 0, none⟩) 1 1) := by simp [World.cell?, kME]
   have i1 : E.cell? ⟨sb + 1, 1, none⟩ = some (.slice (some ⟨c + 1, 0, none⟩) 1 1) := by simp [World.cell?, kME]
   have i2 : E.cell? ⟨sb + 1, 2, none⟩ = some (.int .i64 4) := by simp [World.cell?, kME]
   have i3 : E.cell? ⟨sb + 1, 3, none⟩ = some (.int .i64 4) := by simp [World.cell?, kME]
   have liE : sb + 1 < E.heap.size := lt_of_blk' kME
   have HJB := Lib.hid (show ∀ q, Jb sb (st c).d (.slice (some ⟨b13, 0, none⟩) 4 4) q → V.heap.size ≤ q from fun q hq => by
    have h1 := HV7.out.size
    rcases hq with rfl | e | e
    ·omega
    ·rw [HSTD.out] at e; simp only [Value.ownBlock, Option.some.injEq] at e; omega
    ·simp only [Value.ownBlock, Option.some.injEq] at e; omega)
   have HINS := Lib.hid hins
   clear hE hb13 bE kE h7E hVdc hME hcB hdC kME kCE kEE kWE hdb hsb2 hcd hcd0 hgk hWE hEE hrE hJE hpo hpc hins m17 mw
   go_upto_region 16 with (first | (go_at_call 26; refine HSP.out.mono ?_; rintro e' W5 (⟨er, hne, rfl, hb5⟩ | ⟨nx, tk, ad, vl, s', dl', sl', -, hl1, hl2, hdz, hok, -, rfl, hJ', hfr, -⟩)) | (refine wpList_store_row rfl 80 (.tmp 14) (.tmp 66) rfl W5.heap.size #[.int .u8 0, .int .i64 0, .int .i64 0, .int .i64 0, .int .i64 0, .int .i64 0, .bool false, .int .i64 0, .int .i32 0] rfl rfl 80 _ (heap_alloc_new _ _) (by kernel_rfl) rfl (by simp [Value.oneCell']) ?_) | (refine wpList_store_row rfl 80 (.tmp 14) (.tmp 66) rfl W5.heap.size (effL (insAt cd (st c).pc) (st c).pc tk ad vl).toArray rfl rfl 80 _ (heap_alloc_new _ _) (by kernel_rfl) rfl (by simp [effL, Value.oneCell']) ?_))
   case _ =>
    have gz : (er != 0) = true := by simpa using hne
    rw [World.setRow_alloc_new]
    go_wp2_with fail
    go_ret
    exact ⟨rfl, (BV.out.trans ((HVE.out.trans (hb5.mono HVE.out.size)).mono BV.out.size)).alloc (by have := hb5.size; have := HVE.out.size; have := BV.out.size; omega) _⟩
   case _ =>
    rw [World.setRow_alloc_new]
    obtain ⟨W6, hW6⟩ : ∃ W6, W5.alloc (.cells (effL (insAt cd (st c).pc) (st c).pc tk ad vl).toArray 80) = W6 := ⟨_, rfl⟩
    have b6 : Below W5.heap.size W5 W6 := hW6 ▸ (Below.refl _ _).alloc (Nat.le_refl _) _
    rw [hW6]
    clear hW6
    have hVW5 : Below V.heap.size E W5 := hfr.below HVE.out.size (fun q hq => by
     rcases hq with hq | hq
     ·exact HJB.out q hq
     ·exact hq.elim)
    have HV6 := Lib.hid (HVE.out.trans (hVW5.trans (b6.mono (by have := HVE.out.size; have := hVW5.size; omega))))
    rw [HINS.out] at hok
    obtain ⟨a, hta, hina⟩ := step_in h0 HVL.out HPR.out R.out (HSL.out c) (by rw [HS1.out]; exact conR_in HPR.out ol) HDW.out (fun x hx => by simp at hx; subst hx; exact HWD.out) hok
    obtain ⟨s2, hs2⟩ : ∃ s2 : St, ({ s' with pc := nx } : St) = s2 := ⟨_, rfl⟩
    have hr2 : s2.r = s'.r := by rw [← hs2]
    rw [hs2] at hJ'
    have HM6 := Lib.hid (hJ'.m.keep (b6.block sb hJ'.m.lt))
    have A16 := Lib.hid (transR_16 h0 R.out hta)
    have HTR := Lib.hid (fun (W : World) (hW : Below V.heap.size V W) => by
     have := transfer_any op ia ib ic im h0 r R.out W (HTV.out.below hW)
     rw [hta] at this
     exact this)
    unfold outR at HTR
    have HIN2 := Lib.hid (fun (W : World) => by
     have := inside_any s2 HM6.out.len HM6.out.wd a A16.out.len W
     rw [show insB s2.r a = true by rw [hr2]; exact insB_iff.2 hina] at this
     exact this)
    obtain ⟨j0, j1, j2, j3, j4, l6⟩ := ins_block ((HV6.out.block _ l0).trans KI.out)
    have rg6 := (KR.out.keep HV6.out).range
    have HSI2 := Lib.hid (show (Tryd.prog.info? 34).map (·.size) = some s2.cells.toList.length by rw [st_cells_len HM6.out.len]; kernel_rfl)
    clear hJ' hfr b6 hVW5 hok hta hina hs2 hr2 hl1 hl2 hdz i0 i1 i2 i3 liE HSP
    go_upto_region 19 with (first | (refine wpList_load_mid rfl _ _ rfl _ _ rfl (cellsR r) _ rg6 Tryd.underlying27 rfl (hi3 R.out.len) ?_) | (go_at_call 20; refine (HTR.out _ HV6.out).mono ?_; rintro e W9 ⟨rfl, hb9⟩) | (refine wpList_store_row rfl 27 (.tmp 16) (.tmp 74) rfl W9.heap.size (cellsR a).toArray rfl rfl 27 _ (heap_alloc_new _ _) (hi4 A16.out.len) (hi6 A16.out.len zero16) (cellsR_one a) ?_))
    obtain ⟨b16, hb16⟩ : ∃ b, W9.heap.size = b := ⟨_, rfl⟩
    obtain ⟨Q, hQ⟩ : ∃ Q, (W9.alloc (.cells #[.int .i32 0, .int .i32 0, .int .i32 0, .int .i32 0, .int .i32 0, .int .i32 0, .int .i32 0, .int .i32 0, .int .i32 0, .int .i32 0, .int .i32 0, .int .i32 0, .int .i32 0, .int .i32 0, .int .i32 0, .int .i32 0, .int .i32 0, .int .i32 0, .int .i32 0, .int .i32 0, .int .i32 0, .int .i32 0, .int .i32 0, .int .i32 0, .int .i32 0, .int .i32 0, .int .i32 0, .int .i32 0, .int .i32 0, .int .i32 0, .int .i32 0, .int .i32 0] 27)).setRow W9.heap.size (cellsR a).toArray = Q := ⟨_, rfl⟩
    rw [hQ, hb16]
    have bQ : Below W9.heap.size W9 Q := hQ ▸ below_setRow ((Below.refl _ _).alloc (Nat.le_refl _) _) (Nat.le_refl _) _
    have kQ : RBox Q b16 27 a := by rw [← hb16, ← hQ]; exact RBox.row (z := zeroR) (heap_alloc_new _ _)
    have b6Q : Below W6.heap.size W6 Q := hb9.trans (bQ.mono hb9.size)
    have HVQ := Lib.hid (HV6.out.trans (b6Q.mono HV6.out.size))
    have HMQ := Lib.hid (HM6.out.keep (b6Q.block _ HM6.out.lt))
    have rgS2 : Q.rangeAt sb 0 s2.cells.toList := rangeAt_block HMQ.out.blk
    have rgA := kQ.range
    clear hQ hb16 bQ kQ b6Q hb9 rg6 j0 j1 j2 j3 j4 l6
    go_wp2_with (first | (refine wpList_load_midG (by first | rfl | kernel_rfl) _ _ rfl _ _ rfl s2.cells.toList _ rgS2 Tryd.underlying34 rfl HSI2.out ?_) | (refine wpList_load_midG (by first | rfl | kernel_rfl) _ _ rfl _ _ rfl (cellsR a) _ rgA Tryd.underlying27 rfl (hi3 A16.out.len) ?_) | (go_at_call 14; refine (HIN2.out _).mono ?_; rintro e W8 ⟨rfl, hb8⟩))
    go_ret
    exact ⟨rfl, BV.out.trans ((HVQ.out.trans (hb8.mono HVQ.out.size)).mono BV.out.size)⟩

end Go.Proofs.YtebklpnkcicpjaaDoor


