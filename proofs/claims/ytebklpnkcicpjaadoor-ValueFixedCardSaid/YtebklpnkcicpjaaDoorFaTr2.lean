/-
 What is proved here: what Transfer returns, at the instructions that are no arithmetic.
-/
import Derived.Test.YtebklpnkcicpjaaDoorFaTr
import Derived.Test.YtebklpnkcicpjaaDoorFbIa
namespace Go.Proofs.YtebklpnkcicpjaaDoor
open Go.RowKit
set_option linter.unusedVariables false
set_option linter.unusedSimpArgs false

def bndR (r : RG) (a im : Int) : Option RG := if emp (meetI (rg r a) (0, im - 1)) = true then none else some (setRg r a (meetI (rg r a) (0, im - 1)))
theorem cut_one {W0 wx : World} {g : Nat} {a b : Value} (k : Keeps W0 wx) (h1 : wx.cell? ⟨g, 0, none⟩ = some a) (h2 : wx.cell? ⟨g, 1, none⟩ = some b) (h5 : g < wx.heap.size) :
  ∃ (g' : Nat) (v : Ext W0), Value.pointer (some ⟨g, 0, none⟩) = .pointer (some ⟨g', 0, none⟩) ∧ wx = v.w ∧ v.w.cell? ⟨g', 0, none⟩ = some a ∧ v.w.cell? ⟨g', 1, none⟩ = some b ∧ g' < v.w.heap.size := ⟨g, ⟨wx, k⟩, rfl, rfl, h1, h2, h5⟩
theorem apply_lit (k bl bh cl ch : Int) (hb : W32 bl ∧ W32 bh) (hc : W32 cl ∧ W32 ch) : ∃ xa xb, applyI k (bl, bh) (cl, ch) = (xa, xb) ∧ ∀ w, Calls Tryd.prog 47 #[.int .u8 k, .agg #[.int .i32 bl, .int .i32 bh], .agg #[.int .i32 cl, .int .i32 ch]] w fun e w' => e = .returned (.agg #[.int .i32 xa, .int .i32 xb]) ∧ Below w.heap.size w w' :=
 ⟨_, _, rfl, fun w => apply_any k bl bh cl ch w hb.1.1 hb.1.2 hb.2.1 hb.2.2 hc.1.1 hc.1.2 hc.2.1 hc.2.2⟩

set_option maxRecDepth 100000 in
set_option maxHeartbeats 20000000 in
theorem transfer_yes (op : Int) (an bn cn : Nat) (im : Int) (ha : an < 16) (hb : bn < 16) (hc : cn < 16) (him : -131072 ≤ im ∧ im ≤ 131071) (h0 : 0 ≤ op) (h30 : op < 30) (r : RG) (hr : R16 r) (w : World) (T : Tab w) (hv : validI ⟨op, an, bn, cn, im⟩ = true) (hp : properR r = true) :
  Calls Tryd.prog 20 #[.agg #[.int .u8 op, .int .i64 (an : Int), .int .i64 (bn : Int), .int .i64 (cn : Int), .int .i64 im], .agg (cellsR r).toArray] w fun e w' => e = .returned (outR (transR ⟨op, an, bn, cn, im⟩ r)) ∧ Below w.heap.size w w' := by
 have HTZ := Lib.hid (fun (o1 : 2 ≤ op ∧ op ≤ 13) (hz : (op = 5 ∨ op = 6) ∧ rg r (cn : Int) = (0, 0)) => show transR ⟨op, an, bn, cn, im⟩ r = none by unfold transR; rw [if_pos ⟨hv, hp⟩, if_pos o1, if_pos hz])
 have HTA := Lib.hid (fun (o1 : 2 ≤ op ∧ op ≤ 13) (hz : ¬ ((op = 5 ∨ op = 6) ∧ rg r (cn : Int) = (0, 0))) => show transR ⟨op, an, bn, cn, im⟩ r = some (setRg r (an : Int) (applyI (opN op) (rg r (bn : Int)) (rg r (cn : Int)))) by unfold transR; rw [if_pos ⟨hv, hp⟩, if_pos o1, if_neg hz])
 have HTU := Lib.hid (fun (o1 : ¬ (2 ≤ op ∧ op ≤ 13)) => show transR ⟨op, an, bn, cn, im⟩ r = (if op = 14 then some (setRg r an (im, im)) else if op = 15 then some (setRg r an (applyI 6 (rg r bn) (im, im))) else if op = 16 then some (setRg r an (applyI 14 (rg r bn) (im, im)))
   else if op = 17 then some (setRg r an (applyI 12 (rg r bn) (im, im))) else if op = 18 ∨ op = 20 ∨ op = 26 then some (setRg r an fullI) else if op = 25 then bndR r an im else some r) by
  unfold transR bndR
  rw [if_pos ⟨hv, hp⟩, if_neg o1])
 obtain ⟨O, hO⟩ : ∃ O, transR ⟨op, an, bn, cn, im⟩ r = O := ⟨_, rfl⟩
 rw [hO] at HTZ HTA HTU ⊢
 clear hO
 obtain ⟨V, hV, k0, k1, k2, bV, sV⟩ := three_new w #[.int .u8 op, .int .i64 (an : Int), .int .i64 (bn : Int), .int .i64 (cn : Int), .int .i64 im] (cellsR r).toArray #[.int .i32 0, .int .i32 0, .int .i32 0, .int .i32 0, .int .i32 0, .int .i32 0, .int .i32 0, .int .i32 0, .int .i32 0, .int .i32 0, .int .i32 0, .int .i32 0, .int .i32 0, .int .i32 0, .int .i32 0, .int .i32 0, .int .i32 0, .int .i32 0, .int .i32 0, .int .i32 0, .int .i32 0, .int .i32 0, .int .i32 0, .int .i32 0, .int .i32 0, .int .i32 0, .int .i32 0, .int .i32 0, .int .i32 0, .int .i32 0, .int .i32 0, .int .i32 0] 23 27 27
 obtain ⟨a0, a1, a2, a3, a4, lV⟩ := ins_block k0
 have K1 := Lib.hid (show RBox V (w.heap.size + 1) 27 r from k1)
 have HI27 := Lib.hid (show (Tryd.prog.info? 27).map (·.size) = some (cellsR r).length by rw [cellsR_len, hr.len]; kernel_rfl)
 have K2 := Lib.hid k2
 have BV := Lib.hid bV
 have HVA := Lib.hid (Calls.ext (valid_any ⟨op, an, bn, cn, im⟩ h0 V (T.below bV)))
 have HPR := Lib.hid (fun x : Ext V => Calls.extq (x := x) (proper_any r hr.len x.w))
 clear k0 k1 k2 bV
 go_enter Tryd.func20, Tryd.ntmps20
 go_upto_region 1 with fail
 clear hV
 rw [hv] at HVA
 rw [hp] at HPR
 have wim : IntKind.i32.wrap im = im := IntWalk.i32_in _ (by omega)
 go_upto_region 4 with (first | (go_at_call 11; refine HVA.out.mono ?_; rintro e w' ⟨rfl, y, rfl⟩) | (go_at_call 35; refine (HPR.out _).mono ?_; rintro e w' ⟨rfl, z, rfl⟩) | (refine wpList_load_midG (by first | rfl | kernel_rfl) _ _ rfl _ _ rfl (cellsR r) _ (K1.out.keep (Ext.h _)).range Tryd.underlying27 rfl HI27.out ?_) | (go_at_call 37; refine (Calls.extq (of_any im _)).mono ?_; rintro e w' ⟨rfl, q, rfl⟩))
 obtain ⟨cb, hcb⟩ : ∃ cb, q.w.heap.size = cb := ⟨_, rfl⟩
 obtain ⟨U, hU⟩ : ∃ U, q.w.alloc (.cells #[.int .i32 im, .int .i32 im] 25) = U := ⟨_, rfl⟩
 have bU : Below V.heap.size V U := hU ▸ q.h.alloc q.h.size _
 have kC : U.heap[q.w.heap.size]? = some (.cells #[.int .i32 im, .int .i32 im] 25 (0, 0)) := hU ▸ heap_alloc_new _ _
 rw [hU]
 rw [hcb] at kC ⊢
 have g0 : U.cell? ⟨cb, 0, none⟩ = some (.int .i32 im) := cell_of_row _ _ _ _ _ _ kC
 have g1 : U.cell? ⟨cb, 1, none⟩ = some (.int .i32 im) := cell_of_row _ _ _ _ _ _ kC
 have lC : cb < U.heap.size := (Array.getElem?_eq_some_iff.1 kC).1
 have u0 : U.cell? ⟨w.heap.size, 0, none⟩ = some (.int .u8 op) := by rw [bU.cell (p := ⟨w.heap.size, 0, none⟩) lV]; exact a0
 have u1 : U.cell? ⟨w.heap.size, 1, none⟩ = some (.int .i64 (an : Int)) := by rw [bU.cell (p := ⟨w.heap.size, 1, none⟩) lV]; exact a1
 have u2 : U.cell? ⟨w.heap.size, 2, none⟩ = some (.int .i64 (bn : Int)) := by rw [bU.cell (p := ⟨w.heap.size, 2, none⟩) lV]; exact a2
 have u3 : U.cell? ⟨w.heap.size, 3, none⟩ = some (.int .i64 (cn : Int)) := by rw [bU.cell (p := ⟨w.heap.size, 3, none⟩) lV]; exact a3
 have u4 : U.cell? ⟨w.heap.size, 4, none⟩ = some (.int .i64 im) := by rw [bU.cell (p := ⟨w.heap.size, 4, none⟩) lV]; exact a4
 have UK1 := Lib.hid (K1.out.keep bU)
 have UK2 := Lib.hid ((bU.block _ sV).trans K2.out)
 have sU := bU.size
 have BU := Lib.hid (BV.out.trans (bU.mono BV.out.size))
 obtain ⟨bl, hbl⟩ : ∃ bl, (rg r (bn : Int)).1 = bl := ⟨_, rfl⟩
 obtain ⟨bh, hbh⟩ : ∃ bh, (rg r (bn : Int)).2 = bh := ⟨_, rfl⟩
 obtain ⟨cl, hcl⟩ : ∃ cl, (rg r (cn : Int)).1 = cl := ⟨_, rfl⟩
 obtain ⟨ch, hch⟩ : ∃ ch, (rg r (cn : Int)).2 = ch := ⟨_, rfl⟩
 obtain ⟨al, hal⟩ : ∃ al, (rg r (an : Int)).1 = al := ⟨_, rfl⟩
 obtain ⟨ah, hah⟩ : ∃ ah, (rg r (an : Int)).2 = ah := ⟨_, rfl⟩
 have r0 : U.cell? ⟨w.heap.size + 1, bn * 2, none⟩ = some (.int .i32 bl) := by rw [← hbl]; exact UK1.out.lo (by rw [hr.len]; exact hb)
 have r1 : U.cell? ⟨w.heap.size + 1, bn * 2 + 1, none⟩ = some (.int .i32 bh) := by rw [← hbh]; exact UK1.out.hi (by rw [hr.len]; exact hb)
 have r2 : U.cell? ⟨w.heap.size + 1, cn * 2, none⟩ = some (.int .i32 cl) := by rw [← hcl]; exact UK1.out.lo (by rw [hr.len]; exact hc)
 have r3 : U.cell? ⟨w.heap.size + 1, cn * 2 + 1, none⟩ = some (.int .i32 ch) := by rw [← hch]; exact UK1.out.hi (by rw [hr.len]; exact hc)
 have r4 : U.cell? ⟨w.heap.size + 1, an * 2, none⟩ = some (.int .i32 al) := by rw [← hal]; exact UK1.out.lo (by rw [hr.len]; exact ha)
 have r5 : U.cell? ⟨w.heap.size + 1, an * 2 + 1, none⟩ = some (.int .i32 ah) := by rw [← hah]; exact UK1.out.hi (by rw [hr.len]; exact ha)
 have HB2 := Lib.hid (show rg r (bn : Int) = (bl, bh) from Prod.ext hbl hbh)
 have HC2 := Lib.hid (show rg r (cn : Int) = (cl, ch) from Prod.ext hcl hch)
 have HA2 := Lib.hid (show rg r (an : Int) = (al, ah) from Prod.ext hal hah)
 have ia : (an : Int) < 16 := by omega
 have ib : (bn : Int) < 16 := by omega
 have ic : (cn : Int) < 16 := by omega
 have lR : w.heap.size + 1 < U.heap.size := by omega
 have lI : w.heap.size < U.heap.size := by omega
 have lO : w.heap.size + 1 + 1 < U.heap.size := by omega
 have rf0 : U.frozen? ⟨w.heap.size + 1, an * 2, none⟩ = false := UK1.out.fz _
 have rf1 : U.frozen? ⟨w.heap.size + 1, an * 2 + 1, none⟩ = false := UK1.out.fz _
 have hbw : W32 bl ∧ W32 bh := by have h := hr.at_ (bn : Int); rw [HB2.out] at h; exact h
 have hcw : W32 cl ∧ W32 ch := by have h := hr.at_ (cn : Int); rw [HC2.out] at h; exact h
 have haw : W32 al ∧ W32 ah := by have h := hr.at_ (an : Int); rw [HA2.out] at h; exact h
 clear hcb hU bU kC a0 a1 a2 a3 a4 hbl hbh hcl hch hal hah HVA HPR K1 K2 wim hv
 have HP := Lib.hid hp
 clear hp
 have hC : (op = 0 ∨ op = 1 ∨ op = 19 ∨ op = 21 ∨ op = 22 ∨ op = 23 ∨ op = 24 ∨ op = 27 ∨ op = 28 ∨ op = 29) ∨ ((2 ≤ op ∧ op ≤ 13) ∧ (op = 5 ∨ op = 6) ∧ rg r (cn : Int) = (0, 0)) ∨ ((2 ≤ op ∧ op ≤ 13) ∧ ¬ ((op = 5 ∨ op = 6) ∧ rg r (cn : Int) = (0, 0)) ∧ (op = 5 ∨ op = 6)) ∨ ((2 ≤ op ∧ op ≤ 13) ∧ ¬ ((op = 5 ∨ op = 6) ∧ rg r (cn : Int) = (0, 0)) ∧ ¬ (op = 5 ∨ op = 6)) ∨ op = 14 ∨ op = 15 ∨ op = 16 ∨ op = 17 ∨ (op = 18 ∨ op = 20 ∨ op = 26) ∨ op = 25 := by
  by_cases hz : rg r (cn : Int) = (0, 0)
  ·simp only [hz, and_true]; omega
  ·simp only [hz, and_false, not_false_eq_true, true_and]; omega
 rcases hC with h | ⟨o1, hz⟩ | ⟨o1, hz, h5⟩ | ⟨o1, hz, h5⟩ | h | h | h | h | h | h
 focus
  have HTR0 := HTU.out (by omega)
  rw [if_neg (by omega), if_neg (by omega), if_neg (by omega), if_neg (by omega), if_neg (by omega), if_neg (by omega)] at HTR0
  have HTR := Lib.hid HTR0
  clear HTR0
  rcases h with rfl | rfl | rfl | rfl | rfl | rfl | rfl | rfl | rfl | rfl
  all_goals
   go_upto_region 23 with fail
   obtain ⟨Y, hY⟩ : ∃ Y, U = Y := ⟨_, rfl⟩
   obtain ⟨rs, hrs⟩ : ∃ rs, r = rs := ⟨_, rfl⟩
   have lrs : rs.length = 16 := by rw [← hrs]; exact hr.len
   have kY : RBox Y (w.heap.size + 1) 27 rs := by rw [← hY, ← hrs]; exact UK1.out
   have kO : Y.heap[w.heap.size + 1 + 1]? = some (.cells #[.int .i32 0, .int .i32 0, .int .i32 0, .int .i32 0, .int .i32 0, .int .i32 0, .int .i32 0, .int .i32 0, .int .i32 0, .int .i32 0, .int .i32 0, .int .i32 0, .int .i32 0, .int .i32 0, .int .i32 0, .int .i32 0, .int .i32 0, .int .i32 0, .int .i32 0, .int .i32 0, .int .i32 0, .int .i32 0, .int .i32 0, .int .i32 0, .int .i32 0, .int .i32 0, .int .i32 0, .int .i32 0, .int .i32 0, .int .i32 0, .int .i32 0, .int .i32 0] 27 (0, 0)) := by rw [← hY]; exact UK2.out
   have bY : Below w.heap.size w Y := by rw [← hY]; exact BU.out
   have HRF := Lib.hid (show ∀ r3, rs.set 0 (0, 0) = r3 → O = some r3 from fun r3 h => by rw [HTR.out, ← h, ← hrs, set_zero0 hr.len (proper_zero HP.out)])
   clear hrs
 rotate_left 10
 focus
  have EZ : ∀ w : World, (binOp .eql 25 (.agg #[.int .i32 cl, .int .i32 ch]) (.agg #[.int .i32 0, .int .i32 0])).run Tryd.prog w = .ok (.bool true) w := fun w => by
   rw [eq_iv]
   have h := HC2.out
   rw [hz.2] at h
   simp only [Prod.mk.injEq] at h
   rw [← h.1, ← h.2]
   rfl
  have HTR := Lib.hid (HTZ.out o1 hz)
  obtain ⟨hop, -⟩ := hz
  rcases hop with rfl | rfl
  all_goals
   go_upto_region 5 with fail
   refine wp_region_ext (by kernel_rfl) (by kernel_rfl) ?_
   repeat (go_big_quiet_step (first | (go_at_call 37; exact Calls.extq (of_any 0 _))))
   refine wpQuiet_nil ?_
   rintro _ ⟨x, rfl⟩
   go_wp2_with (first | (refine wpList_store_row rfl 27 (.tmp 4) (.tmp 46) rfl (w.heap.size + 1 + 1) #[.int .i32 0, .int .i32 0, .int .i32 0, .int .i32 0, .int .i32 0, .int .i32 0, .int .i32 0, .int .i32 0, .int .i32 0, .int .i32 0, .int .i32 0, .int .i32 0, .int .i32 0, .int .i32 0, .int .i32 0, .int .i32 0, .int .i32 0, .int .i32 0, .int .i32 0, .int .i32 0, .int .i32 0, .int .i32 0, .int .i32 0, .int .i32 0, .int .i32 0, .int .i32 0, .int .i32 0, .int .i32 0, .int .i32 0, .int .i32 0, .int .i32 0, .int .i32 0] rfl rfl 27 _ (((Ext.h _).block _ lO).trans UK2.out) (by kernel_rfl) rfl (by simp [Value.oneCell']) ?_))
   refine bodyPost_ret (results_cell_tmp (P := Tryd.prog) Tryd.results20 _ _ (w.heap.size + 1 + 1) [.int .i32 0, .int .i32 0, .int .i32 0, .int .i32 0, .int .i32 0, .int .i32 0, .int .i32 0, .int .i32 0, .int .i32 0, .int .i32 0, .int .i32 0, .int .i32 0, .int .i32 0, .int .i32 0, .int .i32 0, .int .i32 0, .int .i32 0, .int .i32 0, .int .i32 0, .int .i32 0, .int .i32 0, .int .i32 0, .int .i32 0, .int .i32 0, .int .i32 0, .int .i32 0, .int .i32 0, .int .i32 0, .int .i32 0, .int .i32 0, .int .i32 0, .int .i32 0] _ rfl (rangeAt_block (setRow_heap _ _ _ _ _ _ ((x.h.block _ lO).trans UK2.out))) Tryd.underlying27 rfl (by kernel_rfl)) rfl ⟨by rw [HTR.out]; rfl, below_setRow (BU.out.trans (x.h.mono BU.out.size)) (by omega) _⟩
 focus
  have d1 : decide (2 ≤ op) = true := decide_eq_true o1.1
  have d2 : decide (op ≤ 13) = true := decide_eq_true o1.2
  have HOP := Lib.hid (operator_any op o1.1 o1.2)
  have HTA2 := HTA.out o1 hz
  have HZ := Lib.hid hz
  have hap := fun w => apply_any (opN op) bl bh cl ch w (hbw).1.1 hbw.1.2 hbw.2.1 hbw.2.2 hcw.1.1 hcw.1.2 hcw.2.1 hcw.2.2
  obtain ⟨xa, hxa⟩ : ∃ xa, (applyI (opN op) (bl, bh) (cl, ch)).1 = xa := ⟨_, rfl⟩
  obtain ⟨xb, hxb⟩ : ∃ xb, (applyI (opN op) (bl, bh) (cl, ch)).2 = xb := ⟨_, rfl⟩
  rw [hxa, hxb] at hap
  have HAP := Lib.hid hap
  rw [HB2.out, HC2.out, show applyI (opN op) (bl, bh) (cl, ch) = (xa, xb) from Prod.ext hxa hxb] at HTA2
  have HTR := Lib.hid HTA2
  clear hz hap hxa hxb hbw hcw HTA2
  have EZ : ∀ w : World, (binOp .eql 25 (.agg #[.int .i32 cl, .int .i32 ch]) (.agg #[.int .i32 0, .int .i32 0])).run Tryd.prog w = .ok (.bool false) w := fun w => by
   rw [eq_iv, show (cl == 0 && ch == 0) = false by
    rw [Bool.eq_false_iff]
    intro h
    rw [Bool.and_eq_true, beq_iff_eq, beq_iff_eq] at h
    exact HZ.out ⟨h5, by rw [HC2.out, h.1, h.2]⟩]
  clear HZ
  rcases h5 with rfl | rfl
  all_goals
   go_upto_region 5 with fail
   refine wp_region_ext (by kernel_rfl) (by kernel_rfl) ?_
   repeat (go_big_quiet_step (first | (go_at_call 37; exact Calls.extq (of_any 0 _))))
   refine wpQuiet_nil ?_
   rintro _ ⟨x, rfl⟩
   go_upto_region 7 with fail
   refine wp_region_extq_tail 15 (by kernel_rfl) (by kernel_rfl) ?_
   simp only [List.take_succ_cons, List.take_zero, List.drop_succ_cons, List.drop_zero]
   repeat (go_big_quiet_step (first | (go_at_call 48; exact Calls.extq_same (HOP.out _)) | (go_at_call 47; exact Calls.extq (HAP.out _))))
   refine wpQuiet_nil ?_
   rintro _ ⟨x1, rfl⟩
   go_upto_region 23 with fail
   obtain ⟨W1, hW1⟩ : ∃ W1, x1.w = W1 := ⟨_, rfl⟩
   have BW1 := Lib.hid (show Below U.heap.size U W1 from hW1 ▸ x1.h)
   rw [hW1]
   clear hW1
 rotate_left 2
 focus
  have d1 : decide (2 ≤ op) = true := decide_eq_true o1.1
  have d2 : decide (op ≤ 13) = true := decide_eq_true o1.2
  have HOP := Lib.hid (operator_any op o1.1 o1.2)
  have HTA2 := HTA.out o1 hz
  have HZ := Lib.hid hz
  have hap := fun w => apply_any (opN op) bl bh cl ch w (hbw).1.1 hbw.1.2 hbw.2.1 hbw.2.2 hcw.1.1 hcw.1.2 hcw.2.1 hcw.2.2
  obtain ⟨xa, hxa⟩ : ∃ xa, (applyI (opN op) (bl, bh) (cl, ch)).1 = xa := ⟨_, rfl⟩
  obtain ⟨xb, hxb⟩ : ∃ xb, (applyI (opN op) (bl, bh) (cl, ch)).2 = xb := ⟨_, rfl⟩
  rw [hxa, hxb] at hap
  have HAP := Lib.hid hap
  rw [HB2.out, HC2.out, show applyI (opN op) (bl, bh) (cl, ch) = (xa, xb) from Prod.ext hxa hxb] at HTA2
  have HTR := Lib.hid HTA2
  clear hz hap hxa hxb hbw hcw HTA2
  have e5 : (op == 5) = false := by rw [Bool.eq_false_iff]; intro h; exact h5 (.inl (by simpa using h))
  have e6 : (op == 6) = false := by rw [Bool.eq_false_iff]; intro h; exact h5 (.inr (by simpa using h))
  clear h5
  go_upto_region 5 with fail
  refine wp_region_ext (by kernel_rfl) (by kernel_rfl) ?_
  repeat (go_big_quiet_step (fail))
  refine wpQuiet_nil ?_
  rintro _ ⟨x, rfl⟩
  go_upto_region 7 with fail
  refine wp_region_extq_tail 15 (by kernel_rfl) (by kernel_rfl) ?_
  simp only [List.take_succ_cons, List.take_zero, List.drop_succ_cons, List.drop_zero]
  repeat (go_big_quiet_step (first | (go_at_call 48; exact Calls.extq_same (HOP.out _)) | (go_at_call 47; exact Calls.extq (HAP.out _))))
  refine wpQuiet_nil ?_
  rintro _ ⟨x1, rfl⟩
  go_upto_region 23 with fail
  obtain ⟨W1, hW1⟩ : ∃ W1, x1.w = W1 := ⟨_, rfl⟩
  have BW1 := Lib.hid (show Below U.heap.size U W1 from hW1 ▸ x1.h)
  rw [hW1]
  clear hW1
 rotate_left 1
 focus
  have HTR0 := HTU.out (by omega)
  rw [if_pos h] at HTR0
  subst h
  obtain ⟨xa, hxa⟩ : ∃ x, im = x := ⟨_, rfl⟩
  obtain ⟨xb, hxb⟩ : ∃ x, xa = x := ⟨_, rfl⟩
  rw [show ((im, im) : Int × Int) = (xa, xb) by rw [← hxb, ← hxa]] at HTR0
  have HTR := Lib.hid HTR0
  rw [hxa] at g0
  rw [hxa, hxb] at g1
  clear HTR0 hxa hxb
  go_upto_region 23 with fail
  obtain ⟨W1, hW1⟩ : ∃ W1, U = W1 := ⟨_, rfl⟩
  have BW1 := Lib.hid (show Below U.heap.size U W1 from hW1 ▸ (Below.refl U.heap.size U))
  rw [hW1]
  clear hW1
 rotate_left 1
 focus
  have HTR0 := HTU.out (by omega)
  rw [if_neg (by omega), if_pos h] at HTR0
  subst h
  obtain ⟨xa, xb, hx, hap⟩ := apply_lit 6 bl bh im im hbw (by unfold W32; omega)
  have HAP := Lib.hid hap
  rw [HB2.out, hx] at HTR0
  have HTR := Lib.hid HTR0
  clear hap hx hbw hcw HTR0
  go_upto_region 11 with fail
  refine wp_region_ext_tail 9 (by kernel_rfl) (by kernel_rfl) ?_
  simp only [List.take_succ_cons, List.take_zero, List.drop_succ_cons, List.drop_zero]
  repeat (go_big_quiet_step (first | (go_at_call 47; exact Calls.extq (HAP.out _))))
  refine wpQuiet_nil ?_
  rintro _ ⟨x1, rfl⟩
  go_upto_region 23 with fail
  obtain ⟨W1, hW1⟩ : ∃ W1, x1.w = W1 := ⟨_, rfl⟩
  have BW1 := Lib.hid (show Below U.heap.size U W1 from hW1 ▸ x1.h)
  rw [hW1]
  clear hW1
 rotate_left 1
 focus
  have HTR0 := HTU.out (by omega)
  rw [if_neg (by omega), if_neg (by omega), if_pos h] at HTR0
  subst h
  obtain ⟨xa, xb, hx, hap⟩ := apply_lit 14 bl bh im im hbw (by unfold W32; omega)
  have HAP := Lib.hid hap
  rw [HB2.out, hx] at HTR0
  have HTR := Lib.hid HTR0
  clear hap hx hbw hcw HTR0
  go_upto_region 13 with fail
  refine wp_region_ext_tail 9 (by kernel_rfl) (by kernel_rfl) ?_
  simp only [List.take_succ_cons, List.take_zero, List.drop_succ_cons, List.drop_zero]
  repeat (go_big_quiet_step (first | (go_at_call 47; exact Calls.extq (HAP.out _))))
  refine wpQuiet_nil ?_
  rintro _ ⟨x1, rfl⟩
  go_upto_region 23 with fail
  obtain ⟨W1, hW1⟩ : ∃ W1, x1.w = W1 := ⟨_, rfl⟩
  have BW1 := Lib.hid (show Below U.heap.size U W1 from hW1 ▸ x1.h)
  rw [hW1]
  clear hW1
 rotate_left 1
 focus
  have HTR0 := HTU.out (by omega)
  rw [if_neg (by omega), if_neg (by omega), if_neg (by omega), if_pos h] at HTR0
  subst h
  obtain ⟨xa, xb, hx, hap⟩ := apply_lit 12 bl bh im im hbw (by unfold W32; omega)
  have HAP := Lib.hid hap
  rw [HB2.out, hx] at HTR0
  have HTR := Lib.hid HTR0
  clear hap hx hbw hcw HTR0
  go_upto_region 15 with fail
  refine wp_region_ext_tail 9 (by kernel_rfl) (by kernel_rfl) ?_
  simp only [List.take_succ_cons, List.take_zero, List.drop_succ_cons, List.drop_zero]
  repeat (go_big_quiet_step (first | (go_at_call 47; exact Calls.extq (HAP.out _))))
  refine wpQuiet_nil ?_
  rintro _ ⟨x1, rfl⟩
  go_upto_region 23 with fail
  obtain ⟨W1, hW1⟩ : ∃ W1, x1.w = W1 := ⟨_, rfl⟩
  have BW1 := Lib.hid (show Below U.heap.size U W1 from hW1 ▸ x1.h)
  rw [hW1]
  clear hW1
 rotate_left 1
 focus
  have HTR0 := HTU.out (by omega)
  rw [if_neg (by omega), if_neg (by omega), if_neg (by omega), if_neg (by omega), if_pos h] at HTR0
  obtain ⟨xa, hxa⟩ : ∃ x, (-2147483648 : Int) = x := ⟨_, rfl⟩
  obtain ⟨xb, hxb⟩ : ∃ x, (2147483647 : Int) = x := ⟨_, rfl⟩
  rw [show fullI = (xa, xb) by rw [← hxa, ← hxb]; rfl] at HTR0
  have HTR := Lib.hid HTR0
  have HFU := Lib.hid (fun w => full_any w)
  rw [hxa, hxb] at HFU
  clear HTR0 hxa hxb
  rcases h with rfl | rfl | rfl
  all_goals
   go_upto_region 17 with fail
   refine wp_region_ext_tail 4 (by kernel_rfl) (by kernel_rfl) ?_
   simp only [List.take_succ_cons, List.take_zero, List.drop_succ_cons, List.drop_zero]
   repeat (go_big_quiet_step (first | (go_at_call 49; exact Calls.extq (HFU.out _))))
   refine wpQuiet_nil ?_
   rintro _ ⟨x1, rfl⟩
   go_upto_region 23 with fail
   obtain ⟨W1, hW1⟩ : ∃ W1, x1.w = W1 := ⟨_, rfl⟩
   have BW1 := Lib.hid (show Below U.heap.size U W1 from hW1 ▸ x1.h)
   rw [hW1]
   clear hW1
 rotate_left 3
 focus
  have HTR0 := HTU.out (by omega)
  rw [if_neg (by omega), if_neg (by omega), if_neg (by omega), if_neg (by omega), if_neg (by omega), if_pos h] at HTR0
  subst h
  obtain ⟨xa, xb, hx⟩ : ∃ xa xb, meetI (al, ah) (0, im - 1) = (xa, xb) := ⟨_, _, rfl⟩
  have hme := fun w => meet_any al ah 0 (im - 1) w
  rw [hx] at hme
  have HME := Lib.hid hme
  have HX := Lib.hid (show meetI (rg r (an : Int)) (0, im - 1) = (xa, xb) by rw [HA2.out]; exact hx)
  have HB9 := Lib.hid HTR0
  clear HTR0
  have w1 : IntKind.i64.wrap (im - 1) = im - 1 := IntWalk.i64_in _ (by omega)
  have w2 : IntKind.i32.wrap (im - 1) = im - 1 := IntWalk.i32_in _ (by omega)
  clear hme hx hbw hcw haw
  go_upto_region 19 with fail
  go_cut [7] from 131 to 140 (fun s7 wx => ∃ (g : Nat) (v : Ext U), s7 = .pointer (some ⟨g, 0, none⟩) ∧ wx = v.w ∧ v.w.cell? ⟨g, 0, none⟩ = some (.int .i32 xa) ∧ v.w.cell? ⟨g, 1, none⟩ = some (.int .i32 xb) ∧ g < v.w.heap.size)
  case first =>
   as_aux_lemma =>
    have K0 : Keeps U U := Below.refl _ _
    go_region_held3 (fun w' => (∀ b o, b < U.heap.size → w'.cell? ⟨b, o, none⟩ = U.cell? ⟨b, o, none⟩) ∧ Keeps U w') ((refine keeps_both rfl ?_; (repeat (first | (with_reducible assumption) | (with_reducible refine Keeps.alloc ?_ _) | (with_reducible refine Keeps.ext ?_ _) | (with_reducible refine Keeps.set ?_ (by first | omega | (simp; done) | (simp; omega)) _) | (with_reducible refine Keeps.drew ?_)))))
     (first | (go_at_call 36; (first | (with_reducible refine (Calls.extq (HME.out _)).mono ?_) | (with_reducible refine (Calls.ext (HME.out _)).mono ?_)); rintro e _ ⟨rfl, y, rfl⟩; have KK : Keeps U y.w := (by (repeat (first | (with_reducible assumption) | (with_reducible refine Keeps.alloc ?_ _) | (with_reducible refine Keeps.ext ?_ _) | (with_reducible refine Keeps.set ?_ (by first | omega | (simp; done) | (simp; omega)) _) | (with_reducible refine Keeps.drew ?_)))); have KS : U.heap.size ≤ y.w.heap.size := KK.size; (have KZ := Below.size (Ext.h y)); (try simp only [World.size_alloc, World.size_drew] at KZ); (try have KM : U.heap.size < y.w.heap.size := (by omega))))
    all_goals (go_wp2_with fail; go_meet; refine cut_one ?_ ?_ ?_ ?_)
    all_goals first
     | (with_reducible show Keeps _ _; (repeat (first | (with_reducible assumption) | (with_reducible refine Keeps.alloc ?_ _) | (with_reducible refine Keeps.ext ?_ _) | (with_reducible refine Keeps.set ?_ (by first | omega | (simp; done) | (simp; omega)) _) | (with_reducible refine Keeps.drew ?_))); done)
     | (simp; done)
     | (simp; omega)
     | (go_simp; done)
     | (simp; refine World.cell?_setCell_same _ _ _ (u := .int .i32 0) ?_; go_simp; done)
     | (go_simp; refine World.cell?_setCell_same _ _ _ (u := .int .i32 0) ?_; go_simp; done)
  obtain ⟨tb, v, rfl, rfl, t0', t1', lt2'⟩ := hcut
  obtain ⟨U2, hU2⟩ : ∃ U2, v.w = U2 := ⟨_, rfl⟩
  have b2 : Below U.heap.size U U2 := hU2 ▸ v.h
  rw [hU2] at t0' t1' lt2' ⊢
  have t0 := t0'
  have t1 := t1'
  have lt2 := lt2'
  have v1 : U2.cell? ⟨w.heap.size, 1, none⟩ = some (.int .i64 (an : Int)) := by rw [b2.cell (p := ⟨w.heap.size, 1, none⟩) lI]; exact u1
  have s4 : U2.cell? ⟨w.heap.size + 1, an * 2, none⟩ = some (.int .i32 al) := by rw [b2.cell (p := ⟨w.heap.size + 1, an * 2, none⟩) lR]; exact r4
  have s5 : U2.cell? ⟨w.heap.size + 1, an * 2 + 1, none⟩ = some (.int .i32 ah) := by rw [b2.cell (p := ⟨w.heap.size + 1, an * 2 + 1, none⟩) lR]; exact r5
  have sf0 : U2.frozen? ⟨w.heap.size + 1, an * 2, none⟩ = false := (UK1.out.keep b2).fz _
  have sf1 : U2.frozen? ⟨w.heap.size + 1, an * 2 + 1, none⟩ = false := (UK1.out.keep b2).fz _
  have li2 : w.heap.size < U2.heap.size := by have := b2.size; omega
  have lr2 : w.heap.size + 1 < U2.heap.size := by have := b2.size; omega
  have lo2 : w.heap.size + 1 + 1 < U2.heap.size := by have := b2.size; omega
  have B2 := Lib.hid b2
  have KO2 := Lib.hid ((b2.block _ lO).trans UK2.out)
  clear t0' t1' lt2' hU2 b2 r0 r1 r2 r3 r4 r5 u0 u1 u2 u3 u4 rf0 rf1 g0 g1 w1 w2
  have HIE := Lib.hid (Calls.ext (isEmpty_any xa xb U2))
  by_cases he : xb < xa
  ·have d := decide_eq_true he
   have HEM := Lib.hid (show emp (xa, xb) = true by unfold emp; simpa using he)
   clear he
   go_wp2_with (first | (go_at_call 39; refine HIE.out.mono ?_; rintro e w' ⟨rfl, y, rfl⟩) | (refine wpList_store_row rfl 27 (.tmp 4) (.tmp 143) rfl (w.heap.size + 1 + 1) #[.int .i32 0, .int .i32 0, .int .i32 0, .int .i32 0, .int .i32 0, .int .i32 0, .int .i32 0, .int .i32 0, .int .i32 0, .int .i32 0, .int .i32 0, .int .i32 0, .int .i32 0, .int .i32 0, .int .i32 0, .int .i32 0, .int .i32 0, .int .i32 0, .int .i32 0, .int .i32 0, .int .i32 0, .int .i32 0, .int .i32 0, .int .i32 0, .int .i32 0, .int .i32 0, .int .i32 0, .int .i32 0, .int .i32 0, .int .i32 0, .int .i32 0, .int .i32 0] rfl rfl 27 _ (((Ext.h _).block _ lo2).trans KO2.out) (by kernel_rfl) rfl (by simp [Value.oneCell']) ?_))
   refine bodyPost_ret (results_cell_tmp (P := Tryd.prog) Tryd.results20 _ _ (w.heap.size + 1 + 1) [.int .i32 0, .int .i32 0, .int .i32 0, .int .i32 0, .int .i32 0, .int .i32 0, .int .i32 0, .int .i32 0, .int .i32 0, .int .i32 0, .int .i32 0, .int .i32 0, .int .i32 0, .int .i32 0, .int .i32 0, .int .i32 0, .int .i32 0, .int .i32 0, .int .i32 0, .int .i32 0, .int .i32 0, .int .i32 0, .int .i32 0, .int .i32 0, .int .i32 0, .int .i32 0, .int .i32 0, .int .i32 0, .int .i32 0, .int .i32 0, .int .i32 0, .int .i32 0] _ rfl (rangeAt_block (setRow_heap _ _ _ _ _ _ ((y.h.block _ lo2).trans KO2.out))) Tryd.underlying27 rfl (by kernel_rfl)) rfl ⟨?_, below_setRow (BU.out.trans ((B2.out.trans (y.h.mono B2.out.size)).mono BU.out.size)) (by omega) _⟩
   rw [HB9.out, show bndR r (an : Int) im = none by unfold bndR; rw [HX.out, if_pos HEM.out]]
   rfl
  have d := decide_eq_false he
  have HEM := Lib.hid (show ¬ emp (xa, xb) = true by unfold emp; simpa using he)
  clear he
  go_upto_region 22 with (go_at_call 39; refine HIE.out.mono ?_; rintro e w' ⟨rfl, y, rfl⟩)
  go_upto_region 23 with fail
  have HTR := Lib.hid (show O = some (setRg r (an : Int) (xa, xb)) by rw [HB9.out]; unfold bndR; rw [HX.out, if_neg HEM.out])
  have BY5 := Lib.hid (B2.out.trans (y.h.mono B2.out.size))
  obtain ⟨W1, hW1⟩ : ∃ W1, y.w = W1 := ⟨_, rfl⟩
  have BW1 := Lib.hid (show Below U.heap.size U W1 from hW1 ▸ BY5.out)
  rw [hW1]
  clear hW1
 rotate_left 1
 rotate_left 10
 iterate 11
  focus
   obtain ⟨Y, hY⟩ : ∃ Y, (W1.setCell ⟨w.heap.size + 1, an * 2, none⟩ (.int .i32 xa)).setCell ⟨w.heap.size + 1, an * 2 + 1, none⟩ (.int .i32 xb) = Y := ⟨_, rfl⟩
   obtain ⟨rs, hrs⟩ : ∃ rs, r.set an (xa, xb) = rs := ⟨_, rfl⟩
   have lrs : rs.length = 16 := by rw [← hrs, List.length_set]; exact hr.len
   have kY : RBox Y (w.heap.size + 1) 27 rs := by rw [← hY, ← hrs]; exact (UK1.out.keep BW1.out).set an (xa, xb)
   have kO : Y.heap[w.heap.size + 1 + 1]? = some (.cells #[.int .i32 0, .int .i32 0, .int .i32 0, .int .i32 0, .int .i32 0, .int .i32 0, .int .i32 0, .int .i32 0, .int .i32 0, .int .i32 0, .int .i32 0, .int .i32 0, .int .i32 0, .int .i32 0, .int .i32 0, .int .i32 0, .int .i32 0, .int .i32 0, .int .i32 0, .int .i32 0, .int .i32 0, .int .i32 0, .int .i32 0, .int .i32 0, .int .i32 0, .int .i32 0, .int .i32 0, .int .i32 0, .int .i32 0, .int .i32 0, .int .i32 0, .int .i32 0] 27 (0, 0)) := by
    rw [← hY, Below.heap_setCell _ _ _ _ (by show w.heap.size + 1 + 1 ≠ w.heap.size + 1; omega), Below.heap_setCell _ _ _ _ (by show w.heap.size + 1 + 1 ≠ w.heap.size + 1; omega)]
    exact (BW1.out.block _ lO).trans UK2.out
   have bY : Below w.heap.size w Y := by rw [← hY]; exact Below.setCell (Below.setCell (BU.out.trans (BW1.out.mono BU.out.size)) (by show w.heap.size ≤ w.heap.size + 1; omega) _) (by show w.heap.size ≤ w.heap.size + 1; omega) _
   have HRF := Lib.hid (show ∀ r3, rs.set 0 (0, 0) = r3 → O = some r3 from fun r3 h => by rw [HTR.out, ← h, ← hrs, set_zero hr.len (proper_zero HP.out)])
   clear hrs
  rotate_left 1
 all_goals
  rw [hY]
  have lY : w.heap.size + 1 < Y.heap.size := kY.lt
  have lY2 : w.heap.size + 1 + 1 < Y.heap.size := (Array.getElem?_eq_some_iff.1 kO).1
  have z0 : Y.cell? ⟨w.heap.size + 1, 0, none⟩ = some (.int .i32 (rg rs 0).1) := by simpa using kY.lo (k := 0) (by omega)
  have z1 : Y.cell? ⟨w.heap.size + 1, 1, none⟩ = some (.int .i32 (rg rs 0).2) := by simpa using kY.hi (k := 0) (by omega)
  have zf0 : Y.frozen? ⟨w.heap.size + 1, 0, none⟩ = false := kY.fz _
  have zf1 : Y.frozen? ⟨w.heap.size + 1, 1, none⟩ = false := kY.fz _
  have KY := Lib.hid kY
  have KO := Lib.hid kO
  have BY := Lib.hid bY
  have LRS := Lib.hid lrs
  have HOF := Lib.hid (Calls.ext (of_any 0 Y))
  clear hY kY kO bY lrs
  go_upto_region 24 with (go_at_call 37; refine HOF.out.mono ?_; rintro e w' ⟨rfl, y2, rfl⟩)
  obtain ⟨Z, hZ⟩ : ∃ Z, (y2.w.setCell ⟨w.heap.size + 1, 0, none⟩ (.int .i32 0)).setCell ⟨w.heap.size + 1, 1, none⟩ (.int .i32 0) = Z := ⟨_, rfl⟩
  obtain ⟨r3, hr3⟩ : ∃ r3, rs.set 0 (0, 0) = r3 := ⟨_, rfl⟩
  have l3 : r3.length = 16 := by rw [← hr3, List.length_set]; exact LRS.out
  have kZ : RBox Z (w.heap.size + 1) 27 r3 := by
   rw [← hZ, ← hr3]
   have h := (KY.out.keep y2.h).set 0 (0, 0)
   simpa using h
  have kZO : Z.heap[w.heap.size + 1 + 1]? = some (.cells #[.int .i32 0, .int .i32 0, .int .i32 0, .int .i32 0, .int .i32 0, .int .i32 0, .int .i32 0, .int .i32 0, .int .i32 0, .int .i32 0, .int .i32 0, .int .i32 0, .int .i32 0, .int .i32 0, .int .i32 0, .int .i32 0, .int .i32 0, .int .i32 0, .int .i32 0, .int .i32 0, .int .i32 0, .int .i32 0, .int .i32 0, .int .i32 0, .int .i32 0, .int .i32 0, .int .i32 0, .int .i32 0, .int .i32 0, .int .i32 0, .int .i32 0, .int .i32 0] 27 (0, 0)) := by
   rw [← hZ, Below.heap_setCell _ _ _ _ (by show w.heap.size + 1 + 1 ≠ w.heap.size + 1; omega), Below.heap_setCell _ _ _ _ (by show w.heap.size + 1 + 1 ≠ w.heap.size + 1; omega)]
   exact (y2.h.block _ lY2).trans KO.out
  have bZ : Below w.heap.size w Z := by rw [← hZ]; exact Below.setCell (Below.setCell (BY.out.trans (y2.h.mono BY.out.size)) (by show w.heap.size ≤ w.heap.size + 1; omega) _) (by show w.heap.size ≤ w.heap.size + 1; omega) _
  rw [hZ]
  have HRG := Lib.hid kZ.range
  have KZO := Lib.hid kZO
  have BZ := Lib.hid bZ
  have HI3 := Lib.hid (show (Tryd.prog.info? 27).map (·.size) = some (cellsR r3).length by rw [cellsR_len, l3]; kernel_rfl)
  have HI4 := Lib.hid (show (Tryd.prog.info? 27).map (·.size) = some (cellsR r3).toArray.size by rw [List.size_toArray, cellsR_len, l3]; kernel_rfl)
  have HI5 := Lib.hid (show (#[.int .i32 0, .int .i32 0, .int .i32 0, .int .i32 0, .int .i32 0, .int .i32 0, .int .i32 0, .int .i32 0, .int .i32 0, .int .i32 0, .int .i32 0, .int .i32 0, .int .i32 0, .int .i32 0, .int .i32 0, .int .i32 0, .int .i32 0, .int .i32 0, .int .i32 0, .int .i32 0, .int .i32 0, .int .i32 0, .int .i32 0, .int .i32 0, .int .i32 0, .int .i32 0, .int .i32 0, .int .i32 0, .int .i32 0, .int .i32 0, .int .i32 0, .int .i32 0] : Array Value).size = (cellsR r3).toArray.size by rw [show (cellsR r3).toArray.size = 32 by rw [List.size_toArray, cellsR_len, l3]]; rfl)
  have HONE := Lib.hid (cellsR_one r3)
  have HT3 := Lib.hid (HRF.out r3 hr3)
  clear hZ kZ kZO bZ hr3 l3 z0 z1 zf0 zf1
  go_wp2_with (first | (refine wpList_load_mid rfl _ _ rfl _ _ rfl (cellsR r3) _ HRG.out Tryd.underlying27 rfl HI3.out ?_) | (refine wpList_store_row rfl 27 (.tmp 4) (.tmp 150) rfl (w.heap.size + 1 + 1) (cellsR r3).toArray rfl rfl 27 _ KZO.out HI4.out HI5.out HONE.out ?_))
  refine bodyPost_ret (results_cell_tmp (P := Tryd.prog) Tryd.results20 _ _ (w.heap.size + 1 + 1) (cellsR r3) _ rfl (rangeAt_block (setRow_heap _ _ _ _ _ _ KZO.out)) Tryd.underlying27 rfl HI3.out) rfl ⟨?_, below_setRow BZ.out (by omega) _⟩
  rw [HT3.out]
  rfl

end Go.Proofs.YtebklpnkcicpjaaDoor


