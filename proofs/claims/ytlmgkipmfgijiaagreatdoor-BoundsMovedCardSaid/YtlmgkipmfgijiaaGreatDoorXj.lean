/-
  What is proved here: parts aTr2, aTr3, aAf, aAn2, aBf, aAm, aBe, aDm.
-/
import Derived.Test.YtlmgkipmfgijiaaGreatDoorXa
import Derived.Test.YtlmgkipmfgijiaaGreatDoorXi
import Derived.Test.YtlmgkipmfgijiaaGreatDoorXg
import Derived.Test.YtlmgkipmfgijiaaGreatDoorXc
import Derived.Test.YtlmgkipmfgijiaaGreatDoorXd
import Derived.Test.YtlmgkipmfgijiaaGreatDoorXb
import Derived.Laws.MakeOwn
namespace Go.Proofs.YtlmgkipmfgijiaaGreatDoor
set_option linter.unusedVariables false
set_option linter.unusedSimpArgs false
set_option maxRecDepth 100000
set_option maxHeartbeats 8000000
section
open Go.RowKit
def Jh (r : RG) (a im : Int) : Option RG := if emp (aJ (rg r a) (0, im - 1)) = true then none else some (cL r a (aJ (rg r a) (0, im - 1)))
theorem LR {W0 wx : World} {g : Nat} {a b : Value} (k : cP W0 wx) (h1 : wx.cell? ⟨g, 0, none⟩ = some a) (h2 : wx.cell? ⟨g, 1, none⟩ = some b) (h5 : g < wx.heap.size) :
  ∃ (g' : Nat) (v : Ext W0), Value.pointer (some ⟨g, 0, none⟩) = .pointer (some ⟨g', 0, none⟩) ∧ wx = v.w ∧ v.w.cell? ⟨g', 0, none⟩ = some a ∧ v.w.cell? ⟨g', 1, none⟩ = some b ∧ g' < v.w.heap.size := ⟨g, ⟨wx, k⟩, rfl, rfl, h1, h2, h5⟩
theorem pL (k bl bh cl ch : Int) (hb : bg bl ∧ bg bh) (hc : bg cl ∧ bg ch) : ∃ xa xb, cJ k (bl, bh) (cl, ch) = (xa, xb) ∧ ∀ w, Calls Tryz.prog 131 #[.int .u8 k, .agg #[.int .i32 bl, .int .i32 bh], .agg #[.int .i32 cl, .int .i32 ch]] w fun e w' => e = .returned (.agg #[.int .i32 xa, .int .i32 xb]) ∧ Below w.heap.size w w' :=
 ⟨_, _, rfl, fun w => pM k bl bh cl ch w hb.1.1 hb.1.2 hb.2.1 hb.2.2 hc.1.1 hc.1.2 hc.2.1 hc.2.2⟩
theorem vB (op : Int) (an bn cn : Nat) (im : Int) (ha : an < 16) (hb : bn < 16) (hc : cn < 16) (him : -131072 ≤ im ∧ im ≤ 131071) (h0 : 0 ≤ op) (h30 : op < 30) (r : RG) (hr : R16 r) (w : World) (T : gZ w) (hv : aT ⟨op, an, bn, cn, im⟩ = true) (hp : cu r = true) :
  Calls Tryz.prog 107 #[.agg #[.int .u8 op, .int .i64 (an : Int), .int .i64 (bn : Int), .int .i64 (cn : Int), .int .i64 im], .agg (aa r).toArray] w fun e w' => e = .returned (dB (eT ⟨op, an, bn, cn, im⟩ r)) ∧ Below w.heap.size w w' := by
 have HTZ := aiU (fun (o1 : 2 ≤ op ∧ op ≤ 13) (hz : (op = 5 ∨ op = 6) ∧ rg r (cn : Int) = (0, 0)) => show eT ⟨op, an, bn, cn, im⟩ r = none by unfold eT; rw [if_pos ⟨hv, hp⟩, if_pos o1, if_pos hz])
 have Zh := aiU (fun (o1 : 2 ≤ op ∧ op ≤ 13) (hz : ¬ ((op = 5 ∨ op = 6) ∧ rg r (cn : Int) = (0, 0))) => show eT ⟨op, an, bn, cn, im⟩ r = some (cL r (an : Int) (cJ (Gs op) (rg r (bn : Int)) (rg r (cn : Int)))) by unfold eT; rw [if_pos ⟨hv, hp⟩, if_pos o1, if_neg hz])
 have NS := aiU (fun (o1 : ¬ (2 ≤ op ∧ op ≤ 13)) => show eT ⟨op, an, bn, cn, im⟩ r = (if op = 14 then some (cL r an (im, im)) else if op = 15 then some (cL r an (cJ 6 (rg r bn) (im, im))) else if op = 16 then some (cL r an (cJ 14 (rg r bn) (im, im)))
   else if op = 17 then some (cL r an (cJ 12 (rg r bn) (im, im))) else if op = 18 ∨ op = 20 ∨ op = 26 then some (cL r an Ck) else if op = 25 then Jh r an im else some r) by
  unfold eT Jh
  rw [if_pos ⟨hv, hp⟩, if_neg o1])
 obtain ⟨O, hO⟩ : ∃ O, eT ⟨op, an, bn, cn, im⟩ r = O := ⟨_, rfl⟩
 rw [hO] at HTZ Zh NS ⊢
 clear hO
 obtain ⟨V, hV, k0, k1, k2, bV, sV⟩ := dP w #[.int .u8 op, .int .i64 (an : Int), .int .i64 (bn : Int), .int .i64 (cn : Int), .int .i64 im] (aa r).toArray ai3.toArray 67 174 174
 obtain ⟨a0, a1, a2, a3, a4, lV⟩ := bP k0
 have K1 := aiU (show aN V (w.heap.size + 1) 174 r from k1)
 have mO := aiU (show (Tryz.prog.info? 174).map (·.size) = some (aa r).length by rw [az, hr.len]; kernel_rfl)
 have K2 := aiU k2
 have BV := aiU bV
 have lD := aiU (Calls.ext (dO ⟨op, an, bn, cn, im⟩ h0 V (T.below bV)))
 have oL := aiU (fun x : Ext V => Calls.ax (x := x) (eW r hr.len x.w))
 clear k0 k1 k2 bV
 go_enter Tryz.func107, Tryz.ntmps107
 go_upto_region 1 with fail
 clear hV
 rw [hv] at lD
 rw [hp] at oL
 have wim : IntKind.i32.wrap im = im := IntWalk.i32_in _ ahU
 go_upto_region 4 with (first | (go_at_call 55; refine lD.out.mono ?_; rintro e w' ⟨rfl, y, rfl⟩) | (go_at_call 129; refine (oL.out _).mono ?_; rintro e w' ⟨rfl, z, rfl⟩) | (refine bM ah7 _ _ rfl _ _ rfl (aa r) _ (K1.out.keep (Ext.h _)).range Tryz.underlying174 rfl mO.out ?_) | (go_at_call 130; refine (Calls.ax (cj im _)).mono ?_; rintro e w' ⟨rfl, q, rfl⟩))
 obtain ⟨cb, hcb⟩ : ∃ cb, q.w.heap.size = cb := ⟨_, rfl⟩
 obtain ⟨U, hU⟩ : ∃ U, q.w.alloc (.cells #[.int .i32 im, .int .i32 im] 172) = U := ⟨_, rfl⟩
 have bU : Below V.heap.size V U := hU ▸ q.h.alloc q.h.size _
 have kC : U.heap[q.w.heap.size]? = some (.cells #[.int .i32 im, .int .i32 im] 172 (0, 0)) := hU ▸ heap_alloc_new _ _
 rw [hU]
 rw [hcb] at kC ⊢
 have g0 : U.cell? ⟨cb, 0, none⟩ = some (.int .i32 im) := cell_of_row _ _ _ _ _ _ kC
 have g1 : U.cell? ⟨cb, 1, none⟩ = some (.int .i32 im) := cell_of_row _ _ _ _ _ _ kC
 have lC : cb < U.heap.size := (Array.getElem?_eq_some_iff.1 kC).1
 have u0 : U.cell? ⟨w.heap.size, 0, none⟩ = some (.int .u8 op) := by rw [bU.cell (p := ⟨w.heap.size, 0, none⟩) lV]; exact a0
 have u1 : U.cell? ⟨w.heap.size, 1, none⟩ = some (.int .i64 (an : Int)) := by rw [bU.cell (p := ⟨w.heap.size, 1, none⟩) lV]; exact a1
 have u2 : U.cell? ⟨w.heap.size, 2, none⟩ = some (.int .i64 (bn : Int)) := by rw [bU.cell (p := ⟨w.heap.size, 2, none⟩) lV]; exact a2
 have u3 : U.cell? ⟨w.heap.size, 3, none⟩ = some (.int .i64 (cn : Int)) := by rw [bU.cell (p := ⟨w.heap.size, 3, none⟩) lV]; exact a3
 have u4 : U.cell? ⟨w.heap.size, 4, none⟩ = some (.int .i64 im) := by rw [bU.cell (p := ⟨w.heap.size, 4, none⟩) lV]; exact a4
 have Fu := aiU (K1.out.keep bU)
 have T9 := aiU ((bU.block _ sV).trans K2.out)
 have sU := bU.size
 have BU := aiU (BV.out.trans (bU.mono BV.out.size))
 obtain ⟨bl, hbl⟩ : ∃ bl, (rg r (bn : Int)).1 = bl := ⟨_, rfl⟩
 obtain ⟨bh, Lu⟩ : ∃ bh, (rg r (bn : Int)).2 = bh := ⟨_, rfl⟩
 obtain ⟨cl, hcl⟩ : ∃ cl, (rg r (cn : Int)).1 = cl := ⟨_, rfl⟩
 obtain ⟨ch, hch⟩ : ∃ ch, (rg r (cn : Int)).2 = ch := ⟨_, rfl⟩
 obtain ⟨al, hal⟩ : ∃ al, (rg r (an : Int)).1 = al := ⟨_, rfl⟩
 obtain ⟨ah, Pb⟩ : ∃ ah, (rg r (an : Int)).2 = ah := ⟨_, rfl⟩
 have r0 : U.cell? ⟨w.heap.size + 1, bn * 2, none⟩ = some (.int .i32 bl) := by rw [← hbl]; exact Fu.out.lo (by rw [hr.len]; exact hb)
 have r1 : U.cell? ⟨w.heap.size + 1, bn * 2 + 1, none⟩ = some (.int .i32 bh) := by rw [← Lu]; exact Fu.out.hi (by rw [hr.len]; exact hb)
 have r2 : U.cell? ⟨w.heap.size + 1, cn * 2, none⟩ = some (.int .i32 cl) := by rw [← hcl]; exact Fu.out.lo (by rw [hr.len]; exact hc)
 have r3 : U.cell? ⟨w.heap.size + 1, cn * 2 + 1, none⟩ = some (.int .i32 ch) := by rw [← hch]; exact Fu.out.hi (by rw [hr.len]; exact hc)
 have r4 : U.cell? ⟨w.heap.size + 1, an * 2, none⟩ = some (.int .i32 al) := by rw [← hal]; exact Fu.out.lo aiE
 have r5 : U.cell? ⟨w.heap.size + 1, an * 2 + 1, none⟩ = some (.int .i32 ah) := by rw [← Pb]; exact Fu.out.hi aiE
 have FH := aiU (show rg r (bn : Int) = (bl, bh) from Prod.ext hbl Lu)
 have zF := aiU (show rg r (cn : Int) = (cl, ch) from Prod.ext hcl hch)
 have zG := aiU (show rg r (an : Int) = (al, ah) from Prod.ext hal Pb)
 have ia : (an : Int) < 16 := by omega
 have ib : (bn : Int) < 16 := by omega
 have ic : (cn : Int) < 16 := by omega
 have lR : w.heap.size + 1 < U.heap.size := by omega
 have lI : w.heap.size < U.heap.size := by omega
 have lO : w.heap.size + 1 + 1 < U.heap.size := by omega
 have rf0 : U.frozen? ⟨w.heap.size + 1, an * 2, none⟩ = false := Fu.out.fz _
 have rf1 : U.frozen? ⟨w.heap.size + 1, an * 2 + 1, none⟩ = false := Fu.out.fz _
 have kL : bg bl ∧ bg bh := by have h := hr.at_ (bn : Int); rw [FH.out] at h; exact h
 have hcw : bg cl ∧ bg ch := by have h := hr.at_ (cn : Int); rw [zF.out] at h; exact h
 have haw : bg al ∧ bg ah := by have h := hr.at_ (an : Int); rw [zG.out] at h; exact h
 clear hcb hU bU kC a0 a1 a2 a3 a4 hbl Lu hcl hch hal Pb lD oL K1 K2 wim hv
 have HP := aiU hp
 clear hp
 have hC : (op = 0 ∨ op = 1 ∨ op = 19 ∨ op = 21 ∨ op = 22 ∨ op = 23 ∨ op = 24 ∨ op = 27 ∨ op = 28 ∨ op = 29) ∨ ((2 ≤ op ∧ op ≤ 13) ∧ (op = 5 ∨ op = 6) ∧ rg r (cn : Int) = (0, 0)) ∨ ((2 ≤ op ∧ op ≤ 13) ∧ ¬ ((op = 5 ∨ op = 6) ∧ rg r (cn : Int) = (0, 0)) ∧ (op = 5 ∨ op = 6)) ∨ ((2 ≤ op ∧ op ≤ 13) ∧ ¬ ((op = 5 ∨ op = 6) ∧ rg r (cn : Int) = (0, 0)) ∧ ¬ (op = 5 ∨ op = 6)) ∨ op = 14 ∨ op = 15 ∨ op = 16 ∨ op = 17 ∨ (op = 18 ∨ op = 20 ∨ op = 26) ∨ op = 25 := by
  by_cases hz : rg r (cn : Int) = (0, 0)
  ·simp only [hz, and_true]; omega
  ·simp only [hz, and_false, not_false_eq_true, true_and]; omega
 rcases hC with h | ⟨o1, hz⟩ | ⟨o1, hz, h5⟩ | ⟨o1, hz, h5⟩ | h | h | h | h | h | h
 focus
  have fK := NS.out ahU
  rw [if_neg ahU, if_neg ahU, if_neg ahU, if_neg ahU, if_neg ahU, if_neg ahU] at fK
  have uh := aiU fK
  clear fK
  rcases h with rfl | rfl | rfl | rfl | rfl | rfl | rfl | rfl | rfl | rfl
  all_goals
   go_upto_region 23 with fail
   obtain ⟨Y, hY⟩ : ∃ Y, U = Y := ⟨_, rfl⟩
   obtain ⟨rs, zj⟩ : ∃ rs, r = rs := ⟨_, rfl⟩
   have lrs : rs.length = 16 := by rw [← zj]; exact hr.len
   have kY : aN Y (w.heap.size + 1) 174 rs := by rw [← hY, ← zj]; exact Fu.out
   have kO : Y.heap[w.heap.size + 1 + 1]? = some (.cells ai3.toArray 174 (0, 0)) := by rw [← hY]; exact T9.out
   have bY : Below w.heap.size w Y := by rw [← hY]; exact BU.out
   have nP := aiU (show ∀ r3, rs.set 0 (0, 0) = r3 → O = some r3 from fun r3 h => by rw [uh.out, ← h, ← zj, um hr.len (lN HP.out)])
   clear zj
 rotate_left 10
 focus
  have EZ : ∀ w : World, (binOp .eql 172 (.agg #[.int .i32 cl, .int .i32 ch]) (.agg #[.int .i32 0, .int .i32 0])).run Tryz.prog w = .ok (.bool true) w := fun w => by
   rw [ja]
   have h := zF.out
   rw [hz.2] at h
   simp only [Prod.mk.injEq] at h
   rw [← h.1, ← h.2]
   rfl
  have uh := aiU (HTZ.out o1 hz)
  obtain ⟨hop, -⟩ := hz
  rcases hop with rfl | rfl
  all_goals
   go_upto_region 5 with fail
   refine aj ahV ahV ?_
   repeat (go_big_quiet_step (first | (go_at_call 130; exact Calls.ax (cj 0 _))))
   refine wpQuiet_nil ?_
   rintro _ ⟨x, rfl⟩
   go_wp2_with (first | (refine wpList_store_row rfl 174 (.tmp 4) (.tmp 46) rfl (w.heap.size + 1 + 1) ai3.toArray rfl rfl 174 _ (((Ext.h _).block _ lO).trans T9.out) ahV rfl ahX ?_))
   refine bodyPost_ret (results_cell_tmp (P := Tryz.prog) Tryz.results107 _ _ (w.heap.size + 1 + 1) ai3 _ rfl (aM (setRow_heap _ _ _ _ _ _ ((x.h.block _ lO).trans T9.out))) Tryz.underlying174 rfl ahV) rfl ⟨by rw [uh.out]; rfl, below_setRow (BU.out.trans (x.h.mono BU.out.size)) ahU _⟩
 focus
  have d1 : decide (2 ≤ op) = true := decide_eq_true o1.1
  have d2 : decide (op ≤ 13) = true := decide_eq_true o1.2
  have wS := aiU (nU op o1.1 o1.2)
  have Bz := Zh.out o1 hz
  have HZ := aiU hz
  have hap := fun w => pM (Gs op) bl bh cl ch w (kL).1.1 kL.1.2 kL.2.1 kL.2.2 hcw.1.1 hcw.1.2 hcw.2.1 hcw.2.2
  obtain ⟨xa, uO⟩ : ∃ xa, (cJ (Gs op) (bl, bh) (cl, ch)).1 = xa := ⟨_, rfl⟩
  obtain ⟨xb, hxb⟩ : ∃ xb, (cJ (Gs op) (bl, bh) (cl, ch)).2 = xb := ⟨_, rfl⟩
  rw [uO, hxb] at hap
  have MC := aiU hap
  rw [FH.out, zF.out, show cJ (Gs op) (bl, bh) (cl, ch) = (xa, xb) from Prod.ext uO hxb] at Bz
  have uh := aiU Bz
  clear hz hap uO hxb kL hcw Bz
  have EZ : ∀ w : World, (binOp .eql 172 (.agg #[.int .i32 cl, .int .i32 ch]) (.agg #[.int .i32 0, .int .i32 0])).run Tryz.prog w = .ok (.bool false) w := fun w => by
   rw [ja, show (cl == 0 && ch == 0) = false by
    rw [Bool.eq_false_iff]
    intro h
    rw [Bool.and_eq_true, beq_iff_eq, beq_iff_eq] at h
    exact HZ.out ⟨h5, by rw [zF.out, h.1, h.2]⟩]
  clear HZ
  rcases h5 with rfl | rfl
  all_goals
   go_upto_region 5 with fail
   refine aj ahV ahV ?_
   repeat (go_big_quiet_step (first | (go_at_call 130; exact Calls.ax (cj 0 _))))
   refine wpQuiet_nil ?_
   rintro _ ⟨x, rfl⟩
   go_upto_region 7 with fail
   refine cT 15 ahV ahV ?_
   simp only [ai1, List.take_zero, ai2, List.drop_zero]
   repeat (go_big_quiet_step (first | (go_at_call 132; exact Calls.iE (wS.out _)) | (go_at_call 131; exact Calls.ax (MC.out _))))
   refine wpQuiet_nil ?_
   rintro _ ⟨x1, rfl⟩
   go_upto_region 23 with fail
   obtain ⟨W1, hW1⟩ : ∃ W1, x1.w = W1 := ⟨_, rfl⟩
   have xk := aiU (show Below U.heap.size U W1 from hW1 ▸ x1.h)
   rw [hW1]
   clear hW1
 rotate_left 2
 focus
  have d1 : decide (2 ≤ op) = true := decide_eq_true o1.1
  have d2 : decide (op ≤ 13) = true := decide_eq_true o1.2
  have wS := aiU (nU op o1.1 o1.2)
  have Bz := Zh.out o1 hz
  have HZ := aiU hz
  have hap := fun w => pM (Gs op) bl bh cl ch w (kL).1.1 kL.1.2 kL.2.1 kL.2.2 hcw.1.1 hcw.1.2 hcw.2.1 hcw.2.2
  obtain ⟨xa, uO⟩ : ∃ xa, (cJ (Gs op) (bl, bh) (cl, ch)).1 = xa := ⟨_, rfl⟩
  obtain ⟨xb, hxb⟩ : ∃ xb, (cJ (Gs op) (bl, bh) (cl, ch)).2 = xb := ⟨_, rfl⟩
  rw [uO, hxb] at hap
  have MC := aiU hap
  rw [FH.out, zF.out, show cJ (Gs op) (bl, bh) (cl, ch) = (xa, xb) from Prod.ext uO hxb] at Bz
  have uh := aiU Bz
  clear hz hap uO hxb kL hcw Bz
  have e5 : (op == 5) = false := by rw [Bool.eq_false_iff]; intro h; exact h5 (.inl ail)
  have e6 : (op == 6) = false := by rw [Bool.eq_false_iff]; intro h; exact h5 (.inr ail)
  clear h5
  go_upto_region 5 with fail
  refine aj ahV ahV ?_
  repeat (go_big_quiet_step (fail))
  refine wpQuiet_nil ?_
  rintro _ ⟨x, rfl⟩
  go_upto_region 7 with fail
  refine cT 15 ahV ahV ?_
  simp only [ai1, List.take_zero, ai2, List.drop_zero]
  repeat (go_big_quiet_step (first | (go_at_call 132; exact Calls.iE (wS.out _)) | (go_at_call 131; exact Calls.ax (MC.out _))))
  refine wpQuiet_nil ?_
  rintro _ ⟨x1, rfl⟩
  go_upto_region 23 with fail
  obtain ⟨W1, hW1⟩ : ∃ W1, x1.w = W1 := ⟨_, rfl⟩
  have xk := aiU (show Below U.heap.size U W1 from hW1 ▸ x1.h)
  rw [hW1]
  clear hW1
 rotate_left 1
 focus
  have fK := NS.out ahU
  rw [if_pos h] at fK
  subst h
  obtain ⟨xa, uO⟩ : ∃ x, im = x := ⟨_, rfl⟩
  obtain ⟨xb, hxb⟩ : ∃ x, xa = x := ⟨_, rfl⟩
  rw [show ((im, im) : Int × Int) = (xa, xb) by rw [← hxb, ← uO]] at fK
  have uh := aiU fK
  rw [uO] at g0
  rw [uO, hxb] at g1
  clear fK uO hxb
  go_upto_region 23 with fail
  obtain ⟨W1, hW1⟩ : ∃ W1, U = W1 := ⟨_, rfl⟩
  have xk := aiU (show Below U.heap.size U W1 from hW1 ▸ (Below.refl U.heap.size U))
  rw [hW1]
  clear hW1
 rotate_left 1
 focus
  have fK := NS.out ahU
  rw [if_neg ahU, if_pos h] at fK
  subst h
  obtain ⟨xa, xb, hx, hap⟩ := pL 6 bl bh im im kL (by unfold bg; omega)
  have MC := aiU hap
  rw [FH.out, hx] at fK
  have uh := aiU fK
  clear hap hx kL hcw fK
  go_upto_region 11 with fail
  refine aI 9 ahV ahV ?_
  simp only [ai1, List.take_zero, ai2, List.drop_zero]
  repeat (go_big_quiet_step (first | (go_at_call 131; exact Calls.ax (MC.out _))))
  refine wpQuiet_nil ?_
  rintro _ ⟨x1, rfl⟩
  go_upto_region 23 with fail
  obtain ⟨W1, hW1⟩ : ∃ W1, x1.w = W1 := ⟨_, rfl⟩
  have xk := aiU (show Below U.heap.size U W1 from hW1 ▸ x1.h)
  rw [hW1]
  clear hW1
 rotate_left 1
 focus
  have fK := NS.out ahU
  rw [if_neg ahU, if_neg ahU, if_pos h] at fK
  subst h
  obtain ⟨xa, xb, hx, hap⟩ := pL 14 bl bh im im kL (by unfold bg; omega)
  have MC := aiU hap
  rw [FH.out, hx] at fK
  have uh := aiU fK
  clear hap hx kL hcw fK
  go_upto_region 13 with fail
  refine aI 9 ahV ahV ?_
  simp only [ai1, List.take_zero, ai2, List.drop_zero]
  repeat (go_big_quiet_step (first | (go_at_call 131; exact Calls.ax (MC.out _))))
  refine wpQuiet_nil ?_
  rintro _ ⟨x1, rfl⟩
  go_upto_region 23 with fail
  obtain ⟨W1, hW1⟩ : ∃ W1, x1.w = W1 := ⟨_, rfl⟩
  have xk := aiU (show Below U.heap.size U W1 from hW1 ▸ x1.h)
  rw [hW1]
  clear hW1
 rotate_left 1
 focus
  have fK := NS.out ahU
  rw [if_neg ahU, if_neg ahU, if_neg ahU, if_pos h] at fK
  subst h
  obtain ⟨xa, xb, hx, hap⟩ := pL 12 bl bh im im kL (by unfold bg; omega)
  have MC := aiU hap
  rw [FH.out, hx] at fK
  have uh := aiU fK
  clear hap hx kL hcw fK
  go_upto_region 15 with fail
  refine aI 9 ahV ahV ?_
  simp only [ai1, List.take_zero, ai2, List.drop_zero]
  repeat (go_big_quiet_step (first | (go_at_call 131; exact Calls.ax (MC.out _))))
  refine wpQuiet_nil ?_
  rintro _ ⟨x1, rfl⟩
  go_upto_region 23 with fail
  obtain ⟨W1, hW1⟩ : ∃ W1, x1.w = W1 := ⟨_, rfl⟩
  have xk := aiU (show Below U.heap.size U W1 from hW1 ▸ x1.h)
  rw [hW1]
  clear hW1
 rotate_left 1
 focus
  have fK := NS.out ahU
  rw [if_neg ahU, if_neg ahU, if_neg ahU, if_neg ahU, if_pos h] at fK
  obtain ⟨xa, uO⟩ : ∃ x, (-2147483648 : Int) = x := ⟨_, rfl⟩
  obtain ⟨xb, hxb⟩ : ∃ x, (2147483647 : Int) = x := ⟨_, rfl⟩
  rw [show Ck = (xa, xb) by rw [← uO, ← hxb]; rfl] at fK
  have uh := aiU fK
  have HFU := aiU (fun w => aZ w)
  rw [uO, hxb] at HFU
  clear fK uO hxb
  rcases h with rfl | rfl | rfl
  all_goals
   go_upto_region 17 with fail
   refine aI 4 ahV ahV ?_
   simp only [ai1, List.take_zero, ai2, List.drop_zero]
   repeat (go_big_quiet_step (first | (go_at_call 133; exact Calls.ax (HFU.out _))))
   refine wpQuiet_nil ?_
   rintro _ ⟨x1, rfl⟩
   go_upto_region 23 with fail
   obtain ⟨W1, hW1⟩ : ∃ W1, x1.w = W1 := ⟨_, rfl⟩
   have xk := aiU (show Below U.heap.size U W1 from hW1 ▸ x1.h)
   rw [hW1]
   clear hW1
 rotate_left 3
 focus
  have fK := NS.out ahU
  rw [if_neg ahU, if_neg ahU, if_neg ahU, if_neg ahU, if_neg ahU, if_pos h] at fK
  subst h
  obtain ⟨xa, xb, hx⟩ : ∃ xa xb, aJ (al, ah) (0, im - 1) = (xa, xb) := ⟨_, _, rfl⟩
  have hme := fun w => nY al ah 0 (im - 1) w
  rw [hx] at hme
  have HME := aiU hme
  have HX := aiU (show aJ (rg r (an : Int)) (0, im - 1) = (xa, xb) by rw [zG.out]; exact hx)
  have HB9 := aiU fK
  clear fK
  have w1 : IntKind.i64.wrap (im - 1) = im - 1 := IntWalk.i64_in _ ahU
  have w2 : IntKind.i32.wrap (im - 1) = im - 1 := IntWalk.i32_in _ ahU
  clear hme hx kL hcw haw
  go_upto_region 19 with fail
  go_cut [7] from 131 to 140 (fun s7 wx => ∃ (g : Nat) (v : Ext U), s7 = .pointer (some ⟨g, 0, none⟩) ∧ wx = v.w ∧ v.w.cell? ⟨g, 0, none⟩ = some (.int .i32 xa) ∧ v.w.cell? ⟨g, 1, none⟩ = some (.int .i32 xb) ∧ g < v.w.heap.size)
  case first =>
   as_aux_lemma =>
    have K0 : cP U U := Below.refl _ _
    go_region_held3 (fun w' => (∀ b o, b < U.heap.size → w'.cell? ⟨b, o, none⟩ = U.cell? ⟨b, o, none⟩) ∧ cP U w') ((refine Ai rfl ?_; (repeat (first | (with_reducible assumption) | (with_reducible refine cP.alloc ?_ _) | (with_reducible refine cP.ext ?_ _) | (with_reducible refine cP.set ?_ aiF _) | (with_reducible refine cP.drew ?_)))))
     (first | (go_at_call 134; (first | (with_reducible refine (Calls.ax (HME.out _)).mono ?_) | (with_reducible refine (Calls.ext (HME.out _)).mono ?_)); rintro e _ ⟨rfl, y, rfl⟩; have KK : cP U y.w := (by (repeat (first | (with_reducible assumption) | (with_reducible refine cP.alloc ?_ _) | (with_reducible refine cP.ext ?_ _) | (with_reducible refine cP.set ?_ aiF _) | (with_reducible refine cP.drew ?_)))); have KS : U.heap.size ≤ y.w.heap.size := KK.size; (have KZ := Below.size (Ext.h y)); (try simp only [World.size_alloc, World.size_drew] at KZ); (try have KM : U.heap.size < y.w.heap.size := ahU)))
    all_goals (go_wp2_with fail; go_meet; refine LR ?_ ?_ ?_ ?_)
    all_goals first
     | (with_reducible show cP _ _; (repeat (first | (with_reducible assumption) | (with_reducible refine cP.alloc ?_ _) | (with_reducible refine cP.ext ?_ _) | (with_reducible refine cP.set ?_ aiF _) | (with_reducible refine cP.drew ?_))); done)
     | (simp; done)
     | (simp; omega)
     | (go_simp; done)
     | (simp; refine World.cell?_setCell_same _ _ _ (u := .int .i32 0) ?_; go_simp; done)
     | (go_simp; refine World.cell?_setCell_same _ _ _ (u := .int .i32 0) ?_; go_simp; done)
  obtain ⟨tb, v, rfl, rfl, Xj, Xi, Oy⟩ := hcut
  obtain ⟨U2, yE⟩ : ∃ U2, v.w = U2 := ⟨_, rfl⟩
  have b2 : Below U.heap.size U U2 := yE ▸ v.h
  rw [yE] at Xj Xi Oy ⊢
  have t0 := Xj
  have t1 := Xi
  have lt2 := Oy
  have v1 : U2.cell? ⟨w.heap.size, 1, none⟩ = some (.int .i64 (an : Int)) := by rw [b2.cell (p := ⟨w.heap.size, 1, none⟩) lI]; exact u1
  have s4 : U2.cell? ⟨w.heap.size + 1, an * 2, none⟩ = some (.int .i32 al) := by rw [b2.cell (p := ⟨w.heap.size + 1, an * 2, none⟩) lR]; exact r4
  have s5 : U2.cell? ⟨w.heap.size + 1, an * 2 + 1, none⟩ = some (.int .i32 ah) := by rw [b2.cell (p := ⟨w.heap.size + 1, an * 2 + 1, none⟩) lR]; exact r5
  have sf0 : U2.frozen? ⟨w.heap.size + 1, an * 2, none⟩ = false := (Fu.out.keep b2).fz _
  have sf1 : U2.frozen? ⟨w.heap.size + 1, an * 2 + 1, none⟩ = false := (Fu.out.keep b2).fz _
  have li2 : w.heap.size < U2.heap.size := by have := b2.size; omega
  have lr2 : w.heap.size + 1 < U2.heap.size := by have := b2.size; omega
  have lo2 : w.heap.size + 1 + 1 < U2.heap.size := by have := b2.size; omega
  have B2 := aiU b2
  have KO2 := aiU ((b2.block _ lO).trans T9.out)
  clear Xj Xi Oy yE b2 r0 r1 r2 r3 r4 r5 u0 u1 u2 u3 u4 rf0 rf1 g0 g1 w1 w2
  have N3 := aiU (Calls.ext (af xa xb U2))
  by_cases he : xb < xa
  ·have d := decide_eq_true he
   have BD := aiU (show emp (xa, xb) = true by unfold emp; simpa using he)
   clear he
   go_wp2_with (first | (go_at_call 127; refine N3.out.mono ?_; rintro e w' ⟨rfl, y, rfl⟩) | (refine wpList_store_row rfl 174 (.tmp 4) (.tmp 143) rfl (w.heap.size + 1 + 1) ai3.toArray rfl rfl 174 _ (((Ext.h _).block _ lo2).trans KO2.out) ahV rfl ahX ?_))
   refine bodyPost_ret (results_cell_tmp (P := Tryz.prog) Tryz.results107 _ _ (w.heap.size + 1 + 1) ai3 _ rfl (aM (setRow_heap _ _ _ _ _ _ ((y.h.block _ lo2).trans KO2.out))) Tryz.underlying174 rfl ahV) rfl ⟨?_, below_setRow (BU.out.trans ((B2.out.trans (y.h.mono B2.out.size)).mono BU.out.size)) ahU _⟩
   rw [HB9.out, show Jh r (an : Int) im = none by unfold Jh; rw [HX.out, if_pos BD.out]]
   rfl
  have d := decide_eq_false he
  have BD := aiU (show ¬ emp (xa, xb) = true by unfold emp; simpa using he)
  clear he
  go_upto_region 22 with (go_at_call 127; refine N3.out.mono ?_; rintro e w' ⟨rfl, y, rfl⟩)
  go_upto_region 23 with fail
  have uh := aiU (show O = some (cL r (an : Int) (xa, xb)) by rw [HB9.out]; unfold Jh; rw [HX.out, if_neg BD.out])
  have N8 := aiU (B2.out.trans (y.h.mono B2.out.size))
  obtain ⟨W1, hW1⟩ : ∃ W1, y.w = W1 := ⟨_, rfl⟩
  have xk := aiU (show Below U.heap.size U W1 from hW1 ▸ N8.out)
  rw [hW1]
  clear hW1
 rotate_left 1
 rotate_left 10
 iterate 11
  focus
   obtain ⟨Y, hY⟩ : ∃ Y, (W1.setCell ⟨w.heap.size + 1, an * 2, none⟩ (.int .i32 xa)).setCell ⟨w.heap.size + 1, an * 2 + 1, none⟩ (.int .i32 xb) = Y := ⟨_, rfl⟩
   obtain ⟨rs, zj⟩ : ∃ rs, r.set an (xa, xb) = rs := ⟨_, rfl⟩
   have lrs : rs.length = 16 := by rw [← zj, List.length_set]; exact hr.len
   have kY : aN Y (w.heap.size + 1) 174 rs := by rw [← hY, ← zj]; exact (Fu.out.keep xk.out).set an (xa, xb)
   have kO : Y.heap[w.heap.size + 1 + 1]? = some (.cells ai3.toArray 174 (0, 0)) := by
    rw [← hY, Below.heap_setCell _ _ _ _ aic, Below.heap_setCell _ _ _ _ aic]
    exact (xk.out.block _ lO).trans T9.out
   have bY : Below w.heap.size w Y := by rw [← hY]; exact Below.setCell (Below.setCell (BU.out.trans (xk.out.mono BU.out.size)) aif _) aif _
   have nP := aiU (show ∀ r3, rs.set 0 (0, 0) = r3 → O = some r3 from fun r3 h => by rw [uh.out, ← h, ← zj, xJ hr.len (lN HP.out)])
   clear zj
  rotate_left 1
 all_goals
  rw [hY]
  have lY : w.heap.size + 1 < Y.heap.size := kY.lt
  have Sl : w.heap.size + 1 + 1 < Y.heap.size := (Array.getElem?_eq_some_iff.1 kO).1
  have z0 : Y.cell? ⟨w.heap.size + 1, 0, none⟩ = some (.int .i32 (rg rs 0).1) := by simpa using kY.lo (k := 0) ahU
  have z1 : Y.cell? ⟨w.heap.size + 1, 1, none⟩ = some (.int .i32 (rg rs 0).2) := by simpa using kY.hi (k := 0) ahU
  have zf0 : Y.frozen? ⟨w.heap.size + 1, 0, none⟩ = false := kY.fz _
  have zf1 : Y.frozen? ⟨w.heap.size + 1, 1, none⟩ = false := kY.fz _
  have KY := aiU kY
  have KO := aiU kO
  have BY := aiU bY
  have LRS := aiU lrs
  have HOF := aiU (Calls.ext (cj 0 Y))
  clear hY kY kO bY lrs
  go_upto_region 24 with (go_at_call 130; refine HOF.out.mono ?_; rintro e w' ⟨rfl, y2, rfl⟩)
  obtain ⟨Z, hZ⟩ : ∃ Z, (y2.w.setCell ⟨w.heap.size + 1, 0, none⟩ (.int .i32 0)).setCell ⟨w.heap.size + 1, 1, none⟩ (.int .i32 0) = Z := ⟨_, rfl⟩
  obtain ⟨r3, hr3⟩ : ∃ r3, rs.set 0 (0, 0) = r3 := ⟨_, rfl⟩
  have l3 : r3.length = 16 := by rw [← hr3, List.length_set]; exact LRS.out
  have kZ : aN Z (w.heap.size + 1) 174 r3 := by
   rw [← hZ, ← hr3]
   have h := (KY.out.keep y2.h).set 0 (0, 0)
   simpa using h
  have G5 : Z.heap[w.heap.size + 1 + 1]? = some (.cells ai3.toArray 174 (0, 0)) := by
   rw [← hZ, Below.heap_setCell _ _ _ _ aic, Below.heap_setCell _ _ _ _ aic]
   exact (y2.h.block _ Sl).trans KO.out
  have bZ : Below w.heap.size w Z := by rw [← hZ]; exact Below.setCell (Below.setCell (BY.out.trans (y2.h.mono BY.out.size)) aif _) aif _
  rw [hZ]
  have lF := aiU kZ.range
  have Jr := aiU G5
  have BZ := aiU bZ
  have zC := aiU (show (Tryz.prog.info? 174).map (·.size) = some (aa r3).length by rw [az, l3]; kernel_rfl)
  have Mz := aiU (show (Tryz.prog.info? 174).map (·.size) = some (aa r3).toArray.size by rw [List.size_toArray, az, l3]; kernel_rfl)
  have My := aiU (show (ai3.toArray : Array Value).size = (aa r3).toArray.size by rw [show (aa r3).toArray.size = 32 by rw [List.size_toArray, az, l3]]; rfl)
  have wT := aiU (ay r3)
  have Q8 := aiU (nP.out r3 hr3)
  clear hZ kZ G5 bZ hr3 l3 z0 z1 zf0 zf1
  go_wp2_with (first | (refine wpList_load_mid rfl _ _ rfl _ _ rfl (aa r3) _ lF.out Tryz.underlying174 rfl zC.out ?_) | (refine wpList_store_row rfl 174 (.tmp 4) (.tmp 150) rfl (w.heap.size + 1 + 1) (aa r3).toArray rfl rfl 174 _ Jr.out Mz.out My.out wT.out ?_))
  refine bodyPost_ret (results_cell_tmp (P := Tryz.prog) Tryz.results107 _ _ (w.heap.size + 1 + 1) (aa r3) _ rfl (aM (setRow_heap _ _ _ _ _ _ Jr.out)) Tryz.underlying174 rfl zC.out) rfl ⟨?_, below_setRow BZ.out ahU _⟩
  rw [Q8.out]
  rfl
end
section
open Go.RowKit
theorem Kw : ∀ k, k < 30 → (eV k).Mn ≤ 15 ∧ (eV k).Mj ≤ 15 ∧ (eV k).J7 ≤ 15 ∧ -131072 ≤ mS k ∧ mU k ≤ 131071 := by decide
theorem vC (op a b c im : Int) (h0 : 0 ≤ op) (r : RG) (hr : R16 r) (w : World) (T : gZ w) :
  Calls Tryz.prog 107 #[.agg #[.int .u8 op, .int .i64 a, .int .i64 b, .int .i64 c, .int .i64 im], .agg (aa r).toArray] w fun e w' => e = .returned (dB (eT ⟨op, a, b, c, im⟩ r)) ∧ Below w.heap.size w w' := by
 by_cases hvp : aT ⟨op, a, b, c, im⟩ = true ∧ cu r = true
 case neg =>
  refine (xA op a b c im h0 r hr w T (by
   cases h1 : aT ⟨op, a, b, c, im⟩ <;> cases h2 : cu r <;> simp_all)).mono fun e w' ⟨q, hb⟩ => ⟨q.trans ?_, hb⟩
  unfold eT
  rw [if_neg hvp]
 obtain ⟨hv, hp⟩ := hvp
 obtain ⟨k, g1, g2, ⟨a1, a2⟩, ⟨b1, b2⟩, ⟨c1, c2⟩, i1, i2⟩ := (eR (i := ⟨op, a, b, c, im⟩) h0).1 hv
 obtain ⟨s1, s2, s3, s4, s5⟩ := Kw k g2
 simp only at g1 a1 a2 b1 b2 c1 c2 i1 i2
 obtain ⟨an, rfl⟩ : ∃ n : Nat, a = (n : Int) := ⟨a.toNat, by omega⟩
 obtain ⟨bn, rfl⟩ : ∃ n : Nat, b = (n : Int) := ⟨b.toNat, by omega⟩
 obtain ⟨cn, rfl⟩ : ∃ n : Nat, c = (n : Int) := ⟨c.toNat, by omega⟩
 exact vB op an bn cn im ahU ahU ahU ahU h0 ahU r hr w T hv hp
end
section
open Go.RowKit
theorem hi3 {r : RG} (hr : r.length = 16) : (Tryz.prog.info? 174).map (·.size) = some (aa r).length := by rw [az, hr]; kernel_rfl
theorem hi4 {r : RG} (hr : r.length = 16) : (Tryz.prog.info? 174).map (·.size) = some (aa r).toArray.size := by rw [List.size_toArray, az, hr]; kernel_rfl
theorem hi6 {r z : RG} (hr : r.length = 16) (hz : z.length = 16) : (aa z).toArray.size = (aa r).toArray.size := by rw [List.size_toArray, List.size_toArray, az, az, hr, hz]
theorem aF : aA.length = 16 := rfl
theorem aN.row {w : World} {b : Nat} {T : TypeId} {z r : RG} (h : aN w b T z) : aN (w.setRow b (aa r).toArray) b T r := setRow_heap _ _ _ _ _ _ h
theorem bE {w : World} {fn : Func} {a u : Tmp} (h : fn.results = #[.cell a 174, .tmp u]) (tmps : Array Value) (b : Nat) {r : RG} (hr : r.length = 16) (ha : tmps.getD a undef = .pointer (some ⟨b, 0, none⟩)) (hb : aN w b 174 r) :
  (results fn tmps).run Tryz.prog w = .ok (.tuple #[.agg (aa r).toArray, tmps.getD u undef]) w :=
 results_cell_tmp (P := Tryz.prog) h tmps w b (aa r) _ ha hb.range Tryz.underlying174 rfl (hi3 hr)
theorem ints_at {w : World} {v : Value} {l : List Int} (h : Ints w v l) : ∃ A cap, v = .slice A l.length cap ∧ l.length ≤ cap ∧ cap ≤ maxLen := by
 obtain ⟨A, cap, h1, h2, h3, _⟩ := h
 exact ⟨A, cap, h1, h2, h3⟩
theorem ep {n : Nat} (h : n ≤ maxLen) : n ≤ 2 ^ 63 - 1 := by unfold maxLen at h; exact h
theorem vq {V w : World} {ab cb rb ib pb : Nat} {bv pv : Value} {G : List aU} {B : List AB} {val : Nat → Value} {s : AS} (h : An V w ab cb rb ib pb bv pv G B val s) {k : Nat} {b : AB} (hk : B[k]? = some b) (hne : b.code ≠ []) (vV : ∀ i ∈ b.code, 0 ≤ i.op) (T : gZ w) :
  Calls Tryz.prog 87 #[.pointer (some ⟨ab, 0, none⟩), .int .i64 (k : Int)] w fun e w' => e = .returned (dB (gS b.code (s.bC.getD k []))) ∧ Below w.heap.size w w' := by
 have hkl := (List.getElem?_eq_some_iff.1 hk).1
 have zm := h.lB
 obtain ⟨r, hr⟩ : ∃ r, s.bC.getD k [] = r := ⟨_, rfl⟩
 have r16 : R16 r := hr ▸ h.qu.get hkl
 obtain ⟨V0, gC⟩ : ∃ V0, w.alloc (.cells ai3.toArray 174) = V0 := ⟨_, rfl⟩
 have b0 : Below w.heap.size w V0 := gC ▸ (Below.refl _ _).alloc (Nat.le_refl _) _
 have s0 : V0.heap.size = w.heap.size + 1 := by rw [← gC]; simp
 have kz : aN V0 w.heap.size 174 aA := gC ▸ heap_alloc_new _ _
 have h0 := h.below b0
 obtain ⟨l1, l2, l3, l4, l5⟩ := h0.lt
 obtain ⟨-, c2, -, c4, -⟩ := h0.cells
 have hrg := h0.mK hkl
 rw [hr] at hrg
 have lF := aiU hrg
 have dk : (k : Int) < (B.length : Int) := by omega
 obtain ⟨n, hn⟩ : ∃ n, B.length = n := ⟨_, rfl⟩
 rw [hn] at c2 c4 dk zm
 have H0 := aiU h0
 have HW := aiU h
 have HR := aiU hr
 have Zx := aiU vV
 have R := aiU r16
 have B0 := aiU b0
 have S0 := aiU s0
 have KZ := aiU kz
 have CQ := aiU hne
 have HK := aiU hk
 have HT := aiU T
 obtain ⟨q, cap, hval, cX, IU, Nn, IY⟩ : ∃ q cap, val k = .slice (some ⟨q, 0, none⟩) b.code.length cap ∧ b.code.length ≤ cap ∧ cap ≤ 2 ^ 63 - 1 ∧ q < w.heap.size ∧ ∀ j i, b.code[j]? = some i →
   w.cell? ⟨q, j * 5, none⟩ = some (.int .u8 i.op) ∧ w.cell? ⟨q, j * 5 + 1, none⟩ = some (.int .i64 i.a) ∧ w.cell? ⟨q, j * 5 + 2, none⟩ = some (.int .i64 i.b) ∧ w.cell? ⟨q, j * 5 + 3, none⟩ = some (.int .i64 i.c) ∧ w.cell? ⟨q, j * 5 + 4, none⟩ = some (.int .i64 i.aP) := by
  rcases (h.code hk).2 with ⟨_, e⟩ | ⟨q, cap, e1, e2, e3, e4, e5⟩
  ·exact absurd e hne
  ·exact ⟨q, cap, e1, e2, ep e3, e4, e5⟩
 have CC := aiU IY
 obtain ⟨m, hm⟩ : ∃ m, b.code.length = m := ⟨_, rfl⟩
 have x2 : V0.cell? ⟨cb, k, none⟩ = some (.slice (some ⟨q, 0, none⟩) m cap) := by rw [← hm, ← hval]; exact (h0.code hk).1
 have HM := aiU hm
 rw [hm] at cX
 clear h0 h hr vV r16 b0 s0 kz hne hk T hrg hn hval IY hm hkl
 go_enter Tryz.func87, Tryz.ntmps87
 go_upto_region 2 with (first | (refine wpList_load_mid rfl _ _ rfl _ _ rfl (aa r) _ lF.out Tryz.underlying174 rfl (hi3 R.out.len) ?_) | (refine wpList_store_row rfl 174 (.tmp 6) (.tmp 16) rfl V0.heap.size (aa r).toArray rfl rfl 174 _ (heap_alloc_new _ _) (hi4 R.out.len) (hi6 R.out.len aF) (ay r) ?_))
 obtain ⟨X, hX⟩ : ∃ X, (V0.alloc (.cells ai3.toArray 174)).setRow V0.heap.size (aa r).toArray = X := ⟨_, rfl⟩
 have hA : aN (V0.alloc (.cells ai3.toArray 174)) V0.heap.size 174 aA := heap_alloc_new _ _
 have bX : Below V0.heap.size V0 X := hX ▸ below_setRow ((Below.refl _ _).alloc (Nat.le_refl _) _) (Nat.le_refl _) _
 have kX : aN X V0.heap.size 174 r := hX ▸ hA.row
 rw [hX]
 clear gC
 have Yq := H0.out.below bX
 obtain ⟨y1, y2, y3, y4, y5⟩ := Yq.lt
 have e2 := Yq.cells.2.1
 have f2 : X.cell? ⟨cb, k, none⟩ = some (.slice (some ⟨q, 0, none⟩) m cap) := (bX.cell (p := ⟨cb, k, none⟩) l2).trans x2
 have BX := aiU bX
 have KX := aiU kX
 have hnB : B.length = n := by
  have := c2.symm.trans H0.out.cells.2.1
  simp at this
  omega
 rw [hnB] at e2
 clear hX hA bX kX Yq c2 c4 x2 hnB
 go_upto_region 3 with fail
 go_loopw [7, 25] (fun a7 a25 wr => ∃ (j : Nat) (r1 : RG), j ≤ m ∧ a25 = .int .i64 (j : Int) ∧ a7 = .bool true ∧ gS (b.code.drop j) r1 = gS b.code r ∧ R16 r1 ∧ Below V0.heap.size V0 wr ∧ aN wr V0.heap.size 174 r1) (fun _ a25 _ => m - (intOf a25).toNat)
 case atStart => exact ⟨0, r, by omega, rfl, rfl, by simp, R.out, BX.out, KX.out⟩
 case round =>
  obtain ⟨j, r1, hj, rfl, rfl, hrun, hr1, hb, kr⟩ := hrel
  have Uv := aiU hrun
  have R1 := aiU hr1
  have HB := aiU hb
  have KR := aiU kr
  clear hrun hr1 hb kr
  have hsz : V0.heap.size < wr.heap.size := KR.out.lt
  by_cases hlt : j < m
  ·have dl : decide ((j : Int) < (m : Int)) = true := decide_eq_true ahU
   obtain ⟨i, hi⟩ : ∃ i, b.code[j]? = some i := ⟨_, List.getElem?_eq_getElem ait⟩
   obtain ⟨i0, i1, i2, i3, i4⟩ := CC.out j i hi
   have lqv : q < V0.heap.size := by have := S0.out; omega
   have bq := fun o => (HB.out.cell (p := ⟨q, o, none⟩) lqv).trans (B0.out.cell (p := ⟨q, o, none⟩) Nn)
   have j0 := (bq _).trans i0
   have j1 := (bq _).trans i1
   have j2 := (bq _).trans i2
   have j3 := (bq _).trans i3
   have j4 := (bq _).trans i4
   have wS := aiU (Zx.out i (List.mem_of_getElem? hi))
   have HST := aiU (show gS (i :: b.code.drop (j + 1)) r1 = gS b.code r by
    have hl : j < b.code.length := by rw [HM.out]; exact hlt
    have e1 : b.code[j] = i := Option.some.inj ((List.getElem?_eq_getElem hl).symm.trans hi)
    have e2 : b.code.drop j = i :: b.code.drop (j + 1) := by rw [List.drop_eq_getElem_cons hl, e1]
    rw [← Uv.out, e2])
   obtain ⟨op, ia, ic, id, im⟩ := i
   simp only at j0 j1 j2 j3 j4
   clear i0 i1 i2 i3 i4 hi bq
   have lq : q < wr.heap.size := by omega
   go_upto_region 5 with fail
   obtain ⟨Y, hY⟩ : ∃ Y, wr.alloc (.cells #[.int .u8 op, .int .i64 ia, .int .i64 ic, .int .i64 id, .int .i64 im] 67) = Y := ⟨_, rfl⟩
   rw [hY]
   have bY : Below wr.heap.size wr Y := hY ▸ (Below.refl _ _).alloc (Nat.le_refl _) _
   obtain ⟨z0, z1, z2, z3, z4, lY⟩ := bP (show Y.heap[wr.heap.size]? = some (.cells #[.int .u8 op, .int .i64 ia, .int .i64 ic, .int .i64 id, .int .i64 im] 67 (0, 0)) from hY ▸ heap_alloc_new _ _)
   have KY := aiU (KR.out.keep bY)
   have Mt := aiU KY.out.range
   have BWY := aiU (B0.out.trans ((HB.out.trans (bY.mono ahU)).mono aix))
   have pP := aiU (show aN Y w.heap.size 174 aA from (((HB.out.trans (bY.mono ahU)).block _ aix).trans KZ.out))
   have uh := aiU (vC op ia ic id im wS.out r1 R1.out Y (HT.out.below BWY.out))
   have Rz := aiU (HB.out.trans (bY.mono ahU))
   have lV : V0.heap.size < Y.heap.size := KY.out.lt
   have lw : w.heap.size < Y.heap.size := pP.out.lt
   clear hY bY j0 j1 j2 j3 j4
   rcases ho : eT ⟨op, ia, ic, id, im⟩ r1 with _ | r2
   ·rw [ho] at uh
    have HN := aiU (show gS b.code r = none by rw [← HST.out]; simp only [gS, ho])
    clear ho
    go_wp2_with (first | (refine wpList_load_mid rfl _ _ rfl _ _ rfl (aa r1) _ Mt.out Tryz.underlying174 rfl (hi3 R1.out.len) ?_) | (go_at_call 107; refine uh.out.mono ?_; rintro e w1 ⟨rfl, hb1⟩; unfold dB) | (refine wpList_store_row rfl 174 (.tmp 6) (.tmp 33) rfl V0.heap.size (aa aA).toArray rfl rfl 174 _ (KY.out.keep hb1) (hi4 aF) (hi6 aF R1.out.len) (ay aA) ?_) | (refine wpList_store_row rfl 174 (.tmp 4) (.tmp 37) rfl w.heap.size ai3.toArray rfl rfl 174 _ ((setRow_other _ _ _ _ aix).trans (pP.out.keep hb1)) ahV rfl ahX ?_))
    refine bodyPost_ret (bE Tryz.results87 _ w.heap.size aF rfl (aN.row (r := aA) (z := aA) ((setRow_other _ _ _ _ aix).trans (pP.out.keep hb1)))) rfl ⟨?_, ?_⟩
    ·rw [HR.out, HN.out]; rfl
    ·exact below_setRow (below_setRow (BWY.out.trans (hb1.mono BWY.out.size)) aix _) (Nat.le_refl _) _
   ·rw [ho] at uh
    have HN := aiU (show gS (b.code.drop (j + 1)) r2 = gS b.code r by rw [← HST.out]; simp only [gS, ho])
    have R2 := aiU (oQ wS.out R1.out ho)
    clear ho
    go_wp2_with (first | (refine wpList_load_mid rfl _ _ rfl _ _ rfl (aa r1) _ Mt.out Tryz.underlying174 rfl (hi3 R1.out.len) ?_) | (go_at_call 107; refine uh.out.mono ?_; rintro e w1 ⟨rfl, hb1⟩; unfold dB) | (refine wpList_store_row rfl 174 (.tmp 6) (.tmp 33) rfl V0.heap.size (aa r2).toArray rfl rfl 174 _ (KY.out.keep hb1) (hi4 R2.out.len) (hi6 R2.out.len R1.out.len) (ay r2) ?_))
    go_roundw
    case rel => exact ⟨j + 1, r2, by omega, by go_num, by first | rfl | trivial, HN.out, R2.out, below_setRow (Rz.out.trans (hb1.mono ahU)) (Nat.le_refl _) _, aN.row (KY.out.keep hb1)⟩
    case measure => simp [intOf]; omega
  ·obtain rfl : j = m := by omega
   have dl : decide ((j : Int) < (j : Int)) = false := by simp
   have HN := aiU (show gS b.code r = some r1 by rw [← Uv.out, ← HM.out, List.drop_length]; rfl)
   have Mt := aiU KR.out.range
   have KZW := aiU (show aN wr w.heap.size 174 aA from ((HB.out.block _ aix).trans KZ.out))
   go_wp2_with (first | (refine wpList_load_mid rfl _ _ rfl _ _ rfl (aa r1) _ Mt.out Tryz.underlying174 rfl (hi3 R1.out.len) ?_) | (refine wpList_store_row rfl 174 (.tmp 4) (.tmp 39) rfl w.heap.size (aa r1).toArray rfl rfl 174 _ KZW.out (hi4 R1.out.len) (hi6 R1.out.len aF) (ay r1) ?_))
   refine bodyPost_ret (bE Tryz.results87 _ w.heap.size R1.out.len rfl (aN.row KZW.out)) rfl ⟨?_, ?_⟩
   ·rw [HR.out, HN.out]; rfl
   ·exact below_setRow (B0.out.trans (HB.out.mono B0.out.size)) (Nat.le_refl _) _
end
section
open Go.RowKit
theorem fP (b : Nat) (T : TypeId) : ∀ (vs : List Value) (o : Nat) (w : World) (xs : List Value), w.heap[b]? = some (.cells xs.toArray T (0, 0)) → o + vs.length ≤ xs.length → (w.setCells b o vs).heap[b]? = some (.cells (xs.take o ++ vs ++ xs.drop (o + vs.length)).toArray T (0, 0))
 | [], o, w, xs, h, hl => by simpa [World.setCells] using h
 | v :: vs, o, w, xs, h, hl => by
  rw [World.setCells]
  simp only [List.length_cons] at hl
  have h1 : (w.setCell ⟨b, o, none⟩ v).heap[b]? = some (.cells (xs.set o v).toArray T (0, 0)) := by
   rw [heap_setCell_same w b o _ T _ h]; simp
  rw [fP b T vs (o + 1) _ _ h1 ah3]
  congr 2
  have e1 : (xs.set o v).take (o + 1) = xs.take o ++ [v] := by
   apply List.ext_getElem?
   intro i
   rw [List.getElem?_take, List.getElem?_set]
   by_cases hi : i < o
   ·rw [if_pos ahU, if_neg ahU, List.getElem?_append_left aiG, List.getElem?_take, if_pos hi]
   ·by_cases hi2 : i = o
    ·subst hi2
     rw [if_pos ahU, if_pos rfl, if_pos ahU, List.getElem?_append_right aiG, List.length_take, Nat.min_eq_left ahU]
     simp
    ·rw [if_neg ahU, List.getElem?_eq_none]
     rw [List.length_append, List.length_take]; simp; omega
  have e2 : (xs.set o v).drop (o + 1 + vs.length) = xs.drop (o + (v :: vs).length) := by
   apply List.ext_getElem?
   intro i
   rw [List.getElem?_drop, List.getElem?_drop, List.getElem?_set, if_neg ahU, List.length_cons]
   congr 1
   omega
  rw [e1, e2]
  simp
theorem heap_setCells_other (b : Nat) : ∀ (vs : List Value) (o : Nat) (w : World) (k : Nat), k ≠ b → (w.setCells b o vs).heap[k]? = w.heap[k]?
 | [], o, w, k, _ => rfl
 | v :: vs, o, w, k, h => by
  rw [World.setCells, heap_setCells_other b vs (o + 1) _ k h, Below.heap_setCell _ _ _ _ (by show k ≠ b; exact h)]
theorem jw (b : Nat) : ∀ (vs : List Value) (o : Nat) (w : World), (w.setCells b o vs).os = w.os ∧ (w.setCells b o vs).tape = w.tape ∧ (w.setCells b o vs).output = w.output ∧ (w.setCells b o vs).heap.size = w.heap.size
 | [], o, w => ⟨rfl, rfl, rfl, rfl⟩
 | v :: vs, o, w => by
  rw [World.setCells]
  obtain ⟨h1, h2, h3, h4⟩ := jw b vs (o + 1) (w.setCell ⟨b, o, none⟩ v)
  exact ⟨h1, h2, h3, h4.trans ahZ⟩
theorem Fr.setCells {S : Nat → Prop} {w w' : World} {b o : Nat} (h : Fr S w w') (vs : List Value) (hp : S b ∨ w.heap.size ≤ b) : Fr S w (w'.setCells b o vs) := by
 obtain ⟨h1, h2, h3, h4⟩ := jw b vs o w'
 refine ⟨h1.trans h.os, h2.trans h.tape, h3.trans h.output, by rw [h4]; exact h.size, fun k hk hn => ?_⟩
 rw [heap_setCells_other b vs o w' k (by rintro rfl; rcases hp with hp | hp; exact hn hp; omega)]
 exact h.block k hk hn
theorem uq {l : List Bool} {t : Nat} (v : Bool) : (l.map Value.bool).toArray.setIfInBounds t (.bool v) = ((l.set t v).map Value.bool).toArray := by
 simp [List.map_set]
theorem Kz {l : List Int} {t : Nat} (v : Int) : (l.map (Value.int .i64)).toArray.setIfInBounds t (.int .i64 v) = ((l.set t v).map (Value.int .i64)).toArray := by
 simp [List.map_set]
section
variable {V w w' : World} {ab cb rb ib pb : Nat} {bv pv : Value} {G : List aU} {B : List AB} {val : Nat → Value} {s : AS}
theorem An.there (h : An V w ab cb rb ib pb bv pv G B val s) {t : Nat} (ht : t < B.length) : w.there ib (t * 32) 32 := fun j hj => by
 have hl : t < s.bC.length := by rw [h.qu.l2]; exact ht
 have h1 := jF h.x7
 constructor
 ·have : t * 32 + j < (mI s.bC).length := by omega
  simp [World.cell?, h.jM, List.getElem?_eq_getElem this]
 ·simp [World.frozen?, h.jM]
theorem Gh (h : ∀ r ∈ s.bC, r.length = 16) {t : Nat} (ht : t < s.bC.length) {r : RG} (hr : r.length = 16) (hi : w.heap[ib]? = some (.cells (mI s.bC).toArray 174 (0, 0))) :
  (w.setCells ib (t * 32) (aa r)).heap[ib]? = some (.cells (mI (s.bC.set t r)).toArray 174 (0, 0)) := by
 have h1 := jF h
 have hc : (aa r).length = 32 := by rw [az, hr]
 rw [fP ib _ (aa r) (t * 32) w _ hi ahU, hc, Gi h ht hr]
theorem An.MT (h : An V w ab cb rb ib pb bv pv G B val s) : s.bC.length = B.length := h.qu.l2
theorem An.first (h : An V w ab cb rb ib pb bv pv G B val s) (hf : Below w.heap.size w w') {t : Nat} (ht : t < B.length) {r : RG} (hr : R16 r) (hn : s.reach.getD t false = false) :
  An V ((w'.setCell ⟨rb, t, none⟩ (.bool true)).setCells ib (t * 32) (aa r)) ab cb rb ib pb bv pv G B val (eA s t (some r)).1 ∧ Fr (Fg rb ib pb) w ((w'.setCell ⟨rb, t, none⟩ (.bool true)).setCells ib (t * 32) (aa r)) := by
 obtain ⟨-, -, -, -, -, -, n7, n8, n9⟩ := h.ne
 have h' := h.below hf
 have F : Fr (Fg rb ib pb) w' ((w'.setCell ⟨rb, t, none⟩ (.bool true)).setCells ib (t * 32) (aa r)) := ((Fr.refl _ _).set _ (.inl (.inl rfl))).setCells _ (.inl (.inr (.inl rfl)))
 have ha := (mm h.qu ht (some r) (fun _ e => by cases e; exact hr)).1
 unfold eA at ha ⊢
 simp only [if_pos hn] at ha ⊢
 refine ⟨h'.to F ?_ ?_ ?_ ha, (Fr.of hf).trans F⟩
 ·rw [heap_setCells_other _ _ _ _ _ n7, heap_setCell_same _ _ _ _ _ _ h'.fo, uq]
 ·exact Gh h'.x7 (by rw [h'.MT]; exact ht) hr.len (by rw [Below.heap_setCell _ _ _ _ (by show ib ≠ rb; exact n7.symm)]; exact h'.jM)
 ·rw [heap_setCells_other _ _ _ _ _ n9.symm, Below.heap_setCell _ _ _ _ (by show pb ≠ rb; exact n8.symm)]; exact h'.cH
theorem An.again (h : An V w ab cb rb ib pb bv pv G B val s) (hf : Below w.heap.size w w') {t : Nat} (ht : t < B.length) {r : RG} (hr : R16 r) (hn : s.reach.getD t false = true) (hne : bO (s.bC.getD t []) r ≠ s.bC.getD t []) :
  An V ((w'.setCells ib (t * 32) (aa (if 2 ≤ s.rep.getD t 0 then dX (s.bC.getD t []) (bO (s.bC.getD t []) r) else bO (s.bC.getD t []) r))).setCell ⟨pb, t, none⟩ (.int .i64 (s.rep.getD t 0 + 1))) ab cb rb ib pb bv pv G B val (eA s t (some r)).1 ∧ Fr (Fg rb ib pb) w ((w'.setCells ib (t * 32) (aa (if 2 ≤ s.rep.getD t 0 then dX (s.bC.getD t []) (bO (s.bC.getD t []) r) else bO (s.bC.getD t []) r))).setCell ⟨pb, t, none⟩ (.int .i64 (s.rep.getD t 0 + 1))) := by
 obtain ⟨-, -, -, -, -, -, n7, n8, n9⟩ := h.ne
 have h' := h.below hf
 have hg := h.qu.get ht
 have hj := hg.join hr
 have hnew : R16 (if 2 ≤ s.rep.getD t 0 then dX (s.bC.getD t []) (bO (s.bC.getD t []) r) else bO (s.bC.getD t []) r) := by split; exact hg.xp hj; exact hj
 have F : Fr (Fg rb ib pb) w' ((w'.setCells ib (t * 32) (aa (if 2 ≤ s.rep.getD t 0 then dX (s.bC.getD t []) (bO (s.bC.getD t []) r) else bO (s.bC.getD t []) r))).setCell ⟨pb, t, none⟩ (.int .i64 (s.rep.getD t 0 + 1))) := ((Fr.refl _ _).setCells _ (.inl (.inr (.inl rfl)))).set _ (.inl (.inr (.inr rfl)))
 have ha := (mm h.qu ht (some r) (fun _ e => by cases e; exact hr)).1
 unfold eA at ha ⊢
 simp only [if_neg (show ¬ s.reach.getD t false = false by rw [hn]; simp), if_neg hne] at ha ⊢
 refine ⟨h'.to F ?_ ?_ ?_ ha, (Fr.of hf).trans F⟩
 ·rw [Below.heap_setCell _ _ _ _ (by show rb ≠ pb; exact n8), heap_setCells_other _ _ _ _ _ n7]; exact h'.fo
 ·rw [Below.heap_setCell _ _ _ _ (by show ib ≠ pb; exact n9)]
  exact Gh h'.x7 (by rw [h'.MT]; exact ht) hnew.len h'.jM
 ·rw [heap_setCell_same _ _ _ _ _ _ ((heap_setCells_other _ _ _ _ _ n9.symm).trans h'.cH), Kz]
end
end
section
open Go.RowKit
theorem xw (cv ev : Value) (sh lk : Int) (n : Nat) (cd : Nat → Int) (pc : Nat) (hpc : pc < n) (hd : (bk (cd pc)).2 = 0) (w : World) (T : gZ w) (HW : Words w cv n cd) :
  Calls Tryz.prog 85 #[.agg #[cv, ev, .int .i64 sh, .int .i64 lk], .int .i64 (pc : Int)] w fun e w' => e = .returned (.tuple #[(au cd (pc : Int)).val, .bool true]) ∧ Below w.heap.size w w' := by
 obtain ⟨A, cap, rfl, hc1, hc2, hc3⟩ := HW.at_
 obtain ⟨b, off, rfl, hb, hc⟩ := hc3 ahU
 have hwd := HW.wd pc hpc
 have hn6 := HW.le
 have hcell := hc pc hpc
 have hcap := ep hc2
 obtain ⟨x, hx⟩ : ∃ x, cd pc = x := ⟨_, rfl⟩
 rw [hx] at hwd hcell hd
 obtain ⟨V, hV, k0, k1, bV, sV⟩ : ∃ V, (w.alloc (.cells #[.slice (some ⟨b, off, none⟩) n cap, ev, .int .i64 sh, .int .i64 lk] 25)).alloc (.cells #[.int .u8 0, .int .i64 0, .int .i64 0, .int .i64 0, .int .i64 0] 67) = V ∧ V.heap[w.heap.size]? = some (.cells #[.slice (some ⟨b, off, none⟩) n cap, ev, .int .i64 sh, .int .i64 lk] 25 (0, 0)) ∧ V.heap[w.heap.size + 1]? = some (.cells #[.int .u8 0, .int .i64 0, .int .i64 0, .int .i64 0, .int .i64 0] 67 (0, 0)) ∧ Below w.heap.size w V ∧ V.heap.size = w.heap.size + 1 + 1 := by
  refine ⟨_, rfl, ?_, aG _ _ ahZ, ((Below.refl _ _).alloc (Nat.le_refl _) _).alloc ahZ _, by simp⟩
  rw [heap_alloc_old _ _ ahZ]; exact heap_alloc_new _ _
 have v0 : V.cell? ⟨w.heap.size, 0, none⟩ = some (.slice (some ⟨b, off, none⟩) n cap) := by simp [World.cell?, k0]
 have l0 : w.heap.size < V.heap.size := by omega
 have lb : b < V.heap.size := by omega
 have vx : V.cell? ⟨b, off + pc, none⟩ = some (.int .u32 x) := (bV.cell (p := ⟨b, off + pc, none⟩) hb).trans hcell
 have dp : decide ((pc : Int) < 0) = false := decide_eq_false ahU
 have dn : decide ((n : Int) ≤ (pc : Int)) = false := decide_eq_false ahU
 have dn2 : (pc : Int) < (n : Int) := by omega
 obtain ⟨op, a, b', c, im, hi⟩ : ∃ op a b c im, (bk x).1 = ⟨op, a, b, c, im⟩ := ⟨_, _, _, _, _, rfl⟩
 have HD := aiU (show Calls Tryz.prog 22 #[.int .u32 x] V fun e w' => e = .returned (.tuple #[.agg #[.int .u8 op, .int .i64 a, .int .i64 b', .int .i64 c, .int .i64 im], .int .i64 0]) ∧ Below V.heap.size V w' from by
  have := kj x hwd.1 hwd.2 V (T.below bV)
  rw [hd, hi] at this
  exact this)
 have HI := aiU (show au cd (pc : Int) = ⟨op, a, b', c, im⟩ by unfold au; rw [show ((pc : Int)).toNat = pc by omega, hx]; exact hi)
 have BV := aiU bV
 have K1 := aiU k1
 have SV := aiU sV
 clear hc hc3 hx hd hi bV k0 k1 sV hcell HW hc2 hb
 go_enter Tryz.func85, Tryz.ntmps85
 go_upto_region 4 with (first | (go_at_call 22; refine HD.out.mono ?_; rintro e w1 ⟨rfl, hb1⟩))
 obtain ⟨Y, hY⟩ : ∃ Y, w1.alloc (.cells #[.int .u8 op, .int .i64 a, .int .i64 b', .int .i64 c, .int .i64 im] 67) = Y := ⟨_, rfl⟩
 rw [hY]
 have bY : Below w1.heap.size w1 Y := hY ▸ (Below.refl _ _).alloc (Nat.le_refl _) _
 obtain ⟨z0, z1, z2, z3, z4, lY⟩ := bP (show Y.heap[w1.heap.size]? = some (.cells #[.int .u8 op, .int .i64 a, .int .i64 b', .int .i64 c, .int .i64 im] 67 (0, 0)) from hY ▸ heap_alloc_new _ _)
 have YX : Below V.heap.size V Y := hb1.trans (bY.mono hb1.size)
 have KY : Y.heap[w.heap.size + 1]? = some (.cells #[.int .u8 0, .int .i64 0, .int .i64 0, .int .i64 0, .int .i64 0] 67 (0, 0)) := (YX.block _ aiv).trans K1.out
 have lO : w.heap.size + 1 < Y.heap.size := (Array.getElem?_eq_some_iff.1 KY).1
 have KYH := aiU KY
 have BY := aiU (BV.out.trans (YX.mono BV.out.size))
 clear hY bY YX KY hb1 hV vx v0
 go_wp2_with (refine wpList_store_row rfl 67 (.tmp 4) (.tmp 27) rfl (w.heap.size + 1) #[.int .u8 op, .int .i64 a, .int .i64 b', .int .i64 c, .int .i64 im] rfl rfl 67 _ KYH.out ahV rfl ahX ?_)
 rw [HI.out]
 refine bodyPost_ret (results_cell_tmp (P := Tryz.prog) Tryz.results85 _ _ (w.heap.size + 1) [.int .u8 op, .int .i64 a, .int .i64 b', .int .i64 c, .int .i64 im] _ rfl (aM (setRow_heap _ _ _ _ _ _ KYH.out)) Tryz.underlying67 rfl ahV) rfl ⟨rfl, below_setRow BY.out ahU _⟩
end
section
open Go.RowKit
theorem nZ {z : Array Value} {m k : Nat} (hk : z.size = k) (h0 : 0 < k) {xs : List Value} (hl : xs.length = m * k) (hx : ∀ i j, i < m → j < k → xs[i * k + j]? = z[j]?) : madeCells z (m * k) = xs.toArray := by
 apply Array.ext
 ·simp [madeCells, hl]
 ·intro q h1 h2
  have hq : q < m * k := by simpa [hl] using h2
  have h3 : q / k < m := (Nat.div_lt_iff_lt_mul h0).2 hq
  have h4 : q % k < k := Nat.mod_lt _ h0
  have e : q / k * k + q % k = q := by rw [Nat.mul_comm]; exact Nat.div_add_mod q k
  have h5 := hx (q / k) (q % k) h3 h4
  rw [e] at h5
  have h6 : xs[q]? = some xs[q] := List.getElem?_eq_getElem (by simpa using h2)
  rw [h6] at h5
  simp only [madeCells, Array.getElem_map, Array.getElem_range, aiV, hk]
  simp only [getElem!_def, ← h5]
theorem MM (n : Nat) : madeCells #[.bool false] (n * 1) = ((List.replicate n false).map Value.bool).toArray :=
 nZ (k := 1) rfl ahW ahZ (fun i j hi hj => by
  have e : j = 0 := by omega
  subst e
  simp [hi])
theorem Si (n : Nat) : madeCells #[.int .i64 0] (n * 1) = ((List.replicate n (0 : Int)).map (Value.int .i64)).toArray :=
 nZ (k := 1) rfl ahW ahZ (fun i j hi hj => by
  have e : j = 0 := by omega
  subst e
  simp [hi])
theorem ML (n : Nat) : madeCells #[.slice none 0 0] (n * 1) = ((List.range n).map fun _ => Value.slice none 0 0).toArray :=
 nZ (k := 1) rfl ahW ahZ (fun i j hi hj => by
  have e : j = 0 := by omega
  subst e
  simp [hi])
theorem Sh (n : Nat) : madeCells (aa aA).toArray (n * 32) = (mI (List.replicate n aA)).toArray := by
 have h16 : ∀ r ∈ List.replicate n aA, r.length = 16 := fun r hr => by rw [(List.mem_replicate.1 hr).2]; rfl
 refine nZ (by rw [List.size_toArray, az]; rfl) ahU (by rw [jF h16]; simp) (fun i j hi hj => ?_)
 rw [mz h16 (r := aA) (by simp [hi]) j hj]
 simp
structure CM (V wr : World) (ab cb rb ib pb n : Nat) (bv pv : Value) (val : Nat → Value) (dM : Nat → List Ins) : Prop where
 aD : Below V.heap.size V wr
 aV : V.heap.size ≤ ab
 rV : V.heap.size ≤ rb
 iV : V.heap.size ≤ ib
 pV : V.heap.size ≤ pb
 head : wr.heap[ab]? = some (.cells #[bv, pv, .slice (some ⟨cb, 0, none⟩) n n, .slice (some ⟨rb, 0, none⟩) n n, .slice (some ⟨ib, 0, none⟩) n n, .slice (some ⟨pb, 0, none⟩) n n] 169 (0, 0))
 l9 : wr.ownsRow V.heap.size 144 1 (.slice (some ⟨cb, 0, none⟩) n n) n ((List.range n).map fun i => val i)
 own : ∀ (i : Nat), i < n → wr.ownsRow V.heap.size 67 5 (val i) (dM i).length (eY (dM i))
 qi : ∀ (i j : Nat), i < n → j < n → i ≠ j → ∀ q, (val i).ownBlock = some q → (val j).ownBlock ≠ some q
 fo : wr.heap[rb]? = some (.cells ((List.replicate n false).map Value.bool).toArray 4 (0, 0))
 jM : wr.heap[ib]? = some (.cells (mI (List.replicate n aA)).toArray 174 (0, 0))
 cH : wr.heap[pb]? = some (.cells ((List.replicate n (0 : Int)).map (Value.int .i64)).toArray 3 (0, 0))
section
variable {V wr : World} {ab cb rb ib pb n : Nat} {bv pv : Value} {val : Nat → Value} {dM : Nat → List Ins}
theorem CM.lt (h : CM V wr ab cb rb ib pb n bv pv val dM) : ab < wr.heap.size ∧ cb < wr.heap.size ∧ rb < wr.heap.size ∧ ib < wr.heap.size ∧ pb < wr.heap.size :=
 ⟨aB h.head, (h.l9.lt cb rfl).2, aB h.fo, aB h.jM, aB h.cH⟩
theorem CM.below {wr' : World} (h : CM V wr ab cb rb ib pb n bv pv val dM) (hb : Below wr.heap.size wr wr') : CM V wr' ab cb rb ib pb n bv pv val dM := by
 obtain ⟨l1, l2, l3, l4, l5⟩ := h.lt
 exact ⟨h.aD.trans (hb.mono h.aD.size), h.aV, h.rV, h.iV, h.pV, (hb.block _ l1).trans h.head, ak h.l9 hb, fun i hi => ak (h.own i hi) hb, h.qi, (hb.block _ l3).trans h.fo, (hb.block _ l4).trans h.jM, (hb.block _ l5).trans h.cH⟩
theorem CM.cells (h : CM V wr ab cb rb ib pb n bv pv val dM) : wr.cell? ⟨ab, 2, none⟩ = some (.slice (some ⟨cb, 0, none⟩) n n) ∧ wr.cell? ⟨ab, 3, none⟩ = some (.slice (some ⟨rb, 0, none⟩) n n) ∧ wr.cell? ⟨ab, 4, none⟩ = some (.slice (some ⟨ib, 0, none⟩) n n) := by
 refine ⟨?_, ?_, ?_⟩ <;> simp [World.cell?, h.head]
theorem CM.at_ (h : CM V wr ab cb rb ib pb n bv pv val dM) {i : Nat} (hi : i < n) : wr.cell? ⟨cb, i, none⟩ = some (val i) ∧ wr.frozen? ⟨cb, i, none⟩ = false :=
 ⟨by rw [h.l9.cellAt _ ahU, List.getElem?_map, List.getElem?_range hi]; rfl, h.l9.frozenAt _⟩
theorem CM.zi (h : CM V wr ab cb rb ib pb n bv pv val dM) {i : Nat} (hi : i < n) : ∀ q, (val i).ownBlock = some q → V.heap.size ≤ q ∧ q ≠ ab ∧ q ≠ cb ∧ q ≠ rb ∧ q ≠ ib ∧ q ≠ pb := fun q hq => by
 have oi := h.own i hi
 obtain ⟨cs, hc⟩ := dJ oi hq
 exact ⟨(oi.lt q hq).1, aS hc h.head ahW, fun e => cV oi h.l9 ahW q hq ain, aS hc h.fo ahW, aS hc h.jM ahW, aS hc h.cH ahW⟩
theorem CM.Q1 (h : CM V wr ab cb rb ib pb n bv pv val dM) : ab ≠ cb ∧ rb ≠ cb ∧ ib ≠ cb ∧ pb ≠ cb := by
 obtain ⟨cs, hc⟩ := dJ h.l9 (q := cb) rfl
 exact ⟨aS h.head hc ahW, aS h.fo hc ahW, aS h.jM hc ahW, aS h.cH hc ahW⟩
theorem CM.app {w2 W' : World} {i : Nat} {y : Ins} {v' : Value} (h : CM V wr ab cb rb ib pb n bv pv val dM) (hi : i < n) (hb : Below wr.heap.size wr w2) (hg : w2.grownBy W' (val i).ownBlock)
  (hown : W'.ownsRow V.heap.size 67 5 v' ((dM i).length + 1) (eY (dM i ++ [y]))) (j6 : v'.ownBlock = (val i).ownBlock ∨ v'.ownBlock = some w2.heap.size) :
  CM V (W'.setCell ⟨cb, i, none⟩ v') ab cb rb ib pb n bv pv (upd val i v') (upd dM i (dM i ++ [y])) := by
 have G := grown_of hb hg
 have S := aQ W' cb i v'
 obtain ⟨l1, l2, l3, l4, l5⟩ := h.lt
 obtain ⟨c1, c2, c3, c4⟩ := h.Q1
 have wY := G.size
 have Es := h.aD.size
 have p1 := (h.l9.lt cb rfl).1
 have oi := h.own i hi
 have ob := h.zi hi
 have same : ∀ k, k < wr.heap.size → k ≠ cb → (∀ q, (val i).ownBlock = some q → k ≠ q) → (W'.setCell ⟨cb, i, none⟩ v').heap[k]? = wr.heap[k]? := fun k hk hkc Ya => by
  rw [Below.heap_setCell _ _ _ _ (by show k ≠ cb; exact hkc)]
  exact G.block k hk (fun e => Ya k e.symm rfl)
 have p' : W'.ownsRow V.heap.size 144 1 (.slice (some ⟨cb, 0, none⟩) n n) n ((List.range n).map fun i => val i) := h.l9.kept G (.inr (fun e' => (ob cb e'.symm).2.2.1 rfl))
 have tR : ∀ q, v'.ownBlock = some q → q ≠ cb := fun q hq e => cV hown p' ahW q hq ain
 refine ⟨?_, h.aV, h.rV, h.iV, h.pV, (same ab l1 c1 (fun q hq => (ob q hq).2.1.symm)).trans h.head, ?_, fun j hj => ?_, fun a c ha hc hac q hq => ?_, (same rb l3 c2 (fun q hq => (ob q hq).2.2.2.1.symm)).trans h.fo, (same ib l4 c3 (fun q hq => (ob q hq).2.2.2.2.1.symm)).trans h.jM, (same pb l5 c4 (fun q hq => (ob q hq).2.2.2.2.2.symm)).trans h.cH⟩
 ·exact ((h.aD.grown G Es (fun k hk => (ob k hk).1)).grown S ahU (fun k hk => by cases hk; exact p1))
 ·rw [← nt n val hi v']
  exact (p'.stored i v').1
 ·unfold upd
  by_cases e : j = i
  ·subst e
   rw [if_pos rfl, if_pos rfl]
   rw [show (dM j ++ [y]).length = (dM j).length + 1 by simp]
   exact hown.kept S (by
    cases hv : v'.ownBlock with
    | none => exact .inl rfl
    | some q => exact .inr (fun e' => tR q hv aiP))
  ·rw [if_neg e, if_neg e]
   refine ((h.own j hj).kept G ?_).kept S ?_
   ·cases hv : (val j).ownBlock with
    | none => exact .inl rfl
    | some q => exact .inr (fun e' => h.qi i j hi hj (fun e2 => e e2.symm) q e'.symm hv)
   ·cases hv : (val j).ownBlock with
    | none => exact .inl rfl
    | some q =>
     refine .inr (fun e' => ?_)
     have M4 : q = cb := by simpa using e'
     exact cV (h.own j hj) h.l9 ahW q hv (by rw [M4]; rfl)
 ·have new : ∀ a, a < n → a ≠ i → ∀ q, v'.ownBlock = some q → (val a).ownBlock ≠ some q := fun a ha hai q hq hq2 => by
   rcases j6 with h1 | h1
   ·rw [h1] at hq
    exact h.qi i a hi ha (fun e => hai e.symm) q hq hq2
   ·rw [h1] at hq
    cases hq
    have := ((h.own a ha).lt _ hq2).2
    have := hb.size
    omega
  unfold upd at hq ⊢
  by_cases e1 : a = i
  ·rw [if_pos e1] at hq
   rw [if_neg (fun e => hac (e1.trans e.symm))]
   exact new c hc (fun e => hac (e1.trans e.symm)) q hq
  ·rw [if_neg e1] at hq
   by_cases e2 : c = i
   ·rw [if_pos e2]
    exact fun hq2 => new a ha e1 q hq2 hq
   ·rw [if_neg e2]
    exact h.qi a c ha hc hac q hq
theorem CM.start {B : List AB} {G : List aU} (h : CM V wr ab cb rb ib pb n bv pv val dM) (hB : fL V bv G) (hl : B.length = n) (hG : G.length = n) (h0 : 0 < n) (hn : n ≤ 1000000) (fc : ∀ (k : Nat) (x : aU) (b : AB), G[k]? = some x → B[k]? = some b → x.nx = b.nx) (hc : ∀ (k : Nat) (b : AB), B[k]? = some b → dM k = b.code) :
  An V (wr.setCell ⟨rb, 0, none⟩ (.bool true)) ab cb rb ib pb bv pv G B val (cg n) := by
 subst hl
 obtain ⟨c1, c2, c3, c4⟩ := h.Q1
 have n1 := aS h.head h.fo ahW
 have n2 := aS h.fo h.jM ahW
 have n3 := aS h.fo h.cH ahW
 have S := aQ wr rb 0 (.bool true)
 refine ⟨h.aD.grown S h.aD.size (fun k hk => by cases hk; exact h.rV), hB, hG, fc, hn, h.aV, h.rV, h.iV, h.pV, ?_, ?_, fun k b hk => ?_, ?_, ?_, ?_, rB _⟩
 ·rw [Below.heap_setCell _ _ _ _ (by show ab ≠ rb; exact n1)]; exact h.head
 ·exact h.l9.kept S (.inr (by simp [Value.ownBlock]; exact fun e => c2 e.symm))
 ·have hkl := (List.getElem?_eq_some_iff.1 hk).1
  have ho := h.own k hkl
  rw [hc k b hk] at ho
  refine ho.kept S ?_
  cases hv : (val k).ownBlock with
  | none => exact .inl rfl
  | some q => exact .inr (fun e' => (h.zi hkl q hv).2.2.2.1 aiP)
 ·rw [heap_setCell_same _ _ _ _ _ _ h.fo, uq]
  rfl
 ·rw [Below.heap_setCell _ _ _ _ (by show ib ≠ rb; exact n2.symm)]; exact h.jM
 ·rw [Below.heap_setCell _ _ _ _ (by show pb ≠ rb; exact n3.symm)]; exact h.cH
end
end
section
open Go.RowKit
def tu (w : World) (rv iv : Value) (rl : List Bool) (il : List RG) : Prop :=
 (∃ A cap, rv = .slice A rl.length cap ∧ rl.length ≤ cap ∧ cap ≤ maxLen ∧ (0 < rl.length → ∃ q off, A = some ⟨q, off, none⟩ ∧ q < w.heap.size ∧ ∀ k, k < rl.length → w.cell? ⟨q, off + k, none⟩ = some (.bool (rl.getD k false)))) ∧
 (∃ A cap, iv = .slice A il.length cap ∧ il.length ≤ cap ∧ cap ≤ maxLen ∧ (0 < il.length → ∃ q off, A = some ⟨q, off, none⟩ ∧ q < w.heap.size ∧ ∀ k, k < il.length → w.rangeAt q (off + k * 32) (aa (il.getD k []))))
theorem tu.below {w w' : World} {rv iv : Value} {rl : List Bool} {il : List RG} (h : tu w rv iv rl il) (hb : Below w.heap.size w w') : tu w' rv iv rl il := by
 obtain ⟨⟨A, cap, e1, e2, e3, e4⟩, ⟨A', cap', f1, f2, f3, f4⟩⟩ := h
 refine ⟨⟨A, cap, e1, e2, e3, fun h0 => ?_⟩, ⟨A', cap', f1, f2, f3, fun h0 => ?_⟩⟩
 ·obtain ⟨q, off, ha, hq, hc⟩ := e4 h0
  exact ⟨q, off, ha, by have := hb.size; omega, fun k hk => (hb.cell (p := ⟨q, off + k, none⟩) hq).trans (hc k hk)⟩
 ·obtain ⟨q, off, ha, hq, hc⟩ := f4 h0
  exact ⟨q, off, ha, by have := hb.size; omega, fun k hk j v hv => (hb.cell (p := ⟨q, off + k * 32 + j, none⟩) hq).trans (hc k hk j v hv)⟩
def codeFrom (cd : Nat → Int) (lo : Int) (m : Nat) : List Ins := (List.range m).map fun i : Nat => au cd (lo + (i : Int))
theorem jB (cd : Nat → Int) (lo : Int) (m : Nat) : codeFrom cd lo (m + 1) = codeFrom cd lo m ++ [au cd (lo + m)] := by
 unfold codeFrom
 rw [List.range_succ, List.map_append]
 rfl
end
section
open Go.RowKit
theorem sH (b : AB) (n : Nat) (r : RG) : fC b n 0 r = [] := by unfold fC; cases gS b.code r <;> simp
theorem AY {b : AB} {n k : Nat} {r : RG} (h : gS b.code r = none) (hk : k < b.nx.length) : fC b n (k + 1) r = fC b n k r ++ [((n : Int), b.nx.getD k 0)] := by
 unfold fC
 rw [h]
 simp only
 rw [List.take_add_one, List.map_append, List.getElem?_eq_getElem hk]
 simp [List.getD, List.getElem?_eq_getElem hk]
theorem AX {b : AB} {n k : Nat} {r bz : RG} (h : gS b.code r = some bz) : fC b n (k + 1) r = fC b n k r ++ (if (dW b.last b.nx.length k bz).isNone = true then [((n : Int), b.nx.getD k 0)] else []) := by
 unfold fC
 rw [h]
 simp only
 rw [List.range_succ, List.filter_append, List.map_append]
 congr 1
 cases he : (dW b.last b.nx.length k bz).isNone <;> simp only [List.filter_cons, List.filter_nil, he] <;> simp
theorem sG (B : List AB) (s : AS) (n : Nat) : fJ B s (n + 1) = fJ B s n ++ (if s.reach.getD n false = true then fC (B.getD n ⟨[], []⟩) n (B.getD n ⟨[], []⟩).nx.length (s.bC.getD n []) else []) := by
 unfold fJ
 rw [List.range_succ, List.flatMap_append]
 simp
theorem pI (b : AB) (n k : Nat) (r : RG) : (fC b n k r).length ≤ k := by
 unfold fC
 cases gS b.code r with
 | none => simp; omega
 | some bz =>
  simp only [List.length_map]
  exact Nat.le_trans (List.length_filter_le _ _) ahZ
theorem uW {B : List AB} {s : AS} (h : ∀ (k : Nat) (b : AB), B[k]? = some b → b.nx.length ≤ 1000) : ∀ n, (fJ B s n).length ≤ 1000 * n
 | 0 => by simp [fJ]
 | n + 1 => by
  rw [sG, List.length_append]
  have ih := uW (s := s) h n
  have h1 : (if s.reach.getD n false = true then fC (B.getD n ⟨[], []⟩) n (B.getD n ⟨[], []⟩).nx.length (s.bC.getD n []) else []).length ≤ 1000 := by
   split
   ·refine Nat.le_trans (pI _ _ _ _) ?_
    cases hb : B[n]? with
    | none => simp [List.getD, hb]
    | some b => rw [show B.getD n ⟨[], []⟩ = b by simp [List.getD, hb]]; exact h n b hb
   ·simp
  omega
structure DM (Z wr : World) (b15 rb ib n : Nat) (dv : Value) (L : List (Int × Int)) : Prop where
 aD : Below Z.heap.size Z wr
 ge : Z.heap.size ≤ b15
 head : wr.heap[b15]? = some (.cells #[.slice (some ⟨rb, 0, none⟩) n n, .slice (some ⟨ib, 0, none⟩) n n, dv] 59 (0, 0))
 row : wr.ownsRow Z.heap.size 109 2 dv L.length (xQ L)
section
variable {Z wr : World} {b15 rb ib n : Nat} {dv : Value} {L : List (Int × Int)}
theorem DM.below {wr' : World} (h : DM Z wr b15 rb ib n dv L) (hb : Below wr.heap.size wr wr') : DM Z wr' b15 rb ib n dv L :=
 ⟨h.aD.trans (hb.mono h.aD.size), h.ge, (hb.block _ (aB h.head)).trans h.head, ak h.row hb⟩
theorem DM.cell (h : DM Z wr b15 rb ib n dv L) : wr.cell? ⟨b15, 2, none⟩ = some dv ∧ wr.frozen? ⟨b15, 2, none⟩ = false ∧ b15 < wr.heap.size := by
 refine ⟨by simp [World.cell?, h.head], by simp [World.frozen?, h.head], aB h.head⟩
theorem DM.zi (h : DM Z wr b15 rb ib n dv L) : some b15 ≠ dv.ownBlock := fun e => by
 obtain ⟨cs, hc⟩ := dJ h.row e.symm
 exact aS hc h.head ahW rfl
theorem DM.app {w2 W' : World} {y : Int × Int} {v' : Value} (h : DM Z wr b15 rb ib n dv L) (hb : Below wr.heap.size wr w2) (hg : w2.grownBy W' dv.ownBlock)
  (hown : W'.ownsRow Z.heap.size 109 2 v' (L.length + 1) (xQ (L ++ [y]))) :
  DM Z (W'.setCell ⟨b15, 2, none⟩ v') b15 rb ib n v' (L ++ [y]) ∧ ∀ (k : Nat) (cs : Array Value) (T : TypeId), wr.heap[k]? = some (.cells cs T (0, 0)) → T ≠ 109 → T ≠ 59 → (W'.setCell ⟨b15, 2, none⟩ v').heap[k]? = some (.cells cs T (0, 0)) := by
 have G := grown_of hb hg
 have S := aQ W' b15 2 v'
 have hq : ∀ q, dv.ownBlock = some q → Z.heap.size ≤ q := fun q hq => (h.row.lt q hq).1
 have h15 : W'.heap[b15]? = some (.cells #[.slice (some ⟨rb, 0, none⟩) n n, .slice (some ⟨ib, 0, none⟩) n n, dv] 59 (0, 0)) := (G.block b15 (aB h.head) (fun e => h.zi e)).trans h.head
 refine ⟨⟨(h.aD.grown G h.aD.size hq).grown S (by have := G.size; have := h.aD.size; omega) (fun k hk => by cases hk; exact h.ge), h.ge, ?_, ?_⟩, fun k cs T hk h1 h2 => ?_⟩
 ·rw [heap_setCell_same _ _ _ _ _ _ h15]
  rfl
 ·rw [show (L ++ [y]).length = L.length + 1 by simp]
  refine hown.kept S ?_
  cases hv : v'.ownBlock with
  | none => exact .inl rfl
  | some q =>
   refine .inr (fun e' => ?_)
   obtain ⟨cs, hc⟩ := dJ hown hv
   have e2 : q = b15 := by simpa using e'
   exact aS hc h15 ahW e2
 ·rw [Below.heap_setCell _ _ _ _ (by show k ≠ b15; exact aS hk h.head h2), G.block k (aB hk) (fun e => by
   obtain ⟨cs', hc⟩ := dJ h.row e.symm
   exact aS hk hc h1 rfl)]
  exact hk
end
end
end Go.Proofs.YtlmgkipmfgijiaaGreatDoor
