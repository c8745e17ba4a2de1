/-
  What is proved here: parts vRap, rTr, rRf.
-/
import Derived.Test.YtebklpnkcicpjaaGreatDoorYa
import Derived.Test.YtebklpnkcicpjaaGreatDoorYq
import Derived.Test.YtebklpnkcicpjaaGreatDoorYr
import Derived.Test.YtebklpnkcicpjaaGreatDoorYs
import Derived.Deep.DeepCutAuto
import Derived.Test.YtebklpnkcicpjaaGreatDoorYn
import Derived.Test.YtebklpnkcicpjaaGreatDoorYi
import Derived.Test.YtebklpnkcicpjaaGreatDoorYh
namespace Go.Proofs.YtebklpnkcicpjaaGreatDoor
set_option linter.unusedVariables false
set_option linter.unusedSimpArgs false
set_option maxRecDepth 100000
set_option maxHeartbeats 8000000
section
open Go.RowKit
theorem EH (op xl xh yl yh : Int) (w : World) (hx1 : -2147483648 ≤ xl) (hx2 : xl ≤ 2147483647) (hx3 : -2147483648 ≤ xh) (hx4 : xh ≤ 2147483647) (hy1 : -2147483648 ≤ yl) (hy2 : yl ≤ 2147483647) (hy3 : -2147483648 ≤ yh) (hy4 : yh ≤ 2147483647) (h1 : 6 ≤ op) (h2 : op ≤ 23) (gw : xl ≤ xh) (fN : yl ≤ yh) (s : ¬ (xl = xh ∧ yl = yh)) :
  Calls Tryz.prog 43 #[.int .u8 op, .agg #[.int .i32 xl, .int .i32 xh], .agg #[.int .i32 yl, .int .i32 yh]] w fun e w' => e = .returned (.agg #[.int .i32 (gz op (xl, xh) (yl, yh)).1, .int .i32 (gz op (xl, xh) (yl, yh)).2]) ∧ Below w.heap.size w w' := by
 have ha := AY xl xh yl yh gw fN
 have hs : (xl == xh) = false ∨ ((xl == xh) = true ∧ (yl == yh) = false) := by
  by_cases e : xl = xh
  ·exact .inr ⟨by simpa using e, by simp; omega⟩
  ·exact .inl (by simpa using e)
 have mG := fun (zl zh : Int) (g : FuncId) (ov : Array Value) (nz : Bool) (I0 : (yl == 0 && yh == 0) = nz) hop HC => Or.elim hs (fun h => wA op xl xh yl yh zl zh g ov nz w I0 hop hx1 hx2 hx3 hx4 hy1 hy2 hy3 hy4 gw fN h HC) (fun h => wu op xl xh yl yh zl zh g ov nz w I0 hop hx1 hx2 hx3 hx4 hy1 hy2 hy3 hy4 gw fN h.1 h.2 HC)
 have A1 := fun (A N : Bool) hop => Or.elim hs (fun h => zD op xl xh yl yh A N w hop hx1 hx2 hx3 hx4 hy1 hy2 hy3 hy4 gw fN h) (fun h => zC op xl xh yl yh A N w hop hx1 hx2 hx3 hx4 hy1 hy2 hy3 hy4 gw fN h.1 h.2)
 have Lj := fun (A N b1 z1 b2 z2 : Bool) hop BX BY zx zy => Or.elim hs (fun h => zB op xl xh yl yh A N b1 z1 b2 z2 w hop hx1 hx2 hx3 hx4 hy1 hy2 hy3 hy4 gw fN h BX BY zx zy) (fun h => zA op xl xh yl yh A N b1 z1 b2 z2 w hop hx1 hx2 hx3 hx4 hy1 hy2 hy3 hy4 gw fN h.1 h.2 BX BY zx zy)
 have h : op = 6 ∨ op = 7 ∨ op = 8 ∨ op = 9 ∨ op = 10 ∨ op = 11 ∨ op = 12 ∨ op = 13 ∨ op = 14 ∨ op = 15 ∨ op = 16 ∨ op = 17 ∨ op = 18 ∨ op = 19 ∨ op = 20 ∨ op = 21 ∨ op = 22 ∨ op = 23 := by omega
 rcases h with rfl | rfl | rfl | rfl | rfl | rfl | rfl | rfl | rfl | rfl | rfl | rfl | rfl | rfl | rfl | rfl | rfl | rfl
 ·exact oU 6 xl xh yl yh _ _ _ _ w T1 hx1 hx2 hx3 hx4 hy1 hy2 hy3 hy4 gw fN hs (UZ fun W => wk _ _ _ _ W hx1 hx2 hx3 hx4 hy1 hy2 hy3 hy4)
 ·exact oU 7 xl xh yl yh _ _ _ _ w T1 hx1 hx2 hx3 hx4 hy1 hy2 hy3 hy4 gw fN hs (UZ fun W => wj _ _ _ _ W hx1 hx2 hx3 hx4 hy1 hy2 hy3 hy4)
 ·exact oU 8 xl xh yl yh _ _ _ _ w T1 hx1 hx2 hx3 hx4 hy1 hy2 hy3 hy4 gw fN hs (UZ fun W => wh _ _ _ _ W hx1 hx2 hx3 hx4 hy1 hy2 hy3 hy4)
 ·by_cases z : yl = 0 ∧ yh = 0
  ·refine (mG _ _ _ _ _ rfl (.inr (.inr (.inl ⟨rfl, rfl, rfl, by simpa using z⟩))) (UZ fun W => cF W)).mono fun e' w' ⟨q, hb⟩ => ⟨q.trans ?_, hb⟩
   rw [show gz 9 (xl, xh) (yl, yh) = j5 (xl, xh) (yl, yh) from rfl, j5, if_pos z]
  ·exact mG _ _ _ _ _ rfl (.inl ⟨rfl, rfl, rfl, by simpa using z⟩) (UZ fun W => ud xl xh yl yh W hx1 hx2 hx3 hx4 hy1 hy2 hy3 hy4 gw fN z)
 ·by_cases z : yl = 0 ∧ yh = 0
  ·refine (mG _ _ _ _ _ rfl (.inr (.inr (.inr (.inl ⟨rfl, rfl, rfl, by simpa using z⟩)))) (UZ fun W => cF W)).mono fun e' w' ⟨q, hb⟩ => ⟨q.trans ?_, hb⟩
   rw [show gz 10 (xl, xh) (yl, yh) = eJ (xl, xh) (yl, yh) from rfl, eJ, if_pos z]
  ·exact mG _ _ _ _ _ rfl (.inr (.inl ⟨rfl, rfl, rfl, by simpa using z⟩)) (UZ fun W => BQ xl xh yl yh W hx1 hx2 hx3 hx4 hy1 hy2 hy3 hy4 fN z)
 ·exact mG _ _ _ _ _ rfl (.inr (.inr (.inr (.inr (.inl ⟨rfl, rfl, rfl, rfl⟩))))) (UZ fun W => iO 11 xl xh yl yh W hx1 hx2 hx3 hx4 hy1 hy2 hy3 hy4 T1 T1 gw fN)
 ·exact mG _ _ _ _ _ rfl (.inr (.inr (.inr (.inr (.inr (.inl ⟨rfl, rfl, rfl, rfl⟩)))))) (UZ fun W => iO 12 xl xh yl yh W hx1 hx2 hx3 hx4 hy1 hy2 hy3 hy4 T1 T1 gw fN)
 ·exact mG _ _ _ _ _ rfl (.inr (.inr (.inr (.inr (.inr (.inr (.inl ⟨rfl, rfl, rfl, rfl⟩))))))) (UZ fun W => iO 13 xl xh yl yh W hx1 hx2 hx3 hx4 hy1 hy2 hy3 hy4 T1 T1 gw fN)
 ·exact mG _ _ _ _ _ rfl (.inr (.inr (.inr (.inr (.inr (.inr (.inr (.inl ⟨rfl, rfl, rfl, rfl⟩)))))))) (UZ fun W => oM 14 xl xh yl yh W hx1 hx2 hx3 hx4 hy1 hy2 hy3 hy4 T1 T1)
 ·exact mG _ _ _ _ _ rfl (.inr (.inr (.inr (.inr (.inr (.inr (.inr (.inr (⟨rfl, rfl, rfl, rfl⟩))))))))) (UZ fun W => oM 15 xl xh yl yh W hx1 hx2 hx3 hx4 hy1 hy2 hy3 hy4 T1 T1)
 ·refine (A1 _ _ (.inl ⟨rfl, rfl, rfl⟩)).mono fun e' w' ⟨q, hb⟩ => ⟨q.trans ?_, hb⟩
  rw [ha]
  rfl
 ·refine (A1 _ _ (.inr (.inl ⟨rfl, rfl, rfl⟩))).mono fun e' w' ⟨q, hb⟩ => ⟨q.trans ?_, hb⟩
  rw [ha]
  rfl
 ·exact A1 _ _ (.inr (.inr (.inl ⟨rfl, rfl, rfl⟩)))
 ·exact A1 _ _ (.inr (.inr (.inr (.inl ⟨rfl, rfl, rfl⟩))))
 ·exact A1 _ _ (.inr (.inr (.inr (.inr (.inl ⟨rfl, rfl, rfl⟩)))))
 ·exact A1 _ _ (.inr (.inr (.inr (.inr (.inr (⟨rfl, rfl, rfl⟩))))))
 ·exact Lj _ _ _ _ _ _ (.inl ⟨rfl, rfl, rfl⟩) (UZ rfl) (UZ rfl) rfl rfl
 ·exact Lj _ _ _ _ _ _ (.inr ⟨rfl, rfl, rfl⟩) (UZ rfl) (UZ rfl) rfl rfl
theorem jN (op xl xh yl yh : Int) (w : World) (hx1 : -2147483648 ≤ xl) (hx2 : xl ≤ 2147483647) (hx3 : -2147483648 ≤ xh) (hx4 : xh ≤ 2147483647) (hy1 : -2147483648 ≤ yl) (hy2 : yl ≤ 2147483647) (hy3 : -2147483648 ≤ yh) (hy4 : yh ≤ 2147483647) :
  Calls Tryz.prog 43 #[.int .u8 op, .agg #[.int .i32 xl, .int .i32 xh], .agg #[.int .i32 yl, .int .i32 yh]] w fun e w' => e = .returned (.agg #[.int .i32 (aM op (xl, xh) (yl, yh)).1, .int .i32 (aM op (xl, xh) (yl, yh)).2]) ∧ Below w.heap.size w w' := by
 by_cases no : op < 6 ∨ 23 < op
 ·refine (EG op xl xh yl yh true w T9).mono fun e w' ⟨q, hb⟩ => ⟨q.trans ?_, hb⟩
  rw [aM, if_pos no]
 by_cases ne : xh < xl ∨ yh < yl
 ·refine (EI op xl xh yl yh true w TX TX T9).mono fun e w' ⟨q, hb⟩ => ⟨q.trans ?_, hb⟩
  rw [aM, if_neg no, if_pos ne]
 by_cases s : xl = xh ∧ yl = yh
 ·obtain ⟨rfl, rfl⟩ := s
  by_cases k : we op yl = 0
  ·refine (oT op xl yl _ _ w TX TX ⟨hx1, hx2⟩ ⟨hy1, hy2⟩ (.inl ⟨by simpa using k, rfl, rfl⟩)).mono fun e w' ⟨q, hb⟩ => ⟨q.trans ?_, hb⟩
   rw [aM, if_neg no, if_neg ne, if_pos ⟨rfl, rfl⟩, if_pos k]
  ·refine (oT op xl yl _ _ w TX TX ⟨hx1, hx2⟩ ⟨hy1, hy2⟩ (.inr ⟨by simpa using k, rfl, rfl⟩)).mono fun e w' ⟨q, hb⟩ => ⟨q.trans ?_, hb⟩
   rw [aM, if_neg no, if_neg ne, if_pos ⟨rfl, rfl⟩, if_neg k]
 ·have ev : aM op (xl, xh) (yl, yh) = gz op (xl, xh) (yl, yh) := by rw [aM, if_neg no, if_neg ne, if_neg s]
  rw [ev]
  exact EH op xl xh yl yh w hx1 hx2 hx3 hx4 hy1 hy2 hy3 hy4 TX TX TX TX s
end
section
open Go.RowKit
structure yq (w U : World) (ins : Array Value) (r : RG) : Prop where
 aB : Below w.heap.size w U
 ki : U.heap[w.heap.size]? = some (.cells ins 64 (0, 0))
 kr : aC U (w.heap.size + 1) 61 r
 ko : U.heap[w.heap.size + 1 + 1]? = some (.cells (aa ak).toArray 61 (0, 0))
theorem yq.keep {w U W : World} {ins : Array Value} {r : RG} (h : yq w U ins r) (b : Below U.heap.size U W) : yq w W ins r :=
 ⟨h.aB.trans (b.mono h.aB.size), (b.block _ (ax h.ki)).trans h.ki, h.kr.keep b, (b.block _ (ax h.ko)).trans h.ko⟩
theorem Cu (x y : Int × Int) (hx : x.1 ≤ x.2) (hy : y.1 ≤ y.2) : (emp (aH x y) = true ↔ (sF x y).2 < (sF x y).1) ∧ (¬ (sF x y).2 < (sF x y).1 → aH x y = sF x y) := by
 have e : sF x y = (max x.1 y.1, min x.2 y.2) := by unfold sF; apply Prod.ext <;> simp only <;> split <;> omega
 rw [e]
 rcases oZ x y with ⟨c, h⟩ | ⟨c1, c2, c3, h⟩
 ·rw [h]
  have : min x.2 y.2 < max x.1 y.1 := by omega
  exact ⟨by simpa [emp] using this, fun h => absurd this h⟩
 ·rw [h]
  exact ⟨by simp [emp], fun _ => rfl⟩
theorem r7 (op a b c im : Int) (h0 : 0 ≤ op) (r : RG) (hr : R16 r) (w : World) (hno : aL ⟨op, a, b, c, im⟩ = false ∨ (aL ⟨op, a, b, c, im⟩ = true ∧ bk r = false)) :
  Calls Tryz.prog 13 #[.agg #[.int .u8 op, .int .i64 a, .int .i64 b, .int .i64 c, .int .i64 im], .agg (aa r).toArray] w fun e w' => e = .returned (cE none) ∧ Below w.heap.size w w' := by
 obtain ⟨V, hV, k0, k1, k2, bV, sV⟩ := aW w #[.int .u8 op, .int .i64 a, .int .i64 b, .int .i64 c, .int .i64 im] (aa r).toArray Va.toArray 64 61 61
 obtain ⟨a0, a1, a2, a3, a4, lV⟩ := aG k0
 have HC := UZ (show yq w V #[.int .u8 op, .int .i64 a, .int .i64 b, .int .i64 c, .int .i64 im] r from ⟨bV, k0, k1, k2⟩)
 have dI := UZ (Calls.ext (eN ⟨op, a, b, c, im⟩ h0 V))
 have jf := UZ (fun x : Ext V => Calls.au (x := x) (jM r hr.len x.w))
 clear k0 k1 k2 bV
 go_enter Tryz.func13, Tryz.ntmps13
 go_upto_region 1 with fail
 clear hV
 rcases hno with hv | ⟨hv, hp⟩
 ·rw [hv] at dI
  go_wp2_with (first | (go_at_call 40; refine dI.out.mono ?_; rintro e w' ⟨rfl, y, rfl⟩) | (refine wpList_store_row rfl 61 (.tmp 4) (.tmp 16) rfl (w.heap.size + 1 + 1) (aa ak).toArray rfl rfl 61 _ ((HC.out.keep (Ext.h _)).ko) (ra aZ ag) (hi6 ag ag) (aj ak) ?_))
  refine bodyPost_ret (results_cell_tmp (P := Tryz.prog) Tryz.results13 _ _ (w.heap.size + 1 + 1) (aa ak) _ rfl (aq (setRow_heap _ _ _ _ _ _ ((HC.out.keep y.h).ko))) Tryz.underlying61 rfl (rn aZ ag)) rfl ⟨rfl, below_setRow ((HC.out.keep y.h).aB) TX _⟩
 ·rw [hv] at dI
  rw [hp] at jf
  go_wp2_with (first | (go_at_call 40; refine dI.out.mono ?_; rintro e w' ⟨rfl, y, rfl⟩) | (go_at_call 41; refine (jf.out _).mono ?_; rintro e w' ⟨rfl, z, rfl⟩) | (refine aQ T8 _ _ rfl _ _ rfl (aa r) _ (HC.out.kr.keep (Ext.h _)).range Tryz.underlying61 rfl (rn aZ hr.len) ?_) | (refine wpList_store_row rfl 61 (.tmp 4) (.tmp 16) rfl (w.heap.size + 1 + 1) (aa ak).toArray rfl rfl 61 _ ((HC.out.keep (Ext.h _)).ko) (ra aZ ag) (hi6 ag ag) (aj ak) ?_))
  refine bodyPost_ret (results_cell_tmp (P := Tryz.prog) Tryz.results13 _ _ (w.heap.size + 1 + 1) (aa ak) _ rfl (aq (setRow_heap _ _ _ _ _ _ ((HC.out.keep z.h).ko))) Tryz.underlying61 rfl (rn aZ ag)) rfl ⟨rfl, below_setRow ((HC.out.keep z.h).aB) TX _⟩
theorem qV {r : RG} (h : bk r = true) (hl : r.length = 16) {k : Nat} (hk : k < 16) : (rg r (k : Int)).1 ≤ (rg r (k : Int)).2 := by
 by_cases h1 : (rg r (k : Int)).2 < (rg r (k : Int)).1
 ·rw [kJ TX h1] at h; cases h
 ·omega
theorem Ka {a b c im : Int} (h : aL ⟨25, a, b, c, im⟩ = true) : 1 ≤ im := by
 obtain ⟨k, g1, g2, -, -, -, i1, i2⟩ := (dy (i := ⟨25, a, b, c, im⟩) (show (0 : Int) ≤ 25 by decide)).1 h
 simp only at g1 i1 i2
 obtain rfl : k = 25 := by omega
 exact i1
theorem qo (op : Int) (an bn cn : Nat) (im : Int) (ha : an < 16) (hb : bn < 16) (hc : cn < 16) (Ec : -131072 ≤ im ∧ im ≤ 131071) (h0 : 0 ≤ op) (h30 : op < 30) (r : RG) (hr : R16 r) (w : World) (hv : aL ⟨op, an, bn, cn, im⟩ = true) (hp : bk r = true) :
  Calls Tryz.prog 13 #[.agg #[.int .u8 op, .int .i64 (an : Int), .int .i64 (bn : Int), .int .i64 (cn : Int), .int .i64 im], .agg (aa r).toArray] w fun e w' => e = .returned (cE (bQ ⟨op, an, bn, cn, im⟩ r)) ∧ Below w.heap.size w w' := by
 have Lb := UZ (fun (o1 : 2 ≤ op ∧ op ≤ 13) (hz : (op = 5 ∨ op = 6) ∧ rg r (cn : Int) = (0, 0)) => show bQ ⟨op, an, bn, cn, im⟩ r = none by unfold bQ; rw [if_pos ⟨hv, hp⟩, if_pos o1, if_pos hz])
 have GI := UZ (fun (o1 : 2 ≤ op ∧ op ≤ 13) (hz : ¬ ((op = 5 ∨ op = 6) ∧ rg r (cn : Int) = (0, 0))) => show bQ ⟨op, an, bn, cn, im⟩ r = some (aO r (an : Int) (aM (nM op) (rg r (bn : Int)) (rg r (cn : Int)))) by unfold bQ; rw [if_pos ⟨hv, hp⟩, if_pos o1, if_neg hz])
 have vp := UZ (fun (o1 : ¬ (2 ≤ op ∧ op ≤ 13)) => show bQ ⟨op, an, bn, cn, im⟩ r = (if op = 14 then some (aO r an (im, im)) else if op = 15 then some (aO r an (aM 6 (rg r bn) (im, im))) else if op = 16 then some (aO r an (aM 14 (rg r bn) (im, im)))
   else if op = 17 then some (aO r an (aM 12 (rg r bn) (im, im))) else if op = 18 ∨ op = 20 ∨ op = 26 then some (aO r an uN) else if op = 25 then (if emp (aH (rg r an) (0, im - 1)) = true then none else some (aO r an (aH (rg r an) (0, im - 1)))) else some r) by
  unfold bQ
  rw [if_pos ⟨hv, hp⟩, if_neg o1])
 obtain ⟨O, hO⟩ : ∃ O, bQ ⟨op, an, bn, cn, im⟩ r = O := ⟨_, rfl⟩
 rw [hO] at Lb GI vp ⊢
 clear hO
 obtain ⟨V, hV, k0, k1, k2, bV, sV⟩ := aW w #[.int .u8 op, .int .i64 (an : Int), .int .i64 (bn : Int), .int .i64 (cn : Int), .int .i64 im] (aa r).toArray Va.toArray 64 61 61
 obtain ⟨a0, a1, a2, a3, a4, lV⟩ := aG k0
 have HC := UZ (show yq w V #[.int .u8 op, .int .i64 (an : Int), .int .i64 (bn : Int), .int .i64 (cn : Int), .int .i64 im] r from ⟨bV, k0, k1, k2⟩)
 have dI := UZ (Calls.ext (eN ⟨op, an, bn, cn, im⟩ h0 V))
 have jf := UZ (fun x : Ext V => Calls.au (x := x) (jM r hr.len x.w))
 clear k0 k1 k2 bV
 go_enter Tryz.func13, Tryz.ntmps13
 go_upto_region 1 with fail
 clear hV
 rw [hv] at dI
 rw [hp] at jf
 have HP := UZ hp
 go_upto_region 3 with (first | (go_at_call 40; refine dI.out.mono ?_; rintro e w' ⟨rfl, y, rfl⟩) | (go_at_call 41; refine (jf.out _).mono ?_; rintro e w' ⟨rfl, z, rfl⟩) | (refine aQ T8 _ _ rfl _ _ rfl (aa r) _ (HC.out.kr.keep (Ext.h _)).range Tryz.underlying61 rfl (rn aZ hr.len) ?_))
 obtain ⟨U, hU⟩ : ∃ U, z.w = U := ⟨_, rfl⟩
 have eX := UZ (HC.out.keep (hU ▸ z.h))
 rw [hU]
 clear hU a0 a1 a2 a3 a4 lV dI jf HC hp
 obtain ⟨bl, hbl⟩ : ∃ bl, (rg r (bn : Int)).1 = bl := ⟨_, rfl⟩
 obtain ⟨bh, C6⟩ : ∃ bh, (rg r (bn : Int)).2 = bh := ⟨_, rfl⟩
 obtain ⟨cl, hcl⟩ : ∃ cl, (rg r (cn : Int)).1 = cl := ⟨_, rfl⟩
 obtain ⟨ch, hch⟩ : ∃ ch, (rg r (cn : Int)).2 = ch := ⟨_, rfl⟩
 obtain ⟨al, hal⟩ : ∃ al, (rg r (an : Int)).1 = al := ⟨_, rfl⟩
 obtain ⟨ah, wU⟩ : ∃ ah, (rg r (an : Int)).2 = ah := ⟨_, rfl⟩
 have nW := UZ hbl
 have LB := UZ C6
 have IW := UZ hcl
 have Bi := UZ hch
 have LF := UZ hal
 have LG := UZ wU
 have vr := UZ (show rg r (bn : Int) = (bl, bh) from Prod.ext hbl C6)
 have rS := UZ (show rg r (cn : Int) = (cl, ch) from Prod.ext hcl hch)
 have ow := UZ (show rg r (an : Int) = (al, ah) from Prod.ext hal wU)
 have ia : (an : Int) < 16 := by omega
 have ib : (bn : Int) < 16 := by omega
 have ic : (cn : Int) < 16 := by omega
 have eD : aK bl ∧ aK bh := by have h := hr.at_ (bn : Int); rw [vr.out] at h; exact h
 have hcw : aK cl ∧ aK ch := by have h := hr.at_ (cn : Int); rw [rS.out] at h; exact h
 have C7 : aK al ∧ aK ah := by have h := hr.at_ (an : Int); rw [ow.out] at h; exact h
 clear hbl C6 hcl hch hal wU
 obtain ⟨u0, u1, u2, u3, u4, lI⟩ := aG (eX.out).ki
 have r0 : U.cell? ⟨w.heap.size + 1, bn * 2, none⟩ = some (.int .i32 bl) := by rw [← nW.out]; exact (eX.out).kr.lo Uh
 have r1 : U.cell? ⟨w.heap.size + 1, bn * 2 + 1, none⟩ = some (.int .i32 bh) := by rw [← LB.out]; exact (eX.out).kr.hi Uh
 have r2 : U.cell? ⟨w.heap.size + 1, cn * 2, none⟩ = some (.int .i32 cl) := by rw [← IW.out]; exact (eX.out).kr.lo Ul
 have r3 : U.cell? ⟨w.heap.size + 1, cn * 2 + 1, none⟩ = some (.int .i32 ch) := by rw [← Bi.out]; exact (eX.out).kr.hi Ul
 have r4 : U.cell? ⟨w.heap.size + 1, an * 2, none⟩ = some (.int .i32 al) := by rw [← LF.out]; exact (eX.out).kr.lo Ud
 have r5 : U.cell? ⟨w.heap.size + 1, an * 2 + 1, none⟩ = some (.int .i32 ah) := by rw [← LG.out]; exact (eX.out).kr.hi Ud
 have lR := (eX.out).kr.lt
 have lO := ax (eX.out).ko
 have hC : (op = 0 ∨ op = 1 ∨ op = 19 ∨ op = 21 ∨ op = 22 ∨ op = 23 ∨ op = 24 ∨ op = 27 ∨ op = 28 ∨ op = 29) ∨ ((2 ≤ op ∧ op ≤ 13) ∧ (op = 5 ∨ op = 6) ∧ cl = 0 ∧ ch = 0) ∨ ((2 ≤ op ∧ op ≤ 13) ∧ (op = 5 ∨ op = 6) ∧ ¬ cl = 0) ∨ ((2 ≤ op ∧ op ≤ 13) ∧ (op = 5 ∨ op = 6) ∧ cl = 0 ∧ ¬ ch = 0) ∨ ((2 ≤ op ∧ op ≤ 13) ∧ ¬ (op = 5 ∨ op = 6)) ∨ op = 14 ∨ op = 15 ∨ op = 16 ∨ op = 17 ∨ (op = 18 ∨ op = 20 ∨ op = 26) ∨ op = 25 := by omega
 rcases hC with h | ⟨o1, h5, hz⟩ | ⟨o1, h5, hz⟩ | ⟨o1, h5, hz⟩ | ⟨o1, h5⟩ | h | h | h | h | h | h
 focus
  have cq := vp.out TX
  rw [if_neg TX, if_neg TX, if_neg TX, if_neg TX, if_neg TX, if_neg TX] at cq
  have jc := UZ cq
  clear cq
  rcases h with rfl | rfl | rfl | rfl | rfl | rfl | rfl | rfl | rfl | rfl
  all_goals
   go_wp2_with (first | (refine wpList_load_mid rfl _ _ rfl _ _ rfl (aa r) _ eX.out.kr.range Tryz.underlying61 rfl (rn aZ hr.len) ?_) | (refine wpList_store_row rfl 61 (.tmp 4) (.tmp 152) rfl (w.heap.size + 1 + 1) (aa r).toArray rfl rfl 61 _ eX.out.ko (ra aZ hr.len) (hi6 hr.len ag) (aj r) ?_))
   refine bodyPost_ret (results_cell_tmp (P := Tryz.prog) Tryz.results13 _ _ (w.heap.size + 1 + 1) (aa r) _ rfl (aq (setRow_heap _ _ _ _ _ _ eX.out.ko)) Tryz.underlying61 rfl (rn aZ hr.len)) rfl ⟨?_, below_setRow eX.out.aB TX _⟩
   rw [jc.out]
   rfl
 focus
  have d1 : decide (2 ≤ op) = true := decide_eq_true o1.1
  have d2 : decide (op ≤ 13) = true := decide_eq_true o1.2
  have jc := UZ (Lb.out o1 ⟨h5, by rw [rS.out, hz.1, hz.2]⟩)
  obtain ⟨rfl, rfl⟩ := hz
  clear hcw
  rcases h5 with rfl | rfl
  all_goals
   go_wp2_with (refine wpList_store_row rfl 61 (.tmp 4) (.tmp 48) rfl (w.heap.size + 1 + 1) (aa ak).toArray rfl rfl 61 _ ((eX.out.keep ((Below.refl _ _).alloc (Nat.le_refl _) _)).ko) (ra aZ ag) (hi6 ag ag) (aj ak) ?_)
   refine bodyPost_ret (results_cell_tmp (P := Tryz.prog) Tryz.results13 _ _ (w.heap.size + 1 + 1) (aa ak) _ rfl (aq (setRow_heap _ _ _ _ _ _ ((eX.out.keep ((Below.refl _ _).alloc (Nat.le_refl _) _)).ko))) Tryz.underlying61 rfl (rn aZ ag)) rfl ⟨?_, below_setRow ((eX.out.keep ((Below.refl _ _).alloc (Nat.le_refl _) _)).aB) TX _⟩
   rw [jc.out]
   rfl
 focus
  have Lh := UZ (fun h : cl = 0 ∧ ch = 0 => hz h.1)
  have e8 : (cl == 0) = false := by simpa using hz
  clear hz
  have hz : ¬ ((op = 5 ∨ op = 6) ∧ rg r (cn : Int) = (0, 0)) := fun h => Lh.out UN
  have d1 : decide (2 ≤ op) = true := decide_eq_true o1.1
  have d2 : decide (op ≤ 13) = true := decide_eq_true o1.2
  have qL := UZ (mN op o1.1 o1.2)
  have hap := fun w => jN (nM op) bl bh cl ch w eD.1.1 eD.1.2 eD.2.1 eD.2.2 hcw.1.1 hcw.1.2 hcw.2.1 hcw.2.2
  obtain ⟨xa, fc⟩ : ∃ xa, (aM (nM op) (bl, bh) (cl, ch)).1 = xa := ⟨_, rfl⟩
  obtain ⟨xb, hxb⟩ : ∃ xb, (aM (nM op) (bl, bh) (cl, ch)).2 = xb := ⟨_, rfl⟩
  have qf := UZ (show aK xa ∧ aK xb by rw [← fc, ← hxb]; exact fq eD hcw)
  rw [fc, hxb] at hap
  have qM := UZ hap
  have jd := GI.out o1 hz
  rw [vr.out, rS.out, show aM (nM op) (bl, bh) (cl, ch) = (xa, xb) from Prod.ext fc hxb] at jd
  have jc := UZ jd
  clear hz hap fc hxb eD hcw jd
  obtain ⟨r9, hr9⟩ : ∃ r9, aO r (an : Int) (xa, xb) = r9 := ⟨_, rfl⟩
  have qc := UZ (show r9.length = 16 by rw [← hr9]; exact (hr.aO _ qf.out).len)
  have HS := UZ (show ∀ w, Calls Tryz.prog 42 #[.agg (aa r).toArray, .int .i64 (an : Int), .agg #[.int .i32 xa, .int .i32 xb]] w (fun e w' => e = .returned (.agg (aa r9).toArray) ∧ Below w.heap.size w w') from hr9 ▸ fun w => eL r hr.len an ha xa xb w)
  have DY := UZ hr9
  clear hr9
  clear Lh
  rcases h5 with rfl | rfl
  all_goals
   go_upto_region 5 with fail
   obtain ⟨t6, ht6⟩ : ∃ t, U.heap.size = t := ⟨_, rfl⟩
   obtain ⟨W, hW⟩ : ∃ W, U.alloc (.cells #[.int .i32 cl, .int .i32 ch] 58) = W := ⟨_, rfl⟩
   have bW : Below U.heap.size U W := hW ▸ (Below.refl _ _).alloc (Nat.le_refl _) _
   have kW : W.heap[t6]? = some (.cells #[.int .i32 cl, .int .i32 ch] 58 (0, 0)) := by rw [← ht6]; exact hW ▸ heap_alloc_new _ _
   have dV := UZ (eX.out.keep bW)
   rw [hW, ht6]
   obtain ⟨g0, g1, -, -, l6⟩ := dA kW
   clear u0 u1 u2 u3 u4 lI r0 r1 r2 r3 r4 r5 lR lO
   clear hW ht6 kW bW
   obtain ⟨u0, u1, u2, u3, u4, lI⟩ := aG (dV.out).ki
   have r0 : W.cell? ⟨w.heap.size + 1, bn * 2, none⟩ = some (.int .i32 bl) := by rw [← nW.out]; exact (dV.out).kr.lo Uh
   have r1 : W.cell? ⟨w.heap.size + 1, bn * 2 + 1, none⟩ = some (.int .i32 bh) := by rw [← LB.out]; exact (dV.out).kr.hi Uh
   have r2 : W.cell? ⟨w.heap.size + 1, cn * 2, none⟩ = some (.int .i32 cl) := by rw [← IW.out]; exact (dV.out).kr.lo Ul
   have r3 : W.cell? ⟨w.heap.size + 1, cn * 2 + 1, none⟩ = some (.int .i32 ch) := by rw [← Bi.out]; exact (dV.out).kr.hi Ul
   have r4 : W.cell? ⟨w.heap.size + 1, an * 2, none⟩ = some (.int .i32 al) := by rw [← LF.out]; exact (dV.out).kr.lo Ud
   have r5 : W.cell? ⟨w.heap.size + 1, an * 2 + 1, none⟩ = some (.int .i32 ah) := by rw [← LG.out]; exact (dV.out).kr.hi Ud
   have lR := (dV.out).kr.lt
   have lO := ax (dV.out).ko
   go_upto_region 7 with fail
   have fR := UZ (show ∀ w', (∃ x : Ext W, w' = x.w) → w'.rangeAt (w.heap.size + 1) 0 (aa r) from by rintro _ ⟨x, rfl⟩; exact (dV.out.kr.keep x.h).range)
   refine aD 14 TY TY ?_
   simp only [U8, List.take_zero, U9, List.drop_zero]
   refine bH T8 _ _ rfl _ _ rfl (aa r) _ fR.out Tryz.underlying61 rfl (rn aZ hr.len) ?_
   (try simp only [U0, U3, U4, Act.put, U5, U6, U7])
   repeat (go_big_quiet_step (first | (go_at_call 44; exact Calls.au (qL.out _)) | (go_at_call 43; exact Calls.au (qM.out _)) | (go_at_call 42; exact Calls.au (HS.out _))))
   refine wpQuiet_nil ?_
   rintro _ ⟨x1, rfl⟩
 rotate_left 2
 focus
  have Lh := UZ (fun h : cl = 0 ∧ ch = 0 => hz.2 h.2)
  have e8 : (cl == 0) = true := by simpa using hz.1
  have e9 : (ch == 0) = false := by simpa using hz.2
  clear hz
  have hz : ¬ ((op = 5 ∨ op = 6) ∧ rg r (cn : Int) = (0, 0)) := fun h => Lh.out UN
  have d1 : decide (2 ≤ op) = true := decide_eq_true o1.1
  have d2 : decide (op ≤ 13) = true := decide_eq_true o1.2
  have qL := UZ (mN op o1.1 o1.2)
  have hap := fun w => jN (nM op) bl bh cl ch w eD.1.1 eD.1.2 eD.2.1 eD.2.2 hcw.1.1 hcw.1.2 hcw.2.1 hcw.2.2
  obtain ⟨xa, fc⟩ : ∃ xa, (aM (nM op) (bl, bh) (cl, ch)).1 = xa := ⟨_, rfl⟩
  obtain ⟨xb, hxb⟩ : ∃ xb, (aM (nM op) (bl, bh) (cl, ch)).2 = xb := ⟨_, rfl⟩
  have qf := UZ (show aK xa ∧ aK xb by rw [← fc, ← hxb]; exact fq eD hcw)
  rw [fc, hxb] at hap
  have qM := UZ hap
  have jd := GI.out o1 hz
  rw [vr.out, rS.out, show aM (nM op) (bl, bh) (cl, ch) = (xa, xb) from Prod.ext fc hxb] at jd
  have jc := UZ jd
  clear hz hap fc hxb eD hcw jd
  obtain ⟨r9, hr9⟩ : ∃ r9, aO r (an : Int) (xa, xb) = r9 := ⟨_, rfl⟩
  have qc := UZ (show r9.length = 16 by rw [← hr9]; exact (hr.aO _ qf.out).len)
  have HS := UZ (show ∀ w, Calls Tryz.prog 42 #[.agg (aa r).toArray, .int .i64 (an : Int), .agg #[.int .i32 xa, .int .i32 xb]] w (fun e w' => e = .returned (.agg (aa r9).toArray) ∧ Below w.heap.size w w') from hr9 ▸ fun w => eL r hr.len an ha xa xb w)
  have DY := UZ hr9
  clear hr9
  clear Lh
  rcases h5 with rfl | rfl
  all_goals
   go_upto_region 5 with fail
   obtain ⟨t6, ht6⟩ : ∃ t, U.heap.size = t := ⟨_, rfl⟩
   obtain ⟨W, hW⟩ : ∃ W, U.alloc (.cells #[.int .i32 cl, .int .i32 ch] 58) = W := ⟨_, rfl⟩
   have bW : Below U.heap.size U W := hW ▸ (Below.refl _ _).alloc (Nat.le_refl _) _
   have kW : W.heap[t6]? = some (.cells #[.int .i32 cl, .int .i32 ch] 58 (0, 0)) := by rw [← ht6]; exact hW ▸ heap_alloc_new _ _
   have dV := UZ (eX.out.keep bW)
   rw [hW, ht6]
   obtain ⟨g0, g1, -, -, l6⟩ := dA kW
   clear u0 u1 u2 u3 u4 lI r0 r1 r2 r3 r4 r5 lR lO
   clear hW ht6 kW bW
   obtain ⟨u0, u1, u2, u3, u4, lI⟩ := aG (dV.out).ki
   have r0 : W.cell? ⟨w.heap.size + 1, bn * 2, none⟩ = some (.int .i32 bl) := by rw [← nW.out]; exact (dV.out).kr.lo Uh
   have r1 : W.cell? ⟨w.heap.size + 1, bn * 2 + 1, none⟩ = some (.int .i32 bh) := by rw [← LB.out]; exact (dV.out).kr.hi Uh
   have r2 : W.cell? ⟨w.heap.size + 1, cn * 2, none⟩ = some (.int .i32 cl) := by rw [← IW.out]; exact (dV.out).kr.lo Ul
   have r3 : W.cell? ⟨w.heap.size + 1, cn * 2 + 1, none⟩ = some (.int .i32 ch) := by rw [← Bi.out]; exact (dV.out).kr.hi Ul
   have r4 : W.cell? ⟨w.heap.size + 1, an * 2, none⟩ = some (.int .i32 al) := by rw [← LF.out]; exact (dV.out).kr.lo Ud
   have r5 : W.cell? ⟨w.heap.size + 1, an * 2 + 1, none⟩ = some (.int .i32 ah) := by rw [← LG.out]; exact (dV.out).kr.hi Ud
   have lR := (dV.out).kr.lt
   have lO := ax (dV.out).ko
   go_upto_region 7 with fail
   have fR := UZ (show ∀ w', (∃ x : Ext W, w' = x.w) → w'.rangeAt (w.heap.size + 1) 0 (aa r) from by rintro _ ⟨x, rfl⟩; exact (dV.out.kr.keep x.h).range)
   refine aD 14 TY TY ?_
   simp only [U8, List.take_zero, U9, List.drop_zero]
   refine bH T8 _ _ rfl _ _ rfl (aa r) _ fR.out Tryz.underlying61 rfl (rn aZ hr.len) ?_
   (try simp only [U0, U3, U4, Act.put, U5, U6, U7])
   repeat (go_big_quiet_step (first | (go_at_call 44; exact Calls.au (qL.out _)) | (go_at_call 43; exact Calls.au (qM.out _)) | (go_at_call 42; exact Calls.au (HS.out _))))
   refine wpQuiet_nil ?_
   rintro _ ⟨x1, rfl⟩
 rotate_left 2
 focus
  have hz : ¬ ((op = 5 ∨ op = 6) ∧ rg r (cn : Int) = (0, 0)) := fun h => h5 h.1
  have d1 : decide (2 ≤ op) = true := decide_eq_true o1.1
  have d2 : decide (op ≤ 13) = true := decide_eq_true o1.2
  have qL := UZ (mN op o1.1 o1.2)
  have hap := fun w => jN (nM op) bl bh cl ch w eD.1.1 eD.1.2 eD.2.1 eD.2.2 hcw.1.1 hcw.1.2 hcw.2.1 hcw.2.2
  obtain ⟨xa, fc⟩ : ∃ xa, (aM (nM op) (bl, bh) (cl, ch)).1 = xa := ⟨_, rfl⟩
  obtain ⟨xb, hxb⟩ : ∃ xb, (aM (nM op) (bl, bh) (cl, ch)).2 = xb := ⟨_, rfl⟩
  have qf := UZ (show aK xa ∧ aK xb by rw [← fc, ← hxb]; exact fq eD hcw)
  rw [fc, hxb] at hap
  have qM := UZ hap
  have jd := GI.out o1 hz
  rw [vr.out, rS.out, show aM (nM op) (bl, bh) (cl, ch) = (xa, xb) from Prod.ext fc hxb] at jd
  have jc := UZ jd
  clear hz hap fc hxb eD hcw jd
  obtain ⟨r9, hr9⟩ : ∃ r9, aO r (an : Int) (xa, xb) = r9 := ⟨_, rfl⟩
  have qc := UZ (show r9.length = 16 by rw [← hr9]; exact (hr.aO _ qf.out).len)
  have HS := UZ (show ∀ w, Calls Tryz.prog 42 #[.agg (aa r).toArray, .int .i64 (an : Int), .agg #[.int .i32 xa, .int .i32 xb]] w (fun e w' => e = .returned (.agg (aa r9).toArray) ∧ Below w.heap.size w w') from hr9 ▸ fun w => eL r hr.len an ha xa xb w)
  have DY := UZ hr9
  clear hr9
  have e5 : (op == 5) = false := by rw [Bool.eq_false_iff]; intro h; exact h5 (.inl Ur)
  have e6 : (op == 6) = false := by rw [Bool.eq_false_iff]; intro h; exact h5 (.inr Ur)
  clear h5
  go_upto_region 5 with fail
  obtain ⟨t6, ht6⟩ : ∃ t, U.heap.size = t := ⟨_, rfl⟩
  obtain ⟨W, hW⟩ : ∃ W, U.alloc (.cells #[.int .i32 cl, .int .i32 ch] 58) = W := ⟨_, rfl⟩
  have bW : Below U.heap.size U W := hW ▸ (Below.refl _ _).alloc (Nat.le_refl _) _
  have kW : W.heap[t6]? = some (.cells #[.int .i32 cl, .int .i32 ch] 58 (0, 0)) := by rw [← ht6]; exact hW ▸ heap_alloc_new _ _
  have dV := UZ (eX.out.keep bW)
  rw [hW, ht6]
  obtain ⟨g0, g1, -, -, l6⟩ := dA kW
  clear u0 u1 u2 u3 u4 lI r0 r1 r2 r3 r4 r5 lR lO
  clear hW ht6 kW bW
  obtain ⟨u0, u1, u2, u3, u4, lI⟩ := aG (dV.out).ki
  have r0 : W.cell? ⟨w.heap.size + 1, bn * 2, none⟩ = some (.int .i32 bl) := by rw [← nW.out]; exact (dV.out).kr.lo Uh
  have r1 : W.cell? ⟨w.heap.size + 1, bn * 2 + 1, none⟩ = some (.int .i32 bh) := by rw [← LB.out]; exact (dV.out).kr.hi Uh
  have r2 : W.cell? ⟨w.heap.size + 1, cn * 2, none⟩ = some (.int .i32 cl) := by rw [← IW.out]; exact (dV.out).kr.lo Ul
  have r3 : W.cell? ⟨w.heap.size + 1, cn * 2 + 1, none⟩ = some (.int .i32 ch) := by rw [← Bi.out]; exact (dV.out).kr.hi Ul
  have r4 : W.cell? ⟨w.heap.size + 1, an * 2, none⟩ = some (.int .i32 al) := by rw [← LF.out]; exact (dV.out).kr.lo Ud
  have r5 : W.cell? ⟨w.heap.size + 1, an * 2 + 1, none⟩ = some (.int .i32 ah) := by rw [← LG.out]; exact (dV.out).kr.hi Ud
  have lR := (dV.out).kr.lt
  have lO := ax (dV.out).ko
  go_upto_region 7 with fail
  have fR := UZ (show ∀ w', (∃ x : Ext W, w' = x.w) → w'.rangeAt (w.heap.size + 1) 0 (aa r) from by rintro _ ⟨x, rfl⟩; exact (dV.out.kr.keep x.h).range)
  refine aD 14 TY TY ?_
  simp only [U8, List.take_zero, U9, List.drop_zero]
  refine bH T8 _ _ rfl _ _ rfl (aa r) _ fR.out Tryz.underlying61 rfl (rn aZ hr.len) ?_
  (try simp only [U0, U3, U4, Act.put, U5, U6, U7])
  repeat (go_big_quiet_step (first | (go_at_call 44; exact Calls.au (qL.out _)) | (go_at_call 43; exact Calls.au (qM.out _)) | (go_at_call 42; exact Calls.au (HS.out _))))
  refine wpQuiet_nil ?_
  rintro _ ⟨x1, rfl⟩
 rotate_left 1
 focus
  have cq := vp.out TX
  rw [if_pos h] at cq
  have jc := UZ cq
  clear cq
  subst h
  have qf := UZ (show aK im ∧ aK im by unfold aK; omega)
  have FP := UZ (fun w => ld im w TX TX)
  obtain ⟨r9, hr9⟩ : ∃ r9, aO r (an : Int) (im, im) = r9 := ⟨_, rfl⟩
  have qc := UZ (show r9.length = 16 by rw [← hr9]; exact (hr.aO _ qf.out).len)
  have HS := UZ (show ∀ w, Calls Tryz.prog 42 #[.agg (aa r).toArray, .int .i64 (an : Int), .agg #[.int .i32 im, .int .i32 im]] w (fun e w' => e = .returned (.agg (aa r9).toArray) ∧ Below w.heap.size w w') from hr9 ▸ fun w => eL r hr.len an ha im im w)
  have DY := UZ hr9
  clear hr9
  obtain ⟨W, hW⟩ : ∃ W, U = W := ⟨_, rfl⟩
  rw [hW] at u0 u1 u2 u3 u4 lI r0 r1 r2 r3 r4 r5 lR lO eX ⊢
  have dV := eX
  clear hW
  go_upto_region 10 with fail
  have fR := UZ (show ∀ w', (∃ x : Ext W, w' = x.w) → w'.rangeAt (w.heap.size + 1) 0 (aa r) from by rintro _ ⟨x, rfl⟩; exact (dV.out.kr.keep x.h).range)
  refine aD 7 TY TY ?_
  simp only [U8, List.take_zero, U9, List.drop_zero]
  refine bH T8 _ _ rfl _ _ rfl (aa r) _ fR.out Tryz.underlying61 rfl (rn aZ hr.len) ?_
  (try simp only [U0, U3, U4, Act.put, U5, U6, U7])
  repeat (go_big_quiet_step (first | (go_at_call 45; exact Calls.au (FP.out _)) | (go_at_call 42; exact Calls.au (HS.out _))))
  refine wpQuiet_nil ?_
  rintro _ ⟨x1, rfl⟩
 rotate_left 1
 focus
  have cq := vp.out TX
  rw [if_neg TX, if_pos h] at cq
  subst h
  have hap := fun w => jN 6 bl bh im im w eD.1.1 eD.1.2 eD.2.1 eD.2.2 TX TX TX TX
  obtain ⟨xa, fc⟩ : ∃ xa, (aM 6 (bl, bh) (im, im)).1 = xa := ⟨_, rfl⟩
  obtain ⟨xb, hxb⟩ : ∃ xb, (aM 6 (bl, bh) (im, im)).2 = xb := ⟨_, rfl⟩
  have qf := UZ (show aK xa ∧ aK xb by rw [← fc, ← hxb]; exact fq eD Uv)
  rw [fc, hxb] at hap
  have qM := UZ hap
  have FP := UZ (fun w => ld im w TX TX)
  rw [vr.out, show aM 6 (bl, bh) (im, im) = (xa, xb) from Prod.ext fc hxb] at cq
  have jc := UZ cq
  clear hap fc hxb eD hcw cq
  obtain ⟨r9, hr9⟩ : ∃ r9, aO r (an : Int) (xa, xb) = r9 := ⟨_, rfl⟩
  have qc := UZ (show r9.length = 16 by rw [← hr9]; exact (hr.aO _ qf.out).len)
  have HS := UZ (show ∀ w, Calls Tryz.prog 42 #[.agg (aa r).toArray, .int .i64 (an : Int), .agg #[.int .i32 xa, .int .i32 xb]] w (fun e w' => e = .returned (.agg (aa r9).toArray) ∧ Below w.heap.size w w') from hr9 ▸ fun w => eL r hr.len an ha xa xb w)
  have DY := UZ hr9
  clear hr9
  obtain ⟨W, hW⟩ : ∃ W, U = W := ⟨_, rfl⟩
  rw [hW] at u0 u1 u2 u3 u4 lI r0 r1 r2 r3 r4 r5 lR lO eX ⊢
  have dV := eX
  clear hW
  go_upto_region 12 with fail
  have fR := UZ (show ∀ w', (∃ x : Ext W, w' = x.w) → w'.rangeAt (w.heap.size + 1) 0 (aa r) from by rintro _ ⟨x, rfl⟩; exact (dV.out.kr.keep x.h).range)
  refine aD 13 TY TY ?_
  simp only [U8, List.take_zero, U9, List.drop_zero]
  refine bH T8 _ _ rfl _ _ rfl (aa r) _ fR.out Tryz.underlying61 rfl (rn aZ hr.len) ?_
  (try simp only [U0, U3, U4, Act.put, U5, U6, U7])
  repeat (go_big_quiet_step (first | (go_at_call 45; exact Calls.au (FP.out _)) | (go_at_call 43; exact Calls.au (qM.out _)) | (go_at_call 42; exact Calls.au (HS.out _))))
  refine wpQuiet_nil ?_
  rintro _ ⟨x1, rfl⟩
 rotate_left 1
 focus
  have cq := vp.out TX
  rw [if_neg TX, if_neg TX, if_pos h] at cq
  subst h
  have hap := fun w => jN 14 bl bh im im w eD.1.1 eD.1.2 eD.2.1 eD.2.2 TX TX TX TX
  obtain ⟨xa, fc⟩ : ∃ xa, (aM 14 (bl, bh) (im, im)).1 = xa := ⟨_, rfl⟩
  obtain ⟨xb, hxb⟩ : ∃ xb, (aM 14 (bl, bh) (im, im)).2 = xb := ⟨_, rfl⟩
  have qf := UZ (show aK xa ∧ aK xb by rw [← fc, ← hxb]; exact fq eD Uv)
  rw [fc, hxb] at hap
  have qM := UZ hap
  have FP := UZ (fun w => ld im w TX TX)
  rw [vr.out, show aM 14 (bl, bh) (im, im) = (xa, xb) from Prod.ext fc hxb] at cq
  have jc := UZ cq
  clear hap fc hxb eD hcw cq
  obtain ⟨r9, hr9⟩ : ∃ r9, aO r (an : Int) (xa, xb) = r9 := ⟨_, rfl⟩
  have qc := UZ (show r9.length = 16 by rw [← hr9]; exact (hr.aO _ qf.out).len)
  have HS := UZ (show ∀ w, Calls Tryz.prog 42 #[.agg (aa r).toArray, .int .i64 (an : Int), .agg #[.int .i32 xa, .int .i32 xb]] w (fun e w' => e = .returned (.agg (aa r9).toArray) ∧ Below w.heap.size w w') from hr9 ▸ fun w => eL r hr.len an ha xa xb w)
  have DY := UZ hr9
  clear hr9
  obtain ⟨W, hW⟩ : ∃ W, U = W := ⟨_, rfl⟩
  rw [hW] at u0 u1 u2 u3 u4 lI r0 r1 r2 r3 r4 r5 lR lO eX ⊢
  have dV := eX
  clear hW
  go_upto_region 14 with fail
  have fR := UZ (show ∀ w', (∃ x : Ext W, w' = x.w) → w'.rangeAt (w.heap.size + 1) 0 (aa r) from by rintro _ ⟨x, rfl⟩; exact (dV.out.kr.keep x.h).range)
  refine aD 13 TY TY ?_
  simp only [U8, List.take_zero, U9, List.drop_zero]
  refine bH T8 _ _ rfl _ _ rfl (aa r) _ fR.out Tryz.underlying61 rfl (rn aZ hr.len) ?_
  (try simp only [U0, U3, U4, Act.put, U5, U6, U7])
  repeat (go_big_quiet_step (first | (go_at_call 45; exact Calls.au (FP.out _)) | (go_at_call 43; exact Calls.au (qM.out _)) | (go_at_call 42; exact Calls.au (HS.out _))))
  refine wpQuiet_nil ?_
  rintro _ ⟨x1, rfl⟩
 rotate_left 1
 focus
  have cq := vp.out TX
  rw [if_neg TX, if_neg TX, if_neg TX, if_pos h] at cq
  subst h
  have hap := fun w => jN 12 bl bh im im w eD.1.1 eD.1.2 eD.2.1 eD.2.2 TX TX TX TX
  obtain ⟨xa, fc⟩ : ∃ xa, (aM 12 (bl, bh) (im, im)).1 = xa := ⟨_, rfl⟩
  obtain ⟨xb, hxb⟩ : ∃ xb, (aM 12 (bl, bh) (im, im)).2 = xb := ⟨_, rfl⟩
  have qf := UZ (show aK xa ∧ aK xb by rw [← fc, ← hxb]; exact fq eD Uv)
  rw [fc, hxb] at hap
  have qM := UZ hap
  have FP := UZ (fun w => ld im w TX TX)
  rw [vr.out, show aM 12 (bl, bh) (im, im) = (xa, xb) from Prod.ext fc hxb] at cq
  have jc := UZ cq
  clear hap fc hxb eD hcw cq
  obtain ⟨r9, hr9⟩ : ∃ r9, aO r (an : Int) (xa, xb) = r9 := ⟨_, rfl⟩
  have qc := UZ (show r9.length = 16 by rw [← hr9]; exact (hr.aO _ qf.out).len)
  have HS := UZ (show ∀ w, Calls Tryz.prog 42 #[.agg (aa r).toArray, .int .i64 (an : Int), .agg #[.int .i32 xa, .int .i32 xb]] w (fun e w' => e = .returned (.agg (aa r9).toArray) ∧ Below w.heap.size w w') from hr9 ▸ fun w => eL r hr.len an ha xa xb w)
  have DY := UZ hr9
  clear hr9
  obtain ⟨W, hW⟩ : ∃ W, U = W := ⟨_, rfl⟩
  rw [hW] at u0 u1 u2 u3 u4 lI r0 r1 r2 r3 r4 r5 lR lO eX ⊢
  have dV := eX
  clear hW
  go_upto_region 16 with fail
  have fR := UZ (show ∀ w', (∃ x : Ext W, w' = x.w) → w'.rangeAt (w.heap.size + 1) 0 (aa r) from by rintro _ ⟨x, rfl⟩; exact (dV.out.kr.keep x.h).range)
  refine aD 13 TY TY ?_
  simp only [U8, List.take_zero, U9, List.drop_zero]
  refine bH T8 _ _ rfl _ _ rfl (aa r) _ fR.out Tryz.underlying61 rfl (rn aZ hr.len) ?_
  (try simp only [U0, U3, U4, Act.put, U5, U6, U7])
  repeat (go_big_quiet_step (first | (go_at_call 45; exact Calls.au (FP.out _)) | (go_at_call 43; exact Calls.au (qM.out _)) | (go_at_call 42; exact Calls.au (HS.out _))))
  refine wpQuiet_nil ?_
  rintro _ ⟨x1, rfl⟩
 rotate_left 1
 focus
  have cq := vp.out TX
  rw [if_neg TX, if_neg TX, if_neg TX, if_neg TX, if_pos h] at cq
  have jc := UZ cq
  clear cq
  have qf := UZ (show aK (-2147483648) ∧ aK 2147483647 by unfold aK; omega)
  obtain ⟨r9, hr9⟩ : ∃ r9, aO r (an : Int) (-2147483648, 2147483647) = r9 := ⟨_, rfl⟩
  have qc := UZ (show r9.length = 16 by rw [← hr9]; exact (hr.aO _ qf.out).len)
  have HS := UZ (show ∀ w, Calls Tryz.prog 42 #[.agg (aa r).toArray, .int .i64 (an : Int), .agg #[.int .i32 (-2147483648), .int .i32 2147483647]] w (fun e w' => e = .returned (.agg (aa r9).toArray) ∧ Below w.heap.size w w') from hr9 ▸ fun w => eL r hr.len an ha (-2147483648) 2147483647 w)
  have DY := UZ hr9
  clear hr9
  rcases h with rfl | rfl | rfl
  all_goals
   obtain ⟨W, hW⟩ : ∃ W, U = W := ⟨_, rfl⟩
   rw [hW] at u0 u1 u2 u3 u4 lI r0 r1 r2 r3 r4 r5 lR lO eX ⊢
   have dV := eX
   clear hW
   go_upto_region 20 with fail
   have fR := UZ (show ∀ w', (∃ x : Ext W, w' = x.w) → w'.rangeAt (w.heap.size + 1) 0 (aa r) from by rintro _ ⟨x, rfl⟩; exact (dV.out.kr.keep x.h).range)
   refine aD 5 TY TY ?_
   simp only [U8, List.take_zero, U9, List.drop_zero]
   refine bH T8 _ _ rfl _ _ rfl (aa r) _ fR.out Tryz.underlying61 rfl (rn aZ hr.len) ?_
   (try simp only [U0, U3, U4, Act.put, U5, U6, U7])
   repeat (go_big_quiet_step (first | (go_at_call 46; exact Calls.au (cH _)) | (go_at_call 42; exact Calls.au (HS.out _))))
   refine wpQuiet_nil ?_
   rintro _ ⟨x1, rfl⟩
 rotate_left 3
 focus
  have cq := vp.out TX
  rw [if_neg TX, if_neg TX, if_neg TX, if_neg TX, if_neg TX, if_pos h] at cq
  subst h
  have Nq := Ka hv
  obtain ⟨xa, xb, hx⟩ : ∃ xa xb, sF (al, ah) (0, im - 1) = (xa, xb) := ⟨_, _, rfl⟩
  have hme := fun w => qP al ah 0 (im - 1) w
  rw [hx] at hme
  have IP := UZ hme
  have Nh := Cu (al, ah) (0, im - 1) (by have h := qV HP.out hr.len ha; rw [ow.out] at h; exact h) Us
  rw [hx] at Nh
  have Om := UZ Nh
  have qf := UZ (show aK xa ∧ aK xb by
   have h1 : xa = (sF (al, ah) (0, im - 1)).1 := by rw [hx]
   have h2 : xb = (sF (al, ah) (0, im - 1)).2 := by rw [hx]
   rw [h1, h2]
   unfold sF aK at *
   simp only
   constructor <;> split <;> omega)
  rw [ow.out] at cq
  have LC := UZ cq
  have w1 : IntKind.i64.wrap (im - 1) = im - 1 := IntWalk.i64_in _ TX
  have w2 : IntKind.i32.wrap (im - 1) = im - 1 := IntWalk.i32_in _ TX
  clear hme hx eD hcw C7 Nh cq Nq
  go_upto_region 22 with fail
  go_cut [7] from 130 to 140 (fun s7 wx => ∃ (g : Nat) (v : Ext U), s7 = .pointer (some ⟨g, 0, none⟩) ∧ wx = v.w ∧ v.w.cell? ⟨g, 0, none⟩ = some (.int .i32 xa) ∧ v.w.cell? ⟨g, 1, none⟩ = some (.int .i32 xb) ∧ g < v.w.heap.size)
  case first =>
   as_aux_lemma =>
    have K0 : bI U U := Below.refl _ _
    go_region_held3 (fun w' => (∀ b o, b < U.heap.size → w'.cell? ⟨b, o, none⟩ = U.cell? ⟨b, o, none⟩) ∧ bI U w') ((refine o9 rfl ?_; (repeat (first | (with_reducible assumption) | (with_reducible refine bI.alloc ?_ _) | (with_reducible refine bI.ext ?_ _) | (with_reducible refine bI.set ?_ Un _) | (with_reducible refine bI.drew ?_)))))
     (first | (go_at_call 47; (first | (with_reducible refine (Calls.au (IP.out _)).mono ?_) | (with_reducible refine (Calls.ext (IP.out _)).mono ?_)); rintro e _ ⟨rfl, y, rfl⟩; have KK : bI U y.w := (by (repeat (first | (with_reducible assumption) | (with_reducible refine bI.alloc ?_ _) | (with_reducible refine bI.ext ?_ _) | (with_reducible refine bI.set ?_ Un _) | (with_reducible refine bI.drew ?_)))); have KS : U.heap.size ≤ y.w.heap.size := KK.size; (have KZ := Below.size (Ext.h y)); (try simp only [World.size_alloc, World.size_drew] at KZ); (try have KM : U.heap.size < y.w.heap.size := TX)))
    all_goals (go_wp2_with fail; go_meet; refine ym ?_ ?_ ?_ ?_)
    all_goals first
     | (with_reducible show bI _ _; (repeat (first | (with_reducible assumption) | (with_reducible refine bI.alloc ?_ _) | (with_reducible refine bI.ext ?_ _) | (with_reducible refine bI.set ?_ Un _) | (with_reducible refine bI.drew ?_))); done)
     | (simp; done)
     | (simp; omega)
     | (go_simp; done)
     | (simp; refine World.cell?_setCell_same _ _ _ (u := .int .i32 0) ?_; go_simp; done)
     | (go_simp; refine World.cell?_setCell_same _ _ _ (u := .int .i32 0) ?_; go_simp; done)
  obtain ⟨tb, v, rfl, rfl, t0, t1, l7⟩ := hcut
  obtain ⟨W, hW⟩ : ∃ W, v.w = W := ⟨_, rfl⟩
  have dV := UZ (eX.out.keep (hW ▸ v.h))
  rw [hW] at t0 t1 l7 ⊢
  clear u0 u1 u2 u3 u4 lI r0 r1 r2 r3 r4 r5 lR lO
  clear hW w1 w2
  obtain ⟨u0, u1, u2, u3, u4, lI⟩ := aG (dV.out).ki
  have r0 : W.cell? ⟨w.heap.size + 1, bn * 2, none⟩ = some (.int .i32 bl) := by rw [← nW.out]; exact (dV.out).kr.lo Uh
  have r1 : W.cell? ⟨w.heap.size + 1, bn * 2 + 1, none⟩ = some (.int .i32 bh) := by rw [← LB.out]; exact (dV.out).kr.hi Uh
  have r2 : W.cell? ⟨w.heap.size + 1, cn * 2, none⟩ = some (.int .i32 cl) := by rw [← IW.out]; exact (dV.out).kr.lo Ul
  have r3 : W.cell? ⟨w.heap.size + 1, cn * 2 + 1, none⟩ = some (.int .i32 ch) := by rw [← Bi.out]; exact (dV.out).kr.hi Ul
  have r4 : W.cell? ⟨w.heap.size + 1, an * 2, none⟩ = some (.int .i32 al) := by rw [← LF.out]; exact (dV.out).kr.lo Ud
  have r5 : W.cell? ⟨w.heap.size + 1, an * 2 + 1, none⟩ = some (.int .i32 ah) := by rw [← LG.out]; exact (dV.out).kr.hi Ud
  have lR := (dV.out).kr.lt
  have lO := ax (dV.out).ko
  by_cases he : xb < xa
  ·have d := decide_eq_true he
   have jc := UZ (LC.out.trans (if_pos (Om.out.1.2 he)))
   clear he
   go_wp2_with (refine wpList_store_row rfl 61 (.tmp 4) (.tmp 146) rfl (w.heap.size + 1 + 1) (aa ak).toArray rfl rfl 61 _ (dV.out.ko) (ra aZ ag) (hi6 ag ag) (aj ak) ?_)
   refine bodyPost_ret (results_cell_tmp (P := Tryz.prog) Tryz.results13 _ _ (w.heap.size + 1 + 1) (aa ak) _ rfl (aq (setRow_heap _ _ _ _ _ _ (dV.out.ko))) Tryz.underlying61 rfl (rn aZ ag)) rfl ⟨?_, below_setRow (dV.out.aB) TX _⟩
   rw [jc.out]
   rfl
  have d := decide_eq_false he
  have jc := UZ (LC.out.trans (if_neg (fun h => he (Om.out.1.1 h))))
  rw [Om.out.2 he] at jc
  clear he
  obtain ⟨r9, hr9⟩ : ∃ r9, aO r (an : Int) (xa, xb) = r9 := ⟨_, rfl⟩
  have qc := UZ (show r9.length = 16 by rw [← hr9]; exact (hr.aO _ qf.out).len)
  have HS := UZ (show ∀ w, Calls Tryz.prog 42 #[.agg (aa r).toArray, .int .i64 (an : Int), .agg #[.int .i32 xa, .int .i32 xb]] w (fun e w' => e = .returned (.agg (aa r9).toArray) ∧ Below w.heap.size w w') from hr9 ▸ fun w => eL r hr.len an ha xa xb w)
  have DY := UZ hr9
  clear hr9
  go_wp2_with (first | (refine wpList_load_mid rfl _ _ rfl _ _ rfl (aa r) _ dV.out.kr.range Tryz.underlying61 rfl (rn aZ hr.len) ?_) | (go_at_call 42; refine (Calls.ext (HS.out _)).mono ?_; rintro e w' ⟨rfl, x1, rfl⟩) | (refine wpList_store_row rfl 61 (.tmp 4) _ rfl (w.heap.size + 1 + 1) (aa r9).toArray rfl rfl 61 _ (dV.out.keep (Ext.h _)).ko (ra aZ qc.out) (hi6 qc.out ag) (aj r9) ?_))
  have Mx := UZ (dV.out.keep x1.h)
 rotate_left 1
 iterate 12
  focus
   have Mx := UZ (dV.out.keep x1.h)
   go_wp2_with (refine wpList_store_row rfl 61 (.tmp 4) _ rfl (w.heap.size + 1 + 1) (aa r9).toArray rfl rfl 61 _ Mx.out.ko (ra aZ qc.out) (hi6 qc.out ag) (aj r9) ?_)
  rotate_left 1
 all_goals
  refine bodyPost_ret (results_cell_tmp (P := Tryz.prog) Tryz.results13 _ _ (w.heap.size + 1 + 1) (aa r9) _ rfl (aq (setRow_heap _ _ _ _ _ _ Mx.out.ko)) Tryz.underlying61 rfl (rn aZ qc.out)) rfl ⟨?_, below_setRow Mx.out.aB TX _⟩
  rw [jc.out, ← DY.out]
  rfl
theorem qp (op a b c im : Int) (h0 : 0 ≤ op) (r : RG) (hr : R16 r) (w : World) :
  Calls Tryz.prog 13 #[.agg #[.int .u8 op, .int .i64 a, .int .i64 b, .int .i64 c, .int .i64 im], .agg (aa r).toArray] w fun e w' => e = .returned (cE (bQ ⟨op, a, b, c, im⟩ r)) ∧ Below w.heap.size w w' := by
 by_cases hvp : aL ⟨op, a, b, c, im⟩ = true ∧ bk r = true
 case neg =>
  refine (r7 op a b c im h0 r hr w (by
   cases h1 : aL ⟨op, a, b, c, im⟩ <;> cases h2 : bk r <;> simp_all)).mono fun e w' ⟨q, hb⟩ => ⟨q.trans ?_, hb⟩
  unfold bQ
  rw [if_neg hvp]
 obtain ⟨hv, hp⟩ := hvp
 obtain ⟨k, g1, g2, ⟨a1, a2⟩, ⟨b1, b2⟩, ⟨c1, c2⟩, i1, i2⟩ := (dy (i := ⟨op, a, b, c, im⟩) h0).1 hv
 obtain ⟨s1, s2, s3, s4, s5⟩ := nZ k g2
 simp only at g1 a1 a2 b1 b2 c1 c2 i1 i2
 obtain ⟨an, rfl⟩ : ∃ n : Nat, a = (n : Int) := ⟨a.toNat, by omega⟩
 obtain ⟨bn, rfl⟩ : ∃ n : Nat, b = (n : Int) := ⟨b.toNat, by omega⟩
 obtain ⟨cn, rfl⟩ : ∃ n : Nat, c = (n : Int) := ⟨c.toNat, by omega⟩
 exact qo op an bn cn im TX TX TX TX h0 TX r hr w hv hp
end
section
open Go.RowKit
def mP (b : Bool) (x : Int × Int) : Int × Int := if b = true then sF x (0, 0) else if x.1 = 0 then (if x.2 = 0 then (1, 0) else (1, x.2)) else if x.2 = 0 then (x.1, -1) else x
theorem EM (op : Int) (tk : Bool) (x : Int × Int) (hx : x.1 ≤ x.2) : (emp (iR op tk x) = true ↔ (mP (tk == decide (op = 22)) x).2 < (mP (tk == decide (op = 22)) x).1) ∧ (¬ (mP (tk == decide (op = 22)) x).2 < (mP (tk == decide (op = 22)) x).1 → iR op tk x = mP (tk == decide (op = 22)) x) := by
 unfold iR mP
 cases (tk == decide (op = 22))
 ·obtain ⟨a, b⟩ := x
  have e : dW (a, b) = (if a = 0 then (if b = 0 then (1, 0) else (1, b)) else if b = 0 then (a, -1) else (a, b)) := by
   unfold dW
   by_cases h1 : a = 0 <;> by_cases h2 : b = 0 <;> simp [h1, h2]
  simp only [Bool.false_eq_true, if_false, e]
  exact ⟨by simp [emp], by simp⟩
 ·simp only [if_true]
  exact Cu x (0, 0) hx T1
theorem vY (op a b c im : Int) (h0 : 0 ≤ op) (r : RG) (hr : R16 r) (tk : Bool) (w : World) (hno : aL ⟨op, a, b, c, im⟩ = false ∨ (aL ⟨op, a, b, c, im⟩ = true ∧ bk r = false)) :
  Calls Tryz.prog 16 #[.agg #[.int .u8 op, .int .i64 a, .int .i64 b, .int .i64 c, .int .i64 im], .agg (aa r).toArray, .bool tk] w fun e w' => e = .returned (cE none) ∧ Below w.heap.size w w' := by
 obtain ⟨V, hV, k0, k1, k2, bV, sV⟩ := aW w #[.int .u8 op, .int .i64 a, .int .i64 b, .int .i64 c, .int .i64 im] (aa r).toArray Va.toArray 64 61 61
 obtain ⟨a0, a1, a2, a3, a4, lV⟩ := aG k0
 have HC := UZ (show yq w V #[.int .u8 op, .int .i64 a, .int .i64 b, .int .i64 c, .int .i64 im] r from ⟨bV, k0, k1, k2⟩)
 have dI := UZ (Calls.ext (eN ⟨op, a, b, c, im⟩ h0 V))
 have jf := UZ (fun x : Ext V => Calls.au (x := x) (jM r hr.len x.w))
 clear k0 k1 k2 bV
 go_enter Tryz.func16, Tryz.ntmps16
 go_upto_region 1 with fail
 clear hV
 rcases hno with hv | ⟨hv, hp⟩
 ·rw [hv] at dI
  go_wp2_with (first | (go_at_call 40; refine dI.out.mono ?_; rintro e w' ⟨rfl, y, rfl⟩) | (refine wpList_store_row rfl 61 (.tmp 6) (.tmp 17) rfl (w.heap.size + 1 + 1) (aa ak).toArray rfl rfl 61 _ ((HC.out.keep (Ext.h _)).ko) (ra aZ ag) (hi6 ag ag) (aj ak) ?_))
  refine bodyPost_ret (results_cell_tmp (P := Tryz.prog) Tryz.results16 _ _ (w.heap.size + 1 + 1) (aa ak) _ rfl (aq (setRow_heap _ _ _ _ _ _ ((HC.out.keep y.h).ko))) Tryz.underlying61 rfl (rn aZ ag)) rfl ⟨rfl, below_setRow ((HC.out.keep y.h).aB) TX _⟩
 ·rw [hv] at dI
  rw [hp] at jf
  go_wp2_with (first | (go_at_call 40; refine dI.out.mono ?_; rintro e w' ⟨rfl, y, rfl⟩) | (go_at_call 41; refine (jf.out _).mono ?_; rintro e w' ⟨rfl, z, rfl⟩) | (refine aQ T8 _ _ rfl _ _ rfl (aa r) _ (HC.out.kr.keep (Ext.h _)).range Tryz.underlying61 rfl (rn aZ hr.len) ?_) | (refine wpList_store_row rfl 61 (.tmp 6) (.tmp 17) rfl (w.heap.size + 1 + 1) (aa ak).toArray rfl rfl 61 _ ((HC.out.keep (Ext.h _)).ko) (ra aZ ag) (hi6 ag ag) (aj ak) ?_))
  refine bodyPost_ret (results_cell_tmp (P := Tryz.prog) Tryz.results16 _ _ (w.heap.size + 1 + 1) (aa ak) _ rfl (aq (setRow_heap _ _ _ _ _ _ ((HC.out.keep z.h).ko))) Tryz.underlying61 rfl (rn aZ ag)) rfl ⟨rfl, below_setRow ((HC.out.keep z.h).aB) TX _⟩
theorem yq.set {w U : World} {ins : Array Value} {r : RG} (h : yq w U ins r) {b o : Nat} (hb : w.heap.size + 1 + 1 < b) (v : Value) : yq w (U.setCell ⟨b, o, none⟩ v) ins r :=
 ⟨Below.setCell h.aB (by show w.heap.size ≤ b; omega) _, (Below.heap_setCell _ _ _ _ (by show w.heap.size ≠ b; omega)).trans h.ki, (Below.heap_setCell _ _ _ _ (by show w.heap.size + 1 ≠ b; omega)).trans h.kr, (Below.heap_setCell _ _ _ _ (by show w.heap.size + 1 + 1 ≠ b; omega)).trans h.ko⟩
theorem tV (op : Int) (an bn cn : Nat) (im : Int) (ha : an < 16) (h0 : 0 ≤ op) (r : RG) (hr : R16 r) (tk : Bool) (w : World) (hv : aL ⟨op, an, bn, cn, im⟩ = true) (hp : bk r = true) :
  Calls Tryz.prog 16 #[.agg #[.int .u8 op, .int .i64 (an : Int), .int .i64 (bn : Int), .int .i64 (cn : Int), .int .i64 im], .agg (aa r).toArray, .bool tk] w fun e w' => e = .returned (cE (cU ⟨op, an, bn, cn, im⟩ r tk)) ∧ Below w.heap.size w w' := by
 have Qr := UZ (fun (h : op = 22 ∨ op = 23) => show cU ⟨op, an, bn, cn, im⟩ r tk = (if emp (iR op tk (rg r an)) = true then none else some (aO r an (iR op tk (rg r an)))) by unfold cU; rw [if_pos ⟨hv, hp⟩, if_pos h])
 have Qq := UZ (fun (h : op = 24) => show cU ⟨op, an, bn, cn, im⟩ r tk = (if tk = true then some r else none) by unfold cU; rw [if_pos ⟨hv, hp⟩, if_neg Us, if_pos h])
 have Mn := UZ (fun (h : ¬ (op = 22 ∨ op = 23 ∨ op = 24)) => show cU ⟨op, an, bn, cn, im⟩ r tk = (if tk = true then none else some r) by unfold cU; rw [if_pos ⟨hv, hp⟩, if_neg Us, if_neg Us])
 obtain ⟨O, hO⟩ : ∃ O, cU ⟨op, an, bn, cn, im⟩ r tk = O := ⟨_, rfl⟩
 rw [hO] at Qr Qq Mn ⊢
 clear hO
 obtain ⟨V, hV, k0, k1, k2, bV, sV⟩ := aW w #[.int .u8 op, .int .i64 (an : Int), .int .i64 (bn : Int), .int .i64 (cn : Int), .int .i64 im] (aa r).toArray Va.toArray 64 61 61
 obtain ⟨a0, a1, a2, a3, a4, lV⟩ := aG k0
 have HC := UZ (show yq w V #[.int .u8 op, .int .i64 (an : Int), .int .i64 (bn : Int), .int .i64 (cn : Int), .int .i64 im] r from ⟨bV, k0, k1, k2⟩)
 have dI := UZ (Calls.ext (eN ⟨op, an, bn, cn, im⟩ h0 V))
 have jf := UZ (fun x : Ext V => Calls.au (x := x) (jM r hr.len x.w))
 clear k0 k1 k2 bV
 go_enter Tryz.func16, Tryz.ntmps16
 go_upto_region 1 with fail
 clear hV
 rw [hv] at dI
 rw [hp] at jf
 have HP := UZ hp
 go_upto_region 3 with (first | (go_at_call 40; refine dI.out.mono ?_; rintro e w' ⟨rfl, y, rfl⟩) | (go_at_call 41; refine (jf.out _).mono ?_; rintro e w' ⟨rfl, z, rfl⟩) | (refine aQ T8 _ _ rfl _ _ rfl (aa r) _ (HC.out.kr.keep (Ext.h _)).range Tryz.underlying61 rfl (rn aZ hr.len) ?_))
 obtain ⟨U, hU⟩ : ∃ U, z.w = U := ⟨_, rfl⟩
 have eX := UZ (HC.out.keep (hU ▸ z.h))
 rw [hU]
 clear hU a0 a1 a2 a3 a4 lV dI jf HC hp hv
 obtain ⟨al, hal⟩ : ∃ al, (rg r (an : Int)).1 = al := ⟨_, rfl⟩
 obtain ⟨ah, wU⟩ : ∃ ah, (rg r (an : Int)).2 = ah := ⟨_, rfl⟩
 have ow := UZ (show rg r (an : Int) = (al, ah) from Prod.ext hal wU)
 have ia : (an : Int) < 16 := by omega
 have C7 : aK al ∧ aK ah := by have h := hr.at_ (an : Int); rw [ow.out] at h; exact h
 have hle : al ≤ ah := by have h := qV HP.out hr.len ha; rw [ow.out] at h; exact h
 obtain ⟨u0, u1, u2, u3, u4, lI⟩ := aG eX.out.ki
 have r4 : U.cell? ⟨w.heap.size + 1, an * 2, none⟩ = some (.int .i32 al) := by rw [← hal]; exact eX.out.kr.lo Ud
 have r5 : U.cell? ⟨w.heap.size + 1, an * 2 + 1, none⟩ = some (.int .i32 ah) := by rw [← wU]; exact eX.out.kr.hi Ud
 have lR := eX.out.kr.lt
 have lO := ax eX.out.ko
 clear hal wU
 have hC : op = 24 ∨ ¬ (op = 22 ∨ op = 23 ∨ op = 24) ∨ op = 22 ∨ op = 23 := by omega
 rcases hC with h | h | h
 ·have HT := UZ (Qq.out h)
  subst h
  clear C7
  cases tk
  ·go_wp2_with (refine wpList_store_row rfl 61 (.tmp 6) (.tmp 23) rfl (w.heap.size + 1 + 1) (aa ak).toArray rfl rfl 61 _ (eX.out.ko) (ra aZ ag) (hi6 ag ag) (aj ak) ?_)
   refine bodyPost_ret (results_cell_tmp (P := Tryz.prog) Tryz.results16 _ _ (w.heap.size + 1 + 1) (aa ak) _ rfl (aq (setRow_heap _ _ _ _ _ _ (eX.out.ko))) Tryz.underlying61 rfl (rn aZ ag)) rfl ⟨?_, below_setRow (eX.out.aB) TX _⟩
   rw [HT.out]
   rfl
  ·go_wp2_with (first | (refine wpList_load_mid rfl _ _ rfl _ _ rfl (aa r) _ eX.out.kr.range Tryz.underlying61 rfl (rn aZ hr.len) ?_) | (refine wpList_store_row rfl 61 (.tmp 6) (.tmp 24) rfl (w.heap.size + 1 + 1) (aa r).toArray rfl rfl 61 _ eX.out.ko (ra aZ hr.len) (hi6 hr.len ag) (aj r) ?_))
   refine bodyPost_ret (results_cell_tmp (P := Tryz.prog) Tryz.results16 _ _ (w.heap.size + 1 + 1) (aa r) _ rfl (aq (setRow_heap _ _ _ _ _ _ eX.out.ko)) Tryz.underlying61 rfl (rn aZ hr.len)) rfl ⟨?_, below_setRow eX.out.aB TX _⟩
   rw [HT.out]
   rfl
 ·have HT := UZ (Mn.out h)
  have e2 : (op != 22) = true := by simp; omega
  have e3 : (op != 23) = true := by simp; omega
  have e4 : (op == 24) = false := by simp; omega
  clear C7 h
  cases tk
  ·go_wp2_with (first | (refine wpList_load_mid rfl _ _ rfl _ _ rfl (aa r) _ eX.out.kr.range Tryz.underlying61 rfl (rn aZ hr.len) ?_) | (refine wpList_store_row rfl 61 (.tmp 6) (.tmp 35) rfl (w.heap.size + 1 + 1) (aa r).toArray rfl rfl 61 _ eX.out.ko (ra aZ hr.len) (hi6 hr.len ag) (aj r) ?_))
   refine bodyPost_ret (results_cell_tmp (P := Tryz.prog) Tryz.results16 _ _ (w.heap.size + 1 + 1) (aa r) _ rfl (aq (setRow_heap _ _ _ _ _ _ eX.out.ko)) Tryz.underlying61 rfl (rn aZ hr.len)) rfl ⟨?_, below_setRow eX.out.aB TX _⟩
   rw [HT.out]
   rfl
  ·go_wp2_with (refine wpList_store_row rfl 61 (.tmp 6) (.tmp 34) rfl (w.heap.size + 1 + 1) (aa ak).toArray rfl rfl 61 _ (eX.out.ko) (ra aZ ag) (hi6 ag ag) (aj ak) ?_)
   refine bodyPost_ret (results_cell_tmp (P := Tryz.prog) Tryz.results16 _ _ (w.heap.size + 1 + 1) (aa ak) _ rfl (aq (setRow_heap _ _ _ _ _ _ (eX.out.ko))) Tryz.underlying61 rfl (rn aZ ag)) rfl ⟨?_, below_setRow (eX.out.aB) TX _⟩
   rw [HT.out]
   rfl
 have DR := Qr.out h
 have hout := EM op tk (al, ah) hle
 rw [ow.out] at DR
 have hW : ((op = 22 ∧ tk = true) ∨ (op = 23 ∧ tk = false)) ∨ ((op = 22 ∧ tk = false) ∨ (op = 23 ∧ tk = true)) := by rcases h with h | h <;> cases tk <;> simp [h]
 have hZ : (al = 0 ∧ ah = 0) ∨ (al = 0 ∧ ¬ ah = 0) ∨ (¬ al = 0 ∧ ah = 0) ∨ (¬ al = 0 ∧ ¬ ah = 0) := by omega
 obtain ⟨bb, Kg⟩ : ∃ b, (tk == decide (op = 22)) = b := ⟨_, rfl⟩
 rw [Kg] at hout
 clear h
 rcases hW with hw | hw
 focus
  obtain rfl : bb = true := by rw [← Kg]; rcases hw with ⟨rfl, rfl⟩ | ⟨rfl, rfl⟩ <;> decide
  clear Kg
  rcases hw with ⟨rfl, rfl⟩ | ⟨rfl, rfl⟩
  all_goals
   obtain ⟨xa, xb, hx⟩ : ∃ xa xb, sF (al, ah) (0, 0) = (xa, xb) := ⟨_, _, rfl⟩
   rw [show mP true (al, ah) = (xa, xb) from hx] at hout
   have hme := fun w => qP al ah 0 0 w
   rw [hx] at hme
   have IP := UZ hme
   have qf := UZ (show aK xa ∧ aK xb by
    have h1 : xa = (sF (al, ah) (0, 0)).1 := by rw [hx]
    have h2 : xb = (sF (al, ah) (0, 0)).2 := by rw [hx]
    rw [h1, h2]
    unfold sF aK at *
    simp only
    constructor <;> split <;> omega)
   have qb := UZ hout
   have IL := UZ DR
   clear hme hx hout DR C7 hle hZ
   go_upto_region 12 with fail
   obtain ⟨t8, ht8⟩ : ∃ t, U.heap.size = t := ⟨_, rfl⟩
   obtain ⟨W, hW⟩ : ∃ W, U.alloc (.cells #[.int .i32 al, .int .i32 ah] 58) = W := ⟨_, rfl⟩
   have bW : Below U.heap.size U W := hW ▸ (Below.refl _ _).alloc (Nat.le_refl _) _
   have kW : W.heap[t8]? = some (.cells #[.int .i32 al, .int .i32 ah] 58 (0, 0)) := by rw [← ht8]; exact hW ▸ heap_alloc_new _ _
   have IK := UZ (show w.heap.size + 1 + 1 < t8 by omega)
   have dV := UZ (eX.out.keep bW)
   rw [hW, ht8]
   clear u0 u1 u2 u3 u4 lI r4 r5 lR lO hW ht8 bW
   obtain ⟨u0, u1, u2, u3, u4, lI⟩ := aG dV.out.ki
   obtain ⟨g0, g1, f0, f1, l6⟩ := dA kW
   go_upto_region 13 with fail
   refine aD 3 TY TY ?_
   simp only [U8, List.take_zero, U9, List.drop_zero]
   repeat (go_big_quiet_step (first | (go_at_call 45; exact Calls.au (ld 0 _ T1 T1)) | (go_at_call 47; exact Calls.au (IP.out _))))
   refine wpQuiet_nil ?_
   rintro _ ⟨x1, rfl⟩
   go_upto_region 20 with fail
   obtain ⟨Y, hY⟩ : ∃ Y, (x1.w.setCell ⟨t8, 0, none⟩ (.int .i32 xa)).setCell ⟨t8, 1, none⟩ (.int .i32 xb) = Y := ⟨_, rfl⟩
   have kY : Y.heap[t8]? = some (.cells #[.int .i32 xa, .int .i32 xb] 58 (0, 0)) := by
    rw [← hY, heap_setCell_same _ _ _ _ _ _ (heap_setCell_same _ _ _ _ _ _ ((x1.h.block _ l6).trans kW))]
    simp
   have A0 := UZ (show yq w Y _ r by
    rw [← hY]
    exact ((dV.out.keep x1.h).set IK.out _).set IK.out _)
   rw [hY]
   clear hY
 rotate_left 2
 focus
  obtain rfl : bb = false := by rw [← Kg]; rcases hw with ⟨rfl, rfl⟩ | ⟨rfl, rfl⟩ <;> decide
  clear Kg
  rcases hZ with ⟨rfl, rfl⟩ | ⟨rfl, hz⟩ | ⟨hz, rfl⟩ | ⟨hz, hz2⟩
  focus
   have IL := UZ (DR.trans (if_pos (hout.1.2 T1)))
   clear DR hout C7 hle
   rcases hw with ⟨rfl, rfl⟩ | ⟨rfl, rfl⟩
   all_goals
    go_wp2_with (refine wpList_store_row rfl 61 (.tmp 6) (.tmp 55) rfl (w.heap.size + 1 + 1) (aa ak).toArray rfl rfl 61 _ ((eX.out.keep ((Below.refl _ _).alloc (Nat.le_refl _) _)).ko) (ra aZ ag) (hi6 ag ag) (aj ak) ?_)
    refine bodyPost_ret (results_cell_tmp (P := Tryz.prog) Tryz.results16 _ _ (w.heap.size + 1 + 1) (aa ak) _ rfl (aq (setRow_heap _ _ _ _ _ _ ((eX.out.keep ((Below.refl _ _).alloc (Nat.le_refl _) _)).ko))) Tryz.underlying61 rfl (rn aZ ag)) rfl ⟨?_, below_setRow ((eX.out.keep ((Below.refl _ _).alloc (Nat.le_refl _) _)).aB) TX _⟩
    rw [IL.out]
    rfl
  focus
   obtain ⟨xa, fc⟩ : ∃ xa : Int, 1 = xa := ⟨_, rfl⟩
   obtain ⟨xb, hxb⟩ : ∃ xb : Int, ah = xb := ⟨_, rfl⟩
   have GF := UZ fc
   have GD := UZ hxb
   have qf := UZ (show aK xa ∧ aK xb by unfold aK at *; omega)
   rcases hw with ⟨rfl, rfl⟩ | ⟨rfl, rfl⟩
   all_goals
    have qb := UZ hout
    rw [show mP false (_, _) = (xa, xb) by rw [← GF.out, ← GD.out]; simp [mP, hz]] at qb
    have IL := UZ DR
    have e1 : (ah == 0) = false := by simpa using hz
    clear hz
    clear fc hxb hout DR C7 hle
    go_upto_region 12 with fail
    obtain ⟨t8, ht8⟩ : ∃ t, U.heap.size = t := ⟨_, rfl⟩
    obtain ⟨W, hW⟩ : ∃ W, U.alloc (.cells #[.int .i32 0, .int .i32 ah] 58) = W := ⟨_, rfl⟩
    have bW : Below U.heap.size U W := hW ▸ (Below.refl _ _).alloc (Nat.le_refl _) _
    have kW : W.heap[t8]? = some (.cells #[.int .i32 0, .int .i32 ah] 58 (0, 0)) := by rw [← ht8]; exact hW ▸ heap_alloc_new _ _
    have IK := UZ (show w.heap.size + 1 + 1 < t8 by omega)
    have dV := UZ (eX.out.keep bW)
    rw [hW, ht8]
    clear u0 u1 u2 u3 u4 lI r4 r5 lR lO hW ht8 bW
    obtain ⟨u0, u1, u2, u3, u4, lI⟩ := aG dV.out.ki
    obtain ⟨g0, g1, f0, f1, l6⟩ := dA kW
    go_upto_region 20 with fail
    obtain ⟨Y, hY⟩ : ∃ Y, W.setCell ⟨t8, 0, none⟩ (.int .i32 1) = Y := ⟨_, rfl⟩
    have kY : Y.heap[t8]? = some (.cells #[.int .i32 xa, .int .i32 xb] 58 (0, 0)) := by
     rw [← hY, ← GF.out, ← GD.out]
     rw [heap_setCell_same _ _ _ _ _ _ kW]; simp
    have A0 := UZ (show yq w Y _ r by
     rw [← hY]
     exact dV.out.set IK.out _)
    rw [hY]
    clear hY
  rotate_left 2
  focus
   obtain ⟨xa, fc⟩ : ∃ xa : Int, al = xa := ⟨_, rfl⟩
   obtain ⟨xb, hxb⟩ : ∃ xb : Int, -1 = xb := ⟨_, rfl⟩
   have GF := UZ fc
   have GD := UZ hxb
   have qf := UZ (show aK xa ∧ aK xb by unfold aK at *; omega)
   rcases hw with ⟨rfl, rfl⟩ | ⟨rfl, rfl⟩
   all_goals
    have qb := UZ hout
    rw [show mP false (_, _) = (xa, xb) by rw [← GF.out, ← GD.out]; simp [mP, hz]] at qb
    have IL := UZ DR
    have e1 : (al == 0) = false := by simpa using hz
    clear hz
    clear fc hxb hout DR C7 hle
    go_upto_region 12 with fail
    obtain ⟨t8, ht8⟩ : ∃ t, U.heap.size = t := ⟨_, rfl⟩
    obtain ⟨W, hW⟩ : ∃ W, U.alloc (.cells #[.int .i32 al, .int .i32 0] 58) = W := ⟨_, rfl⟩
    have bW : Below U.heap.size U W := hW ▸ (Below.refl _ _).alloc (Nat.le_refl _) _
    have kW : W.heap[t8]? = some (.cells #[.int .i32 al, .int .i32 0] 58 (0, 0)) := by rw [← ht8]; exact hW ▸ heap_alloc_new _ _
    have IK := UZ (show w.heap.size + 1 + 1 < t8 by omega)
    have dV := UZ (eX.out.keep bW)
    rw [hW, ht8]
    clear u0 u1 u2 u3 u4 lI r4 r5 lR lO hW ht8 bW
    obtain ⟨u0, u1, u2, u3, u4, lI⟩ := aG dV.out.ki
    obtain ⟨g0, g1, f0, f1, l6⟩ := dA kW
    go_upto_region 20 with fail
    obtain ⟨Y, hY⟩ : ∃ Y, W.setCell ⟨t8, 1, none⟩ (.int .i32 (-1)) = Y := ⟨_, rfl⟩
    have kY : Y.heap[t8]? = some (.cells #[.int .i32 xa, .int .i32 xb] 58 (0, 0)) := by
     rw [← hY, ← GF.out, ← GD.out]
     rw [heap_setCell_same _ _ _ _ _ _ kW]; simp
    have A0 := UZ (show yq w Y _ r by
     rw [← hY]
     exact dV.out.set IK.out _)
    rw [hY]
    clear hY
  rotate_left 2
  focus
   obtain ⟨xa, fc⟩ : ∃ xa : Int, al = xa := ⟨_, rfl⟩
   obtain ⟨xb, hxb⟩ : ∃ xb : Int, ah = xb := ⟨_, rfl⟩
   have GF := UZ fc
   have GD := UZ hxb
   have qf := UZ (show aK xa ∧ aK xb by unfold aK at *; omega)
   rcases hw with ⟨rfl, rfl⟩ | ⟨rfl, rfl⟩
   all_goals
    have qb := UZ hout
    rw [show mP false (_, _) = (xa, xb) by rw [← GF.out, ← GD.out]; simp [mP, hz, hz2]] at qb
    have IL := UZ DR
    have e1 : (al == 0) = false := by simpa using hz
    have e2 : (ah == 0) = false := by simpa using hz2
    clear hz hz2
    clear fc hxb hout DR C7 hle
    go_upto_region 12 with fail
    obtain ⟨t8, ht8⟩ : ∃ t, U.heap.size = t := ⟨_, rfl⟩
    obtain ⟨W, hW⟩ : ∃ W, U.alloc (.cells #[.int .i32 al, .int .i32 ah] 58) = W := ⟨_, rfl⟩
    have bW : Below U.heap.size U W := hW ▸ (Below.refl _ _).alloc (Nat.le_refl _) _
    have kW : W.heap[t8]? = some (.cells #[.int .i32 al, .int .i32 ah] 58 (0, 0)) := by rw [← ht8]; exact hW ▸ heap_alloc_new _ _
    have IK := UZ (show w.heap.size + 1 + 1 < t8 by omega)
    have dV := UZ (eX.out.keep bW)
    rw [hW, ht8]
    clear u0 u1 u2 u3 u4 lI r4 r5 lR lO hW ht8 bW
    obtain ⟨u0, u1, u2, u3, u4, lI⟩ := aG dV.out.ki
    obtain ⟨g0, g1, f0, f1, l6⟩ := dA kW
    go_upto_region 20 with fail
    obtain ⟨Y, hY⟩ : ∃ Y, W = Y := ⟨_, rfl⟩
    have kY : Y.heap[t8]? = some (.cells #[.int .i32 xa, .int .i32 xb] 58 (0, 0)) := by
     rw [← hY, ← GF.out, ← GD.out]
     exact kW
    have A0 := UZ (show yq w Y _ r by
     rw [← hY]
     exact dV.out)
    rw [hY]
    clear hY
  rotate_left 2
 all_goals
  obtain ⟨s0, s1, s2, s3, s4, sI⟩ := aG A0.out.ki
  obtain ⟨g0, g1, -, -, l8⟩ := dA kY
  have Tu := A0.out.kr.lt
  have Tv := ax A0.out.ko
  clear kY
  by_cases he : xb < xa
  ·have d := decide_eq_true he
   have Lc := UZ (IL.out.trans (if_pos (qb.out.1.2 he)))
   clear he
   go_wp2_with (refine wpList_store_row rfl 61 (.tmp 6) (.tmp 66) rfl (w.heap.size + 1 + 1) (aa ak).toArray rfl rfl 61 _ (A0.out.ko) (ra aZ ag) (hi6 ag ag) (aj ak) ?_)
   refine bodyPost_ret (results_cell_tmp (P := Tryz.prog) Tryz.results16 _ _ (w.heap.size + 1 + 1) (aa ak) _ rfl (aq (setRow_heap _ _ _ _ _ _ (A0.out.ko))) Tryz.underlying61 rfl (rn aZ ag)) rfl ⟨?_, below_setRow (A0.out.aB) TX _⟩
   rw [Lc.out]
   rfl
  ·have d := decide_eq_false he
   have Lc := IL.out.trans (if_neg (fun h => he (qb.out.1.1 h)))
   rw [qb.out.2 he] at Lc
   clear he
   obtain ⟨r9, hr9⟩ : ∃ r9, aO r (an : Int) (xa, xb) = r9 := ⟨_, rfl⟩
   have qc := UZ (show r9.length = 16 by rw [← hr9]; exact (hr.aO _ qf.out).len)
   have HS := UZ (show ∀ w, Calls Tryz.prog 42 #[.agg (aa r).toArray, .int .i64 (an : Int), .agg #[.int .i32 xa, .int .i32 xb]] w (fun e w' => e = .returned (.agg (aa r9).toArray) ∧ Below w.heap.size w w') from hr9 ▸ fun w => eL r hr.len an ha xa xb w)
   have DY := UZ (Lc.trans (congrArg some hr9))
   clear hr9 Lc
   go_wp2_with (first | (refine wpList_load_mid rfl _ _ rfl _ _ rfl (aa r) _ A0.out.kr.range Tryz.underlying61 rfl (rn aZ hr.len) ?_) | (go_at_call 42; refine (Calls.ext (HS.out _)).mono ?_; rintro e w' ⟨rfl, x2, rfl⟩) | (refine wpList_store_row rfl 61 (.tmp 6) _ rfl (w.heap.size + 1 + 1) (aa r9).toArray rfl rfl 61 _ (A0.out.keep (Ext.h _)).ko (ra aZ qc.out) (hi6 qc.out ag) (aj r9) ?_))
   refine bodyPost_ret (results_cell_tmp (P := Tryz.prog) Tryz.results16 _ _ (w.heap.size + 1 + 1) (aa r9) _ rfl (aq (setRow_heap _ _ _ _ _ _ (A0.out.keep x2.h).ko)) Tryz.underlying61 rfl (rn aZ qc.out)) rfl ⟨?_, below_setRow (A0.out.keep x2.h).aB TX _⟩
   rw [DY.out]
   rfl
theorem tW (op a b c im : Int) (h0 : 0 ≤ op) (r : RG) (hr : R16 r) (tk : Bool) (w : World) :
  Calls Tryz.prog 16 #[.agg #[.int .u8 op, .int .i64 a, .int .i64 b, .int .i64 c, .int .i64 im], .agg (aa r).toArray, .bool tk] w fun e w' => e = .returned (cE (cU ⟨op, a, b, c, im⟩ r tk)) ∧ Below w.heap.size w w' := by
 by_cases hvp : aL ⟨op, a, b, c, im⟩ = true ∧ bk r = true
 case neg =>
  refine (vY op a b c im h0 r hr tk w (by
   cases h1 : aL ⟨op, a, b, c, im⟩ <;> cases h2 : bk r <;> simp_all)).mono fun e w' ⟨q, hb⟩ => ⟨q.trans ?_, hb⟩
  unfold cU
  rw [if_neg hvp]
 obtain ⟨hv, hp⟩ := hvp
 obtain ⟨k, g1, g2, ⟨a1, a2⟩, ⟨b1, b2⟩, ⟨c1, c2⟩, i1, i2⟩ := (dy (i := ⟨op, a, b, c, im⟩) h0).1 hv
 obtain ⟨s1, s2, s3, s4, s5⟩ := nZ k g2
 simp only at g1 a1 a2 b1 b2 c1 c2 i1 i2
 obtain ⟨an, rfl⟩ : ∃ n : Nat, a = (n : Int) := ⟨a.toNat, by omega⟩
 obtain ⟨bn, rfl⟩ : ∃ n : Nat, b = (n : Int) := ⟨b.toNat, by omega⟩
 obtain ⟨cn, rfl⟩ : ∃ n : Nat, c = (n : Int) := ⟨c.toNat, by omega⟩
 exact tV op an bn cn im TX h0 r hr tk w hv hp
end
end Go.Proofs.YtebklpnkcicpjaaGreatDoor
