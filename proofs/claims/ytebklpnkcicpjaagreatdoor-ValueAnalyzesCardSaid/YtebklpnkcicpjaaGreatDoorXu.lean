/-
  What is proved here: parts vRap, rTr, rRf, rRu, rEg, rAn.
-/
import Derived.Test.YtebklpnkcicpjaaGreatDoorXa
import Derived.Test.YtebklpnkcicpjaaGreatDoorXr
import Derived.Test.YtebklpnkcicpjaaGreatDoorXs
import Derived.Test.YtebklpnkcicpjaaGreatDoorXt
import Derived.Deep.DeepCutAuto
import Derived.Test.YtebklpnkcicpjaaGreatDoorXo
import Derived.Test.YtebklpnkcicpjaaGreatDoorXj
import Derived.Test.YtebklpnkcicpjaaGreatDoorXi
import Derived.Test.YtebklpnkcicpjaaGreatDoorXl
import Derived.Deep.RegionHeld3
import Derived.Test.YtebklpnkcicpjaaGreatDoorXp
import Derived.Laws.StructEq
namespace Go.Proofs.YtebklpnkcicpjaaGreatDoor
set_option linter.unusedVariables false
set_option linter.unusedSimpArgs false
set_option maxRecDepth 100000
set_option maxHeartbeats 8000000
section
open Go.RowKit
theorem JG (op xl xh yl yh : Int) (w : World) (hx1 : -2147483648 ≤ xl) (hx2 : xl ≤ 2147483647) (hx3 : -2147483648 ≤ xh) (hx4 : xh ≤ 2147483647) (hy1 : -2147483648 ≤ yl) (hy2 : yl ≤ 2147483647) (hy3 : -2147483648 ≤ yh) (hy4 : yh ≤ 2147483647) (h1 : 6 ≤ op) (h2 : op ≤ 23) (gY : xl ≤ xh) (gL : yl ≤ yh) (s : ¬ (xl = xh ∧ yl = yh)) :
  Calls Tryz.prog 43 #[.int .u8 op, .agg #[.int .i32 xl, .int .i32 xh], .agg #[.int .i32 yl, .int .i32 yh]] w fun e w' => e = .returned (.agg #[.int .i32 (fq op (xl, xh) (yl, yh)).1, .int .i32 (fq op (xl, xh) (yl, yh)).2]) ∧ Below w.heap.size w w' := by
 have ha := EJ xl xh yl yh gY gL
 have hs : (xl == xh) = false ∨ ((xl == xh) = true ∧ (yl == yh) = false) := by
  by_cases e : xl = xh
  ·exact .inr ⟨by simpa using e, by simp; omega⟩
  ·exact .inl (by simpa using e)
 have oJ := fun (zl zh : Int) (g : FuncId) (qE : Array Value) (nz : Bool) (NV : (yl == 0 && yh == 0) = nz) hop HC => Or.elim hs (fun h => zB op xl xh yl yh zl zh g qE nz w NV hop hx1 hx2 hx3 hx4 hy1 hy2 hy3 hy4 gY gL h HC) (fun h => zA op xl xh yl yh zl zh g qE nz w NV hop hx1 hx2 hx3 hx4 hy1 hy2 hy3 hy4 gY gL h.1 h.2 HC)
 have ES := fun (A N : Bool) hop => Or.elim hs (fun h => C6 op xl xh yl yh A N w hop hx1 hx2 hx3 hx4 hy1 hy2 hy3 hy4 gY gL h) (fun h => C5 op xl xh yl yh A N w hop hx1 hx2 hx3 hx4 hy1 hy2 hy3 hy4 gY gL h.1 h.2)
 have QT := fun (A N b1 z1 b2 z2 : Bool) hop BX BY zx zy => Or.elim hs (fun h => C1 op xl xh yl yh A N b1 z1 b2 z2 w hop hx1 hx2 hx3 hx4 hy1 hy2 hy3 hy4 gY gL h BX BY zx zy) (fun h => C0 op xl xh yl yh A N b1 z1 b2 z2 w hop hx1 hx2 hx3 hx4 hy1 hy2 hy3 hy4 gY gL h.1 h.2 BX BY zx zy)
 have h : op = 6 ∨ op = 7 ∨ op = 8 ∨ op = 9 ∨ op = 10 ∨ op = 11 ∨ op = 12 ∨ op = 13 ∨ op = 14 ∨ op = 15 ∨ op = 16 ∨ op = 17 ∨ op = 18 ∨ op = 19 ∨ op = 20 ∨ op = 21 ∨ op = 22 ∨ op = 23 := by omega
 rcases h with rfl | rfl | rfl | rfl | rfl | rfl | rfl | rfl | rfl | rfl | rfl | rfl | rfl | rfl | rfl | rfl | rfl | rfl
 ·exact rC 6 xl xh yl yh _ _ _ _ w abr hx1 hx2 hx3 hx4 hy1 hy2 hy3 hy4 gY gL hs (acD fun W => zv _ _ _ _ W hx1 hx2 hx3 hx4 hy1 hy2 hy3 hy4)
 ·exact rC 7 xl xh yl yh _ _ _ _ w abr hx1 hx2 hx3 hx4 hy1 hy2 hy3 hy4 gY gL hs (acD fun W => zu _ _ _ _ W hx1 hx2 hx3 hx4 hy1 hy2 hy3 hy4)
 ·exact rC 8 xl xh yl yh _ _ _ _ w abr hx1 hx2 hx3 hx4 hy1 hy2 hy3 hy4 gY gL hs (acD fun W => zq _ _ _ _ W hx1 hx2 hx3 hx4 hy1 hy2 hy3 hy4)
 ·by_cases z : yl = 0 ∧ yh = 0
  ·refine (oJ _ _ _ _ _ rfl (.inr (.inr (.inl ⟨rfl, rfl, rfl, by simpa using z⟩))) (acD fun W => fJ W)).mono fun e' w' ⟨q, hb⟩ => ⟨q.trans ?_, hb⟩
   rw [show fq 9 (xl, xh) (yl, yh) = kF (xl, xh) (yl, yh) from rfl, kF, if_pos z]
  ·exact oJ _ _ _ _ _ rfl (.inl ⟨rfl, rfl, rfl, by simpa using z⟩) (acD fun W => xg xl xh yl yh W hx1 hx2 hx3 hx4 hy1 hy2 hy3 hy4 gY gL z)
 ·by_cases z : yl = 0 ∧ yh = 0
  ·refine (oJ _ _ _ _ _ rfl (.inr (.inr (.inr (.inl ⟨rfl, rfl, rfl, by simpa using z⟩)))) (acD fun W => fJ W)).mono fun e' w' ⟨q, hb⟩ => ⟨q.trans ?_, hb⟩
   rw [show fq 10 (xl, xh) (yl, yh) = eV (xl, xh) (yl, yh) from rfl, eV, if_pos z]
  ·exact oJ _ _ _ _ _ rfl (.inr (.inl ⟨rfl, rfl, rfl, by simpa using z⟩)) (acD fun W => FR xl xh yl yh W hx1 hx2 hx3 hx4 hy1 hy2 hy3 hy4 gL z)
 ·exact oJ _ _ _ _ _ rfl (.inr (.inr (.inr (.inr (.inl ⟨rfl, rfl, rfl, rfl⟩))))) (acD fun W => jO 11 xl xh yl yh W hx1 hx2 hx3 hx4 hy1 hy2 hy3 hy4 abr abr gY gL)
 ·exact oJ _ _ _ _ _ rfl (.inr (.inr (.inr (.inr (.inr (.inl ⟨rfl, rfl, rfl, rfl⟩)))))) (acD fun W => jO 12 xl xh yl yh W hx1 hx2 hx3 hx4 hy1 hy2 hy3 hy4 abr abr gY gL)
 ·exact oJ _ _ _ _ _ rfl (.inr (.inr (.inr (.inr (.inr (.inr (.inl ⟨rfl, rfl, rfl, rfl⟩))))))) (acD fun W => jO 13 xl xh yl yh W hx1 hx2 hx3 hx4 hy1 hy2 hy3 hy4 abr abr gY gL)
 ·exact oJ _ _ _ _ _ rfl (.inr (.inr (.inr (.inr (.inr (.inr (.inr (.inl ⟨rfl, rfl, rfl, rfl⟩)))))))) (acD fun W => qX 14 xl xh yl yh W hx1 hx2 hx3 hx4 hy1 hy2 hy3 hy4 abr abr)
 ·exact oJ _ _ _ _ _ rfl (.inr (.inr (.inr (.inr (.inr (.inr (.inr (.inr (⟨rfl, rfl, rfl, rfl⟩))))))))) (acD fun W => qX 15 xl xh yl yh W hx1 hx2 hx3 hx4 hy1 hy2 hy3 hy4 abr abr)
 ·refine (ES _ _ (.inl ⟨rfl, rfl, rfl⟩)).mono fun e' w' ⟨q, hb⟩ => ⟨q.trans ?_, hb⟩
  rw [ha]
  rfl
 ·refine (ES _ _ (.inr (.inl ⟨rfl, rfl, rfl⟩))).mono fun e' w' ⟨q, hb⟩ => ⟨q.trans ?_, hb⟩
  rw [ha]
  rfl
 ·exact ES _ _ (.inr (.inr (.inl ⟨rfl, rfl, rfl⟩)))
 ·exact ES _ _ (.inr (.inr (.inr (.inl ⟨rfl, rfl, rfl⟩))))
 ·exact ES _ _ (.inr (.inr (.inr (.inr (.inl ⟨rfl, rfl, rfl⟩)))))
 ·exact ES _ _ (.inr (.inr (.inr (.inr (.inr (⟨rfl, rfl, rfl⟩))))))
 ·exact QT _ _ _ _ _ _ (.inl ⟨rfl, rfl, rfl⟩) (acD rfl) (acD rfl) rfl rfl
 ·exact QT _ _ _ _ _ _ (.inr ⟨rfl, rfl, rfl⟩) (acD rfl) (acD rfl) rfl rfl
theorem lN (op xl xh yl yh : Int) (w : World) (hx1 : -2147483648 ≤ xl) (hx2 : xl ≤ 2147483647) (hx3 : -2147483648 ≤ xh) (hx4 : xh ≤ 2147483647) (hy1 : -2147483648 ≤ yl) (hy2 : yl ≤ 2147483647) (hy3 : -2147483648 ≤ yh) (hy4 : yh ≤ 2147483647) :
  Calls Tryz.prog 43 #[.int .u8 op, .agg #[.int .i32 xl, .int .i32 xh], .agg #[.int .i32 yl, .int .i32 yh]] w fun e w' => e = .returned (.agg #[.int .i32 (aN op (xl, xh) (yl, yh)).1, .int .i32 (aN op (xl, xh) (yl, yh)).2]) ∧ Below w.heap.size w w' := by
 by_cases no : op < 6 ∨ 23 < op
 ·refine (JF op xl xh yl yh true w abA).mono fun e w' ⟨q, hb⟩ => ⟨q.trans ?_, hb⟩
  rw [aN, if_pos no]
 by_cases ne : xh < xl ∨ yh < yl
 ·refine (JH op xl xh yl yh true w abo abo abA).mono fun e w' ⟨q, hb⟩ => ⟨q.trans ?_, hb⟩
  rw [aN, if_neg no, if_pos ne]
 by_cases s : xl = xh ∧ yl = yh
 ·obtain ⟨rfl, rfl⟩ := s
  by_cases k : we op yl = 0
  ·refine (rB op xl yl _ _ w abo abo ⟨hx1, hx2⟩ ⟨hy1, hy2⟩ (.inl ⟨by simpa using k, rfl, rfl⟩)).mono fun e w' ⟨q, hb⟩ => ⟨q.trans ?_, hb⟩
   rw [aN, if_neg no, if_neg ne, if_pos ⟨rfl, rfl⟩, if_pos k]
  ·refine (rB op xl yl _ _ w abo abo ⟨hx1, hx2⟩ ⟨hy1, hy2⟩ (.inr ⟨by simpa using k, rfl, rfl⟩)).mono fun e w' ⟨q, hb⟩ => ⟨q.trans ?_, hb⟩
   rw [aN, if_neg no, if_neg ne, if_pos ⟨rfl, rfl⟩, if_neg k]
 ·have ev : aN op (xl, xh) (yl, yh) = fq op (xl, xh) (yl, yh) := by rw [aN, if_neg no, if_neg ne, if_neg s]
  rw [ev]
  exact JG op xl xh yl yh w hx1 hx2 hx3 hx4 hy1 hy2 hy3 hy4 abo abo abo abo s
end
section
open Go.RowKit
structure BL (w U : World) (ins : Array Value) (r : RG) : Prop where
 aF : Below w.heap.size w U
 ki : U.heap[w.heap.size]? = some (.cells ins 64 (0, 0))
 kr : aH U (w.heap.size + 1) 61 r
 ko : U.heap[w.heap.size + 1 + 1]? = some (.cells (aa aq).toArray 61 (0, 0))
theorem BL.keep {w U W : World} {ins : Array Value} {r : RG} (h : BL w U ins r) (b : Below U.heap.size U W) : BL w W ins r :=
 ⟨h.aF.trans (b.mono h.aF.size), (b.block _ (ag h.ki)).trans h.ki, h.kr.keep b, (b.block _ (ag h.ko)).trans h.ko⟩
theorem Gs (x y : Int × Int) (hx : x.1 ≤ x.2) (hy : y.1 ≤ y.2) : (emp (aJ x y) = true ↔ (vO x y).2 < (vO x y).1) ∧ (¬ (vO x y).2 < (vO x y).1 → aJ x y = vO x y) := by
 have e : vO x y = (max x.1 y.1, min x.2 y.2) := by unfold vO; apply Prod.ext <;> simp only <;> split <;> omega
 rw [e]
 rcases mS x y with ⟨c, h⟩ | ⟨c1, c2, c3, h⟩
 ·rw [h]
  have : min x.2 y.2 < max x.1 y.1 := by omega
  exact ⟨by simpa [emp] using this, fun h => absurd this h⟩
 ·rw [h]
  exact ⟨by simp [emp], fun _ => rfl⟩
theorem vz (op a b c im : Int) (h0 : 0 ≤ op) (r : RG) (hr : R16 r) (w : World) (hno : aU ⟨op, a, b, c, im⟩ = false ∨ (aU ⟨op, a, b, c, im⟩ = true ∧ aC r = false)) :
  Calls Tryz.prog 13 #[.agg #[.int .u8 op, .int .i64 a, .int .i64 b, .int .i64 c, .int .i64 im], .agg (aa r).toArray] w fun e w' => e = .returned (cM none) ∧ Below w.heap.size w w' := by
 obtain ⟨V, hV, k0, k1, k2, bV, sV⟩ := cm w #[.int .u8 op, .int .i64 a, .int .i64 b, .int .i64 c, .int .i64 im] (aa r).toArray acM.toArray 64 61 61
 obtain ⟨a0, a1, a2, a3, a4, lV⟩ := aQ k0
 have HC := acD (show BL w V #[.int .u8 op, .int .i64 a, .int .i64 b, .int .i64 c, .int .i64 im] r from ⟨bV, k0, k1, k2⟩)
 have gM := acD (Calls.ext (iu ⟨op, a, b, c, im⟩ h0 V))
 have j8 := acD (fun x : Ext V => Calls.ay (x := x) (lM r hr.len x.w))
 clear k0 k1 k2 bV
 go_enter Tryz.func13, Tryz.ntmps13
 go_upto_region 1 with fail
 clear hV
 rcases hno with hv | ⟨hv, hp⟩
 ·rw [hv] at gM
  go_wp2_with (first | (go_at_call 40; refine gM.out.mono ?_; rintro e w' ⟨rfl, y, rfl⟩) | (refine wpList_store_row rfl 61 (.tmp 4) (.tmp 16) rfl (w.heap.size + 1 + 1) (aa aq).toArray rfl rfl 61 _ ((HC.out.keep (Ext.h _)).ko) (ra aI ak) (hi6 ak ak) (aj aq) ?_))
  refine bodyPost_ret (results_cell_tmp (P := Tryz.prog) Tryz.results13 _ _ (w.heap.size + 1 + 1) (aa aq) _ rfl (au (setRow_heap _ _ _ _ _ _ ((HC.out.keep y.h).ko))) Tryz.underlying61 rfl (rn aI ak)) rfl ⟨rfl, below_setRow ((HC.out.keep y.h).aF) abo _⟩
 ·rw [hv] at gM
  rw [hp] at j8
  go_wp2_with (first | (go_at_call 40; refine gM.out.mono ?_; rintro e w' ⟨rfl, y, rfl⟩) | (go_at_call 41; refine (j8.out _).mono ?_; rintro e w' ⟨rfl, z, rfl⟩) | (refine bu abx _ _ rfl _ _ rfl (aa r) _ (HC.out.kr.keep (Ext.h _)).range Tryz.underlying61 rfl (rn aI hr.len) ?_) | (refine wpList_store_row rfl 61 (.tmp 4) (.tmp 16) rfl (w.heap.size + 1 + 1) (aa aq).toArray rfl rfl 61 _ ((HC.out.keep (Ext.h _)).ko) (ra aI ak) (hi6 ak ak) (aj aq) ?_))
  refine bodyPost_ret (results_cell_tmp (P := Tryz.prog) Tryz.results13 _ _ (w.heap.size + 1 + 1) (aa aq) _ rfl (au (setRow_heap _ _ _ _ _ _ ((HC.out.keep z.h).ko))) Tryz.underlying61 rfl (rn aI ak)) rfl ⟨rfl, below_setRow ((HC.out.keep z.h).aF) abo _⟩
theorem uy {r : RG} (h : aC r = true) (hl : r.length = 16) {k : Nat} (hk : k < 16) : (rg r (k : Int)).1 ≤ (rg r (k : Int)).2 := by
 by_cases h1 : (rg r (k : Int)).2 < (rg r (k : Int)).1
 ·rw [mQ abo h1] at h; cases h
 ·omega
theorem Pv {a b c im : Int} (h : aU ⟨25, a, b, c, im⟩ = true) : 1 ≤ im := by
 obtain ⟨k, g1, g2, -, -, -, i1, i2⟩ := (cU (i := ⟨25, a, b, c, im⟩) (show (0 : Int) ≤ 25 by decide)).1 h
 simp only at g1 i1 i2
 obtain rfl : k = 25 := by omega
 exact i1
theorem tM (op : Int) (an bn cn : Nat) (im : Int) (ha : an < 16) (hb : bn < 16) (hc : cn < 16) (J5 : -131072 ≤ im ∧ im ≤ 131071) (h0 : 0 ≤ op) (h30 : op < 30) (r : RG) (hr : R16 r) (w : World) (hv : aU ⟨op, an, bn, cn, im⟩ = true) (hp : aC r = true) :
  Calls Tryz.prog 13 #[.agg #[.int .u8 op, .int .i64 (an : Int), .int .i64 (bn : Int), .int .i64 (cn : Int), .int .i64 im], .agg (aa r).toArray] w fun e w' => e = .returned (cM (bT ⟨op, an, bn, cn, im⟩ r)) ∧ Below w.heap.size w w' := by
 have QE := acD (fun (o1 : 2 ≤ op ∧ op ≤ 13) (hz : (op = 5 ∨ op = 6) ∧ rg r (cn : Int) = (0, 0)) => show bT ⟨op, an, bn, cn, im⟩ r = none by unfold bT; rw [if_pos ⟨hv, hp⟩, if_pos o1, if_pos hz])
 have LZ := acD (fun (o1 : 2 ≤ op ∧ op ≤ 13) (hz : ¬ ((op = 5 ∨ op = 6) ∧ rg r (cn : Int) = (0, 0))) => show bT ⟨op, an, bn, cn, im⟩ r = some (aW r (an : Int) (aN (nT op) (rg r (bn : Int)) (rg r (cn : Int)))) by unfold bT; rw [if_pos ⟨hv, hp⟩, if_pos o1, if_neg hz])
 have yz := acD (fun (o1 : ¬ (2 ≤ op ∧ op ≤ 13)) => show bT ⟨op, an, bn, cn, im⟩ r = (if op = 14 then some (aW r an (im, im)) else if op = 15 then some (aW r an (aN 6 (rg r bn) (im, im))) else if op = 16 then some (aW r an (aN 14 (rg r bn) (im, im)))
   else if op = 17 then some (aW r an (aN 12 (rg r bn) (im, im))) else if op = 18 ∨ op = 20 ∨ op = 26 then some (aW r an uP) else if op = 25 then (if emp (aJ (rg r an) (0, im - 1)) = true then none else some (aW r an (aJ (rg r an) (0, im - 1)))) else some r) by
  unfold bT
  rw [if_pos ⟨hv, hp⟩, if_neg o1])
 obtain ⟨O, hO⟩ : ∃ O, bT ⟨op, an, bn, cn, im⟩ r = O := ⟨_, rfl⟩
 rw [hO] at QE LZ yz ⊢
 clear hO
 obtain ⟨V, hV, k0, k1, k2, bV, sV⟩ := cm w #[.int .u8 op, .int .i64 (an : Int), .int .i64 (bn : Int), .int .i64 (cn : Int), .int .i64 im] (aa r).toArray acM.toArray 64 61 61
 obtain ⟨a0, a1, a2, a3, a4, lV⟩ := aQ k0
 have HC := acD (show BL w V #[.int .u8 op, .int .i64 (an : Int), .int .i64 (bn : Int), .int .i64 (cn : Int), .int .i64 im] r from ⟨bV, k0, k1, k2⟩)
 have gM := acD (Calls.ext (iu ⟨op, an, bn, cn, im⟩ h0 V))
 have j8 := acD (fun x : Ext V => Calls.ay (x := x) (lM r hr.len x.w))
 clear k0 k1 k2 bV
 go_enter Tryz.func13, Tryz.ntmps13
 go_upto_region 1 with fail
 clear hV
 rw [hv] at gM
 rw [hp] at j8
 have HP := acD hp
 go_upto_region 3 with (first | (go_at_call 40; refine gM.out.mono ?_; rintro e w' ⟨rfl, y, rfl⟩) | (go_at_call 41; refine (j8.out _).mono ?_; rintro e w' ⟨rfl, z, rfl⟩) | (refine bu abx _ _ rfl _ _ rfl (aa r) _ (HC.out.kr.keep (Ext.h _)).range Tryz.underlying61 rfl (rn aI hr.len) ?_))
 obtain ⟨U, hU⟩ : ∃ U, z.w = U := ⟨_, rfl⟩
 have fF := acD (HC.out.keep (hU ▸ z.h))
 rw [hU]
 clear hU a0 a1 a2 a3 a4 lV gM j8 HC hp
 obtain ⟨bl, hbl⟩ : ∃ bl, (rg r (bn : Int)).1 = bl := ⟨_, rfl⟩
 obtain ⟨bh, M8⟩ : ∃ bh, (rg r (bn : Int)).2 = bh := ⟨_, rfl⟩
 obtain ⟨cl, hcl⟩ : ∃ cl, (rg r (cn : Int)).1 = cl := ⟨_, rfl⟩
 obtain ⟨ch, hch⟩ : ∃ ch, (rg r (cn : Int)).2 = ch := ⟨_, rfl⟩
 obtain ⟨al, hal⟩ : ∃ al, (rg r (an : Int)).1 = al := ⟨_, rfl⟩
 obtain ⟨ah, zX⟩ : ∃ ah, (rg r (an : Int)).2 = ah := ⟨_, rfl⟩
 have nC := acD hbl
 have Mg := acD M8
 have NP := acD hcl
 have E8 := acD hch
 have Re := acD hal
 have Mh := acD zX
 have yO := acD (show rg r (bn : Int) = (bl, bh) from Prod.ext hbl M8)
 have oM := acD (show rg r (cn : Int) = (cl, ch) from Prod.ext hcl hch)
 have je := acD (show rg r (an : Int) = (al, ah) from Prod.ext hal zX)
 have ia : (an : Int) < 16 := by omega
 have ib : (bn : Int) < 16 := by omega
 have ic : (cn : Int) < 16 := by omega
 have fA : aP bl ∧ aP bh := by have h := hr.at_ (bn : Int); rw [yO.out] at h; exact h
 have hcw : aP cl ∧ aP ch := by have h := hr.at_ (cn : Int); rw [oM.out] at h; exact h
 have Hi : aP al ∧ aP ah := by have h := hr.at_ (an : Int); rw [je.out] at h; exact h
 clear hbl M8 hcl hch hal zX
 obtain ⟨u0, u1, u2, u3, u4, lI⟩ := aQ (fF.out).ki
 have r0 : U.cell? ⟨w.heap.size + 1, bn * 2, none⟩ = some (.int .i32 bl) := by rw [← nC.out]; exact (fF.out).kr.lo abM
 have r1 : U.cell? ⟨w.heap.size + 1, bn * 2 + 1, none⟩ = some (.int .i32 bh) := by rw [← Mg.out]; exact (fF.out).kr.hi abM
 have r2 : U.cell? ⟨w.heap.size + 1, cn * 2, none⟩ = some (.int .i32 cl) := by rw [← NP.out]; exact (fF.out).kr.lo abL
 have r3 : U.cell? ⟨w.heap.size + 1, cn * 2 + 1, none⟩ = some (.int .i32 ch) := by rw [← E8.out]; exact (fF.out).kr.hi abL
 have r4 : U.cell? ⟨w.heap.size + 1, an * 2, none⟩ = some (.int .i32 al) := by rw [← Re.out]; exact (fF.out).kr.lo abE
 have r5 : U.cell? ⟨w.heap.size + 1, an * 2 + 1, none⟩ = some (.int .i32 ah) := by rw [← Mh.out]; exact (fF.out).kr.hi abE
 have lR := (fF.out).kr.lt
 have lO := ag (fF.out).ko
 have hC : (op = 0 ∨ op = 1 ∨ op = 19 ∨ op = 21 ∨ op = 22 ∨ op = 23 ∨ op = 24 ∨ op = 27 ∨ op = 28 ∨ op = 29) ∨ ((2 ≤ op ∧ op ≤ 13) ∧ (op = 5 ∨ op = 6) ∧ cl = 0 ∧ ch = 0) ∨ ((2 ≤ op ∧ op ≤ 13) ∧ (op = 5 ∨ op = 6) ∧ ¬ cl = 0) ∨ ((2 ≤ op ∧ op ≤ 13) ∧ (op = 5 ∨ op = 6) ∧ cl = 0 ∧ ¬ ch = 0) ∨ ((2 ≤ op ∧ op ≤ 13) ∧ ¬ (op = 5 ∨ op = 6)) ∨ op = 14 ∨ op = 15 ∨ op = 16 ∨ op = 17 ∨ (op = 18 ∨ op = 20 ∨ op = 26) ∨ op = 25 := by omega
 rcases hC with h | ⟨o1, h5, hz⟩ | ⟨o1, h5, hz⟩ | ⟨o1, h5, hz⟩ | ⟨o1, h5⟩ | h | h | h | h | h | h
 focus
  have cH := yz.out abo
  rw [if_neg abo, if_neg abo, if_neg abo, if_neg abo, if_neg abo, if_neg abo] at cH
  have j5 := acD cH
  clear cH
  rcases h with rfl | rfl | rfl | rfl | rfl | rfl | rfl | rfl | rfl | rfl
  all_goals
   go_wp2_with (first | (refine wpList_load_mid rfl _ _ rfl _ _ rfl (aa r) _ fF.out.kr.range Tryz.underlying61 rfl (rn aI hr.len) ?_) | (refine wpList_store_row rfl 61 (.tmp 4) (.tmp 152) rfl (w.heap.size + 1 + 1) (aa r).toArray rfl rfl 61 _ fF.out.ko (ra aI hr.len) (hi6 hr.len ak) (aj r) ?_))
   refine bodyPost_ret (results_cell_tmp (P := Tryz.prog) Tryz.results13 _ _ (w.heap.size + 1 + 1) (aa r) _ rfl (au (setRow_heap _ _ _ _ _ _ fF.out.ko)) Tryz.underlying61 rfl (rn aI hr.len)) rfl ⟨?_, below_setRow fF.out.aF abo _⟩
   rw [j5.out]
   rfl
 focus
  have d1 : decide (2 ≤ op) = true := decide_eq_true o1.1
  have d2 : decide (op ≤ 13) = true := decide_eq_true o1.2
  have j5 := acD (QE.out o1 ⟨h5, by rw [oM.out, hz.1, hz.2]⟩)
  obtain ⟨rfl, rfl⟩ := hz
  clear hcw
  rcases h5 with rfl | rfl
  all_goals
   go_wp2_with (refine wpList_store_row rfl 61 (.tmp 4) (.tmp 48) rfl (w.heap.size + 1 + 1) (aa aq).toArray rfl rfl 61 _ ((fF.out.keep ((Below.refl _ _).alloc (Nat.le_refl _) _)).ko) (ra aI ak) (hi6 ak ak) (aj aq) ?_)
   refine bodyPost_ret (results_cell_tmp (P := Tryz.prog) Tryz.results13 _ _ (w.heap.size + 1 + 1) (aa aq) _ rfl (au (setRow_heap _ _ _ _ _ _ ((fF.out.keep ((Below.refl _ _).alloc (Nat.le_refl _) _)).ko))) Tryz.underlying61 rfl (rn aI ak)) rfl ⟨?_, below_setRow ((fF.out.keep ((Below.refl _ _).alloc (Nat.le_refl _) _)).aF) abo _⟩
   rw [j5.out]
   rfl
 focus
  have QO := acD (fun h : cl = 0 ∧ ch = 0 => hz h.1)
  have e8 : (cl == 0) = false := by simpa using hz
  clear hz
  have hz : ¬ ((op = 5 ∨ op = 6) ∧ rg r (cn : Int) = (0, 0)) := fun h => QO.out acp
  have d1 : decide (2 ≤ op) = true := decide_eq_true o1.1
  have d2 : decide (op ≤ 13) = true := decide_eq_true o1.2
  have nH := acD (oQ op o1.1 o1.2)
  have hap := fun w => lN (nT op) bl bh cl ch w fA.1.1 fA.1.2 fA.2.1 fA.2.2 hcw.1.1 hcw.1.2 hcw.2.1 hcw.2.2
  obtain ⟨xa, fY⟩ : ∃ xa, (aN (nT op) (bl, bh) (cl, ch)).1 = xa := ⟨_, rfl⟩
  obtain ⟨xb, hxb⟩ : ∃ xb, (aN (nT op) (bl, bh) (cl, ch)).2 = xb := ⟨_, rfl⟩
  have tH := acD (show aP xa ∧ aP xb by rw [← fY, ← hxb]; exact fR fA hcw)
  rw [fY, hxb] at hap
  have uf := acD hap
  have j6 := LZ.out o1 hz
  rw [yO.out, oM.out, show aN (nT op) (bl, bh) (cl, ch) = (xa, xb) from Prod.ext fY hxb] at j6
  have j5 := acD j6
  clear hz hap fY hxb fA hcw j6
  obtain ⟨r9, hr9⟩ : ∃ r9, aW r (an : Int) (xa, xb) = r9 := ⟨_, rfl⟩
  have tq := acD (show r9.length = 16 by rw [← hr9]; exact (hr.aW _ tH.out).len)
  have HS := acD (show ∀ w, Calls Tryz.prog 42 #[.agg (aa r).toArray, .int .i64 (an : Int), .agg #[.int .i32 xa, .int .i32 xb]] w (fun e w' => e = .returned (.agg (aa r9).toArray) ∧ Below w.heap.size w w') from hr9 ▸ fun w => fD r hr.len an ha xa xb w)
  have IX := acD hr9
  clear hr9
  clear QO
  rcases h5 with rfl | rfl
  all_goals
   go_upto_region 5 with fail
   obtain ⟨t6, ht6⟩ : ∃ t, U.heap.size = t := ⟨_, rfl⟩
   obtain ⟨W, hW⟩ : ∃ W, U.alloc (.cells #[.int .i32 cl, .int .i32 ch] 58) = W := ⟨_, rfl⟩
   have bW : Below U.heap.size U W := hW ▸ (Below.refl _ _).alloc (Nat.le_refl _) _
   have kW : W.heap[t6]? = some (.cells #[.int .i32 cl, .int .i32 ch] 58 (0, 0)) := by rw [← ht6]; exact hW ▸ heap_alloc_new _ _
   have eP := acD (fF.out.keep bW)
   rw [hW, ht6]
   obtain ⟨g0, g1, -, -, l6⟩ := jR kW
   clear u0 u1 u2 u3 u4 lI r0 r1 r2 r3 r4 r5 lR lO
   clear hW ht6 kW bW
   obtain ⟨u0, u1, u2, u3, u4, lI⟩ := aQ (eP.out).ki
   have r0 : W.cell? ⟨w.heap.size + 1, bn * 2, none⟩ = some (.int .i32 bl) := by rw [← nC.out]; exact (eP.out).kr.lo abM
   have r1 : W.cell? ⟨w.heap.size + 1, bn * 2 + 1, none⟩ = some (.int .i32 bh) := by rw [← Mg.out]; exact (eP.out).kr.hi abM
   have r2 : W.cell? ⟨w.heap.size + 1, cn * 2, none⟩ = some (.int .i32 cl) := by rw [← NP.out]; exact (eP.out).kr.lo abL
   have r3 : W.cell? ⟨w.heap.size + 1, cn * 2 + 1, none⟩ = some (.int .i32 ch) := by rw [← E8.out]; exact (eP.out).kr.hi abL
   have r4 : W.cell? ⟨w.heap.size + 1, an * 2, none⟩ = some (.int .i32 al) := by rw [← Re.out]; exact (eP.out).kr.lo abE
   have r5 : W.cell? ⟨w.heap.size + 1, an * 2 + 1, none⟩ = some (.int .i32 ah) := by rw [← Mh.out]; exact (eP.out).kr.hi abE
   have lR := (eP.out).kr.lt
   have lO := ag (eP.out).ko
   go_upto_region 7 with fail
   have gK := acD (show ∀ w', (∃ x : Ext W, w' = x.w) → w'.rangeAt (w.heap.size + 1) 0 (aa r) from by rintro _ ⟨x, rfl⟩; exact (eP.out.kr.keep x.h).range)
   refine aG 14 abp abp ?_
   simp only [acK, List.take_zero, acL, List.drop_zero]
   refine bM abx _ _ rfl _ _ rfl (aa r) _ gK.out Tryz.underlying61 rfl (rn aI hr.len) ?_
   (try simp only [acE, acF, acG, Act.put, acH, acI, acJ])
   repeat (go_big_quiet_step (first | (go_at_call 44; exact Calls.ay (nH.out _)) | (go_at_call 43; exact Calls.ay (uf.out _)) | (go_at_call 42; exact Calls.ay (HS.out _))))
   refine wpQuiet_nil ?_
   rintro _ ⟨x1, rfl⟩
 rotate_left 2
 focus
  have QO := acD (fun h : cl = 0 ∧ ch = 0 => hz.2 h.2)
  have e8 : (cl == 0) = true := by simpa using hz.1
  have e9 : (ch == 0) = false := by simpa using hz.2
  clear hz
  have hz : ¬ ((op = 5 ∨ op = 6) ∧ rg r (cn : Int) = (0, 0)) := fun h => QO.out acp
  have d1 : decide (2 ≤ op) = true := decide_eq_true o1.1
  have d2 : decide (op ≤ 13) = true := decide_eq_true o1.2
  have nH := acD (oQ op o1.1 o1.2)
  have hap := fun w => lN (nT op) bl bh cl ch w fA.1.1 fA.1.2 fA.2.1 fA.2.2 hcw.1.1 hcw.1.2 hcw.2.1 hcw.2.2
  obtain ⟨xa, fY⟩ : ∃ xa, (aN (nT op) (bl, bh) (cl, ch)).1 = xa := ⟨_, rfl⟩
  obtain ⟨xb, hxb⟩ : ∃ xb, (aN (nT op) (bl, bh) (cl, ch)).2 = xb := ⟨_, rfl⟩
  have tH := acD (show aP xa ∧ aP xb by rw [← fY, ← hxb]; exact fR fA hcw)
  rw [fY, hxb] at hap
  have uf := acD hap
  have j6 := LZ.out o1 hz
  rw [yO.out, oM.out, show aN (nT op) (bl, bh) (cl, ch) = (xa, xb) from Prod.ext fY hxb] at j6
  have j5 := acD j6
  clear hz hap fY hxb fA hcw j6
  obtain ⟨r9, hr9⟩ : ∃ r9, aW r (an : Int) (xa, xb) = r9 := ⟨_, rfl⟩
  have tq := acD (show r9.length = 16 by rw [← hr9]; exact (hr.aW _ tH.out).len)
  have HS := acD (show ∀ w, Calls Tryz.prog 42 #[.agg (aa r).toArray, .int .i64 (an : Int), .agg #[.int .i32 xa, .int .i32 xb]] w (fun e w' => e = .returned (.agg (aa r9).toArray) ∧ Below w.heap.size w w') from hr9 ▸ fun w => fD r hr.len an ha xa xb w)
  have IX := acD hr9
  clear hr9
  clear QO
  rcases h5 with rfl | rfl
  all_goals
   go_upto_region 5 with fail
   obtain ⟨t6, ht6⟩ : ∃ t, U.heap.size = t := ⟨_, rfl⟩
   obtain ⟨W, hW⟩ : ∃ W, U.alloc (.cells #[.int .i32 cl, .int .i32 ch] 58) = W := ⟨_, rfl⟩
   have bW : Below U.heap.size U W := hW ▸ (Below.refl _ _).alloc (Nat.le_refl _) _
   have kW : W.heap[t6]? = some (.cells #[.int .i32 cl, .int .i32 ch] 58 (0, 0)) := by rw [← ht6]; exact hW ▸ heap_alloc_new _ _
   have eP := acD (fF.out.keep bW)
   rw [hW, ht6]
   obtain ⟨g0, g1, -, -, l6⟩ := jR kW
   clear u0 u1 u2 u3 u4 lI r0 r1 r2 r3 r4 r5 lR lO
   clear hW ht6 kW bW
   obtain ⟨u0, u1, u2, u3, u4, lI⟩ := aQ (eP.out).ki
   have r0 : W.cell? ⟨w.heap.size + 1, bn * 2, none⟩ = some (.int .i32 bl) := by rw [← nC.out]; exact (eP.out).kr.lo abM
   have r1 : W.cell? ⟨w.heap.size + 1, bn * 2 + 1, none⟩ = some (.int .i32 bh) := by rw [← Mg.out]; exact (eP.out).kr.hi abM
   have r2 : W.cell? ⟨w.heap.size + 1, cn * 2, none⟩ = some (.int .i32 cl) := by rw [← NP.out]; exact (eP.out).kr.lo abL
   have r3 : W.cell? ⟨w.heap.size + 1, cn * 2 + 1, none⟩ = some (.int .i32 ch) := by rw [← E8.out]; exact (eP.out).kr.hi abL
   have r4 : W.cell? ⟨w.heap.size + 1, an * 2, none⟩ = some (.int .i32 al) := by rw [← Re.out]; exact (eP.out).kr.lo abE
   have r5 : W.cell? ⟨w.heap.size + 1, an * 2 + 1, none⟩ = some (.int .i32 ah) := by rw [← Mh.out]; exact (eP.out).kr.hi abE
   have lR := (eP.out).kr.lt
   have lO := ag (eP.out).ko
   go_upto_region 7 with fail
   have gK := acD (show ∀ w', (∃ x : Ext W, w' = x.w) → w'.rangeAt (w.heap.size + 1) 0 (aa r) from by rintro _ ⟨x, rfl⟩; exact (eP.out.kr.keep x.h).range)
   refine aG 14 abp abp ?_
   simp only [acK, List.take_zero, acL, List.drop_zero]
   refine bM abx _ _ rfl _ _ rfl (aa r) _ gK.out Tryz.underlying61 rfl (rn aI hr.len) ?_
   (try simp only [acE, acF, acG, Act.put, acH, acI, acJ])
   repeat (go_big_quiet_step (first | (go_at_call 44; exact Calls.ay (nH.out _)) | (go_at_call 43; exact Calls.ay (uf.out _)) | (go_at_call 42; exact Calls.ay (HS.out _))))
   refine wpQuiet_nil ?_
   rintro _ ⟨x1, rfl⟩
 rotate_left 2
 focus
  have hz : ¬ ((op = 5 ∨ op = 6) ∧ rg r (cn : Int) = (0, 0)) := fun h => h5 h.1
  have d1 : decide (2 ≤ op) = true := decide_eq_true o1.1
  have d2 : decide (op ≤ 13) = true := decide_eq_true o1.2
  have nH := acD (oQ op o1.1 o1.2)
  have hap := fun w => lN (nT op) bl bh cl ch w fA.1.1 fA.1.2 fA.2.1 fA.2.2 hcw.1.1 hcw.1.2 hcw.2.1 hcw.2.2
  obtain ⟨xa, fY⟩ : ∃ xa, (aN (nT op) (bl, bh) (cl, ch)).1 = xa := ⟨_, rfl⟩
  obtain ⟨xb, hxb⟩ : ∃ xb, (aN (nT op) (bl, bh) (cl, ch)).2 = xb := ⟨_, rfl⟩
  have tH := acD (show aP xa ∧ aP xb by rw [← fY, ← hxb]; exact fR fA hcw)
  rw [fY, hxb] at hap
  have uf := acD hap
  have j6 := LZ.out o1 hz
  rw [yO.out, oM.out, show aN (nT op) (bl, bh) (cl, ch) = (xa, xb) from Prod.ext fY hxb] at j6
  have j5 := acD j6
  clear hz hap fY hxb fA hcw j6
  obtain ⟨r9, hr9⟩ : ∃ r9, aW r (an : Int) (xa, xb) = r9 := ⟨_, rfl⟩
  have tq := acD (show r9.length = 16 by rw [← hr9]; exact (hr.aW _ tH.out).len)
  have HS := acD (show ∀ w, Calls Tryz.prog 42 #[.agg (aa r).toArray, .int .i64 (an : Int), .agg #[.int .i32 xa, .int .i32 xb]] w (fun e w' => e = .returned (.agg (aa r9).toArray) ∧ Below w.heap.size w w') from hr9 ▸ fun w => fD r hr.len an ha xa xb w)
  have IX := acD hr9
  clear hr9
  have e5 : (op == 5) = false := by rw [Bool.eq_false_iff]; intro h; exact h5 (.inl abS)
  have e6 : (op == 6) = false := by rw [Bool.eq_false_iff]; intro h; exact h5 (.inr abS)
  clear h5
  go_upto_region 5 with fail
  obtain ⟨t6, ht6⟩ : ∃ t, U.heap.size = t := ⟨_, rfl⟩
  obtain ⟨W, hW⟩ : ∃ W, U.alloc (.cells #[.int .i32 cl, .int .i32 ch] 58) = W := ⟨_, rfl⟩
  have bW : Below U.heap.size U W := hW ▸ (Below.refl _ _).alloc (Nat.le_refl _) _
  have kW : W.heap[t6]? = some (.cells #[.int .i32 cl, .int .i32 ch] 58 (0, 0)) := by rw [← ht6]; exact hW ▸ heap_alloc_new _ _
  have eP := acD (fF.out.keep bW)
  rw [hW, ht6]
  obtain ⟨g0, g1, -, -, l6⟩ := jR kW
  clear u0 u1 u2 u3 u4 lI r0 r1 r2 r3 r4 r5 lR lO
  clear hW ht6 kW bW
  obtain ⟨u0, u1, u2, u3, u4, lI⟩ := aQ (eP.out).ki
  have r0 : W.cell? ⟨w.heap.size + 1, bn * 2, none⟩ = some (.int .i32 bl) := by rw [← nC.out]; exact (eP.out).kr.lo abM
  have r1 : W.cell? ⟨w.heap.size + 1, bn * 2 + 1, none⟩ = some (.int .i32 bh) := by rw [← Mg.out]; exact (eP.out).kr.hi abM
  have r2 : W.cell? ⟨w.heap.size + 1, cn * 2, none⟩ = some (.int .i32 cl) := by rw [← NP.out]; exact (eP.out).kr.lo abL
  have r3 : W.cell? ⟨w.heap.size + 1, cn * 2 + 1, none⟩ = some (.int .i32 ch) := by rw [← E8.out]; exact (eP.out).kr.hi abL
  have r4 : W.cell? ⟨w.heap.size + 1, an * 2, none⟩ = some (.int .i32 al) := by rw [← Re.out]; exact (eP.out).kr.lo abE
  have r5 : W.cell? ⟨w.heap.size + 1, an * 2 + 1, none⟩ = some (.int .i32 ah) := by rw [← Mh.out]; exact (eP.out).kr.hi abE
  have lR := (eP.out).kr.lt
  have lO := ag (eP.out).ko
  go_upto_region 7 with fail
  have gK := acD (show ∀ w', (∃ x : Ext W, w' = x.w) → w'.rangeAt (w.heap.size + 1) 0 (aa r) from by rintro _ ⟨x, rfl⟩; exact (eP.out.kr.keep x.h).range)
  refine aG 14 abp abp ?_
  simp only [acK, List.take_zero, acL, List.drop_zero]
  refine bM abx _ _ rfl _ _ rfl (aa r) _ gK.out Tryz.underlying61 rfl (rn aI hr.len) ?_
  (try simp only [acE, acF, acG, Act.put, acH, acI, acJ])
  repeat (go_big_quiet_step (first | (go_at_call 44; exact Calls.ay (nH.out _)) | (go_at_call 43; exact Calls.ay (uf.out _)) | (go_at_call 42; exact Calls.ay (HS.out _))))
  refine wpQuiet_nil ?_
  rintro _ ⟨x1, rfl⟩
 rotate_left 1
 focus
  have cH := yz.out abo
  rw [if_pos h] at cH
  have j5 := acD cH
  clear cH
  subst h
  have tH := acD (show aP im ∧ aP im by unfold aP; omega)
  have KI := acD (fun w => nM im w abo abo)
  obtain ⟨r9, hr9⟩ : ∃ r9, aW r (an : Int) (im, im) = r9 := ⟨_, rfl⟩
  have tq := acD (show r9.length = 16 by rw [← hr9]; exact (hr.aW _ tH.out).len)
  have HS := acD (show ∀ w, Calls Tryz.prog 42 #[.agg (aa r).toArray, .int .i64 (an : Int), .agg #[.int .i32 im, .int .i32 im]] w (fun e w' => e = .returned (.agg (aa r9).toArray) ∧ Below w.heap.size w w') from hr9 ▸ fun w => fD r hr.len an ha im im w)
  have IX := acD hr9
  clear hr9
  obtain ⟨W, hW⟩ : ∃ W, U = W := ⟨_, rfl⟩
  rw [hW] at u0 u1 u2 u3 u4 lI r0 r1 r2 r3 r4 r5 lR lO fF ⊢
  have eP := fF
  clear hW
  go_upto_region 10 with fail
  have gK := acD (show ∀ w', (∃ x : Ext W, w' = x.w) → w'.rangeAt (w.heap.size + 1) 0 (aa r) from by rintro _ ⟨x, rfl⟩; exact (eP.out.kr.keep x.h).range)
  refine aG 7 abp abp ?_
  simp only [acK, List.take_zero, acL, List.drop_zero]
  refine bM abx _ _ rfl _ _ rfl (aa r) _ gK.out Tryz.underlying61 rfl (rn aI hr.len) ?_
  (try simp only [acE, acF, acG, Act.put, acH, acI, acJ])
  repeat (go_big_quiet_step (first | (go_at_call 45; exact Calls.ay (KI.out _)) | (go_at_call 42; exact Calls.ay (HS.out _))))
  refine wpQuiet_nil ?_
  rintro _ ⟨x1, rfl⟩
 rotate_left 1
 focus
  have cH := yz.out abo
  rw [if_neg abo, if_pos h] at cH
  subst h
  have hap := fun w => lN 6 bl bh im im w fA.1.1 fA.1.2 fA.2.1 fA.2.2 abo abo abo abo
  obtain ⟨xa, fY⟩ : ∃ xa, (aN 6 (bl, bh) (im, im)).1 = xa := ⟨_, rfl⟩
  obtain ⟨xb, hxb⟩ : ∃ xb, (aN 6 (bl, bh) (im, im)).2 = xb := ⟨_, rfl⟩
  have tH := acD (show aP xa ∧ aP xb by rw [← fY, ← hxb]; exact fR fA abY)
  rw [fY, hxb] at hap
  have uf := acD hap
  have KI := acD (fun w => nM im w abo abo)
  rw [yO.out, show aN 6 (bl, bh) (im, im) = (xa, xb) from Prod.ext fY hxb] at cH
  have j5 := acD cH
  clear hap fY hxb fA hcw cH
  obtain ⟨r9, hr9⟩ : ∃ r9, aW r (an : Int) (xa, xb) = r9 := ⟨_, rfl⟩
  have tq := acD (show r9.length = 16 by rw [← hr9]; exact (hr.aW _ tH.out).len)
  have HS := acD (show ∀ w, Calls Tryz.prog 42 #[.agg (aa r).toArray, .int .i64 (an : Int), .agg #[.int .i32 xa, .int .i32 xb]] w (fun e w' => e = .returned (.agg (aa r9).toArray) ∧ Below w.heap.size w w') from hr9 ▸ fun w => fD r hr.len an ha xa xb w)
  have IX := acD hr9
  clear hr9
  obtain ⟨W, hW⟩ : ∃ W, U = W := ⟨_, rfl⟩
  rw [hW] at u0 u1 u2 u3 u4 lI r0 r1 r2 r3 r4 r5 lR lO fF ⊢
  have eP := fF
  clear hW
  go_upto_region 12 with fail
  have gK := acD (show ∀ w', (∃ x : Ext W, w' = x.w) → w'.rangeAt (w.heap.size + 1) 0 (aa r) from by rintro _ ⟨x, rfl⟩; exact (eP.out.kr.keep x.h).range)
  refine aG 13 abp abp ?_
  simp only [acK, List.take_zero, acL, List.drop_zero]
  refine bM abx _ _ rfl _ _ rfl (aa r) _ gK.out Tryz.underlying61 rfl (rn aI hr.len) ?_
  (try simp only [acE, acF, acG, Act.put, acH, acI, acJ])
  repeat (go_big_quiet_step (first | (go_at_call 45; exact Calls.ay (KI.out _)) | (go_at_call 43; exact Calls.ay (uf.out _)) | (go_at_call 42; exact Calls.ay (HS.out _))))
  refine wpQuiet_nil ?_
  rintro _ ⟨x1, rfl⟩
 rotate_left 1
 focus
  have cH := yz.out abo
  rw [if_neg abo, if_neg abo, if_pos h] at cH
  subst h
  have hap := fun w => lN 14 bl bh im im w fA.1.1 fA.1.2 fA.2.1 fA.2.2 abo abo abo abo
  obtain ⟨xa, fY⟩ : ∃ xa, (aN 14 (bl, bh) (im, im)).1 = xa := ⟨_, rfl⟩
  obtain ⟨xb, hxb⟩ : ∃ xb, (aN 14 (bl, bh) (im, im)).2 = xb := ⟨_, rfl⟩
  have tH := acD (show aP xa ∧ aP xb by rw [← fY, ← hxb]; exact fR fA abY)
  rw [fY, hxb] at hap
  have uf := acD hap
  have KI := acD (fun w => nM im w abo abo)
  rw [yO.out, show aN 14 (bl, bh) (im, im) = (xa, xb) from Prod.ext fY hxb] at cH
  have j5 := acD cH
  clear hap fY hxb fA hcw cH
  obtain ⟨r9, hr9⟩ : ∃ r9, aW r (an : Int) (xa, xb) = r9 := ⟨_, rfl⟩
  have tq := acD (show r9.length = 16 by rw [← hr9]; exact (hr.aW _ tH.out).len)
  have HS := acD (show ∀ w, Calls Tryz.prog 42 #[.agg (aa r).toArray, .int .i64 (an : Int), .agg #[.int .i32 xa, .int .i32 xb]] w (fun e w' => e = .returned (.agg (aa r9).toArray) ∧ Below w.heap.size w w') from hr9 ▸ fun w => fD r hr.len an ha xa xb w)
  have IX := acD hr9
  clear hr9
  obtain ⟨W, hW⟩ : ∃ W, U = W := ⟨_, rfl⟩
  rw [hW] at u0 u1 u2 u3 u4 lI r0 r1 r2 r3 r4 r5 lR lO fF ⊢
  have eP := fF
  clear hW
  go_upto_region 14 with fail
  have gK := acD (show ∀ w', (∃ x : Ext W, w' = x.w) → w'.rangeAt (w.heap.size + 1) 0 (aa r) from by rintro _ ⟨x, rfl⟩; exact (eP.out.kr.keep x.h).range)
  refine aG 13 abp abp ?_
  simp only [acK, List.take_zero, acL, List.drop_zero]
  refine bM abx _ _ rfl _ _ rfl (aa r) _ gK.out Tryz.underlying61 rfl (rn aI hr.len) ?_
  (try simp only [acE, acF, acG, Act.put, acH, acI, acJ])
  repeat (go_big_quiet_step (first | (go_at_call 45; exact Calls.ay (KI.out _)) | (go_at_call 43; exact Calls.ay (uf.out _)) | (go_at_call 42; exact Calls.ay (HS.out _))))
  refine wpQuiet_nil ?_
  rintro _ ⟨x1, rfl⟩
 rotate_left 1
 focus
  have cH := yz.out abo
  rw [if_neg abo, if_neg abo, if_neg abo, if_pos h] at cH
  subst h
  have hap := fun w => lN 12 bl bh im im w fA.1.1 fA.1.2 fA.2.1 fA.2.2 abo abo abo abo
  obtain ⟨xa, fY⟩ : ∃ xa, (aN 12 (bl, bh) (im, im)).1 = xa := ⟨_, rfl⟩
  obtain ⟨xb, hxb⟩ : ∃ xb, (aN 12 (bl, bh) (im, im)).2 = xb := ⟨_, rfl⟩
  have tH := acD (show aP xa ∧ aP xb by rw [← fY, ← hxb]; exact fR fA abY)
  rw [fY, hxb] at hap
  have uf := acD hap
  have KI := acD (fun w => nM im w abo abo)
  rw [yO.out, show aN 12 (bl, bh) (im, im) = (xa, xb) from Prod.ext fY hxb] at cH
  have j5 := acD cH
  clear hap fY hxb fA hcw cH
  obtain ⟨r9, hr9⟩ : ∃ r9, aW r (an : Int) (xa, xb) = r9 := ⟨_, rfl⟩
  have tq := acD (show r9.length = 16 by rw [← hr9]; exact (hr.aW _ tH.out).len)
  have HS := acD (show ∀ w, Calls Tryz.prog 42 #[.agg (aa r).toArray, .int .i64 (an : Int), .agg #[.int .i32 xa, .int .i32 xb]] w (fun e w' => e = .returned (.agg (aa r9).toArray) ∧ Below w.heap.size w w') from hr9 ▸ fun w => fD r hr.len an ha xa xb w)
  have IX := acD hr9
  clear hr9
  obtain ⟨W, hW⟩ : ∃ W, U = W := ⟨_, rfl⟩
  rw [hW] at u0 u1 u2 u3 u4 lI r0 r1 r2 r3 r4 r5 lR lO fF ⊢
  have eP := fF
  clear hW
  go_upto_region 16 with fail
  have gK := acD (show ∀ w', (∃ x : Ext W, w' = x.w) → w'.rangeAt (w.heap.size + 1) 0 (aa r) from by rintro _ ⟨x, rfl⟩; exact (eP.out.kr.keep x.h).range)
  refine aG 13 abp abp ?_
  simp only [acK, List.take_zero, acL, List.drop_zero]
  refine bM abx _ _ rfl _ _ rfl (aa r) _ gK.out Tryz.underlying61 rfl (rn aI hr.len) ?_
  (try simp only [acE, acF, acG, Act.put, acH, acI, acJ])
  repeat (go_big_quiet_step (first | (go_at_call 45; exact Calls.ay (KI.out _)) | (go_at_call 43; exact Calls.ay (uf.out _)) | (go_at_call 42; exact Calls.ay (HS.out _))))
  refine wpQuiet_nil ?_
  rintro _ ⟨x1, rfl⟩
 rotate_left 1
 focus
  have cH := yz.out abo
  rw [if_neg abo, if_neg abo, if_neg abo, if_neg abo, if_pos h] at cH
  have j5 := acD cH
  clear cH
  have tH := acD (show aP (-2147483648) ∧ aP 2147483647 by unfold aP; omega)
  obtain ⟨r9, hr9⟩ : ∃ r9, aW r (an : Int) (-2147483648, 2147483647) = r9 := ⟨_, rfl⟩
  have tq := acD (show r9.length = 16 by rw [← hr9]; exact (hr.aW _ tH.out).len)
  have HS := acD (show ∀ w, Calls Tryz.prog 42 #[.agg (aa r).toArray, .int .i64 (an : Int), .agg #[.int .i32 (-2147483648), .int .i32 2147483647]] w (fun e w' => e = .returned (.agg (aa r9).toArray) ∧ Below w.heap.size w w') from hr9 ▸ fun w => fD r hr.len an ha (-2147483648) 2147483647 w)
  have IX := acD hr9
  clear hr9
  rcases h with rfl | rfl | rfl
  all_goals
   obtain ⟨W, hW⟩ : ∃ W, U = W := ⟨_, rfl⟩
   rw [hW] at u0 u1 u2 u3 u4 lI r0 r1 r2 r3 r4 r5 lR lO fF ⊢
   have eP := fF
   clear hW
   go_upto_region 20 with fail
   have gK := acD (show ∀ w', (∃ x : Ext W, w' = x.w) → w'.rangeAt (w.heap.size + 1) 0 (aa r) from by rintro _ ⟨x, rfl⟩; exact (eP.out.kr.keep x.h).range)
   refine aG 5 abp abp ?_
   simp only [acK, List.take_zero, acL, List.drop_zero]
   refine bM abx _ _ rfl _ _ rfl (aa r) _ gK.out Tryz.underlying61 rfl (rn aI hr.len) ?_
   (try simp only [acE, acF, acG, Act.put, acH, acI, acJ])
   repeat (go_big_quiet_step (first | (go_at_call 46; exact Calls.ay (cu _)) | (go_at_call 42; exact Calls.ay (HS.out _))))
   refine wpQuiet_nil ?_
   rintro _ ⟨x1, rfl⟩
 rotate_left 3
 focus
  have cH := yz.out abo
  rw [if_neg abo, if_neg abo, if_neg abo, if_neg abo, if_neg abo, if_pos h] at cH
  subst h
  have TQ := Pv hv
  obtain ⟨xa, xb, hx⟩ : ∃ xa xb, vO (al, ah) (0, im - 1) = (xa, xb) := ⟨_, _, rfl⟩
  have hme := fun w => uq al ah 0 (im - 1) w
  rw [hx] at hme
  have NJ := acD hme
  have TI := Gs (al, ah) (0, im - 1) (by have h := uy HP.out hr.len ha; rw [je.out] at h; exact h) abQ
  rw [hx] at TI
  have Va := acD TI
  have tH := acD (show aP xa ∧ aP xb by
   have h1 : xa = (vO (al, ah) (0, im - 1)).1 := by rw [hx]
   have h2 : xb = (vO (al, ah) (0, im - 1)).2 := by rw [hx]
   rw [h1, h2]
   unfold vO aP at *
   simp only
   constructor <;> split <;> omega)
  rw [je.out] at cH
  have Rb := acD cH
  have w1 : IntKind.i64.wrap (im - 1) = im - 1 := IntWalk.i64_in _ abo
  have w2 : IntKind.i32.wrap (im - 1) = im - 1 := IntWalk.i32_in _ abo
  clear hme hx fA hcw Hi TI cH TQ
  go_upto_region 22 with fail
  go_cut [7] from 130 to 140 (fun s7 wx => ∃ (g : Nat) (v : Ext U), s7 = .pointer (some ⟨g, 0, none⟩) ∧ wx = v.w ∧ v.w.cell? ⟨g, 0, none⟩ = some (.int .i32 xa) ∧ v.w.cell? ⟨g, 1, none⟩ = some (.int .i32 xb) ∧ g < v.w.heap.size)
  case first =>
   as_aux_lemma =>
    have K0 : bO U U := Below.refl _ _
    go_region_held3 (fun w' => (∀ b o, b < U.heap.size → w'.cell? ⟨b, o, none⟩ = U.cell? ⟨b, o, none⟩) ∧ bO U w') ((refine rN rfl ?_; (repeat (first | (with_reducible assumption) | (with_reducible refine bO.alloc ?_ _) | (with_reducible refine bO.ext ?_ _) | (with_reducible refine bO.set ?_ abO _) | (with_reducible refine bO.drew ?_)))))
     (first | (go_at_call 47; (first | (with_reducible refine (Calls.ay (NJ.out _)).mono ?_) | (with_reducible refine (Calls.ext (NJ.out _)).mono ?_)); rintro e _ ⟨rfl, y, rfl⟩; have KK : bO U y.w := (by (repeat (first | (with_reducible assumption) | (with_reducible refine bO.alloc ?_ _) | (with_reducible refine bO.ext ?_ _) | (with_reducible refine bO.set ?_ abO _) | (with_reducible refine bO.drew ?_)))); have KS : U.heap.size ≤ y.w.heap.size := KK.size; (have KZ := Below.size (Ext.h y)); (try simp only [World.size_alloc, World.size_drew] at KZ); (try have KM : U.heap.size < y.w.heap.size := abo)))
    all_goals (go_wp2_with fail; go_meet; refine BD ?_ ?_ ?_ ?_)
    all_goals first
     | (with_reducible show bO _ _; (repeat (first | (with_reducible assumption) | (with_reducible refine bO.alloc ?_ _) | (with_reducible refine bO.ext ?_ _) | (with_reducible refine bO.set ?_ abO _) | (with_reducible refine bO.drew ?_))); done)
     | (simp; done)
     | (simp; omega)
     | (go_simp; done)
     | (simp; refine World.cell?_setCell_same _ _ _ (u := .int .i32 0) ?_; go_simp; done)
     | (go_simp; refine World.cell?_setCell_same _ _ _ (u := .int .i32 0) ?_; go_simp; done)
  obtain ⟨tb, v, rfl, rfl, t0, t1, l7⟩ := hcut
  obtain ⟨W, hW⟩ : ∃ W, v.w = W := ⟨_, rfl⟩
  have eP := acD (fF.out.keep (hW ▸ v.h))
  rw [hW] at t0 t1 l7 ⊢
  clear u0 u1 u2 u3 u4 lI r0 r1 r2 r3 r4 r5 lR lO
  clear hW w1 w2
  obtain ⟨u0, u1, u2, u3, u4, lI⟩ := aQ (eP.out).ki
  have r0 : W.cell? ⟨w.heap.size + 1, bn * 2, none⟩ = some (.int .i32 bl) := by rw [← nC.out]; exact (eP.out).kr.lo abM
  have r1 : W.cell? ⟨w.heap.size + 1, bn * 2 + 1, none⟩ = some (.int .i32 bh) := by rw [← Mg.out]; exact (eP.out).kr.hi abM
  have r2 : W.cell? ⟨w.heap.size + 1, cn * 2, none⟩ = some (.int .i32 cl) := by rw [← NP.out]; exact (eP.out).kr.lo abL
  have r3 : W.cell? ⟨w.heap.size + 1, cn * 2 + 1, none⟩ = some (.int .i32 ch) := by rw [← E8.out]; exact (eP.out).kr.hi abL
  have r4 : W.cell? ⟨w.heap.size + 1, an * 2, none⟩ = some (.int .i32 al) := by rw [← Re.out]; exact (eP.out).kr.lo abE
  have r5 : W.cell? ⟨w.heap.size + 1, an * 2 + 1, none⟩ = some (.int .i32 ah) := by rw [← Mh.out]; exact (eP.out).kr.hi abE
  have lR := (eP.out).kr.lt
  have lO := ag (eP.out).ko
  by_cases he : xb < xa
  ·have d := decide_eq_true he
   have j5 := acD (Rb.out.trans (if_pos (Va.out.1.2 he)))
   clear he
   go_wp2_with (refine wpList_store_row rfl 61 (.tmp 4) (.tmp 146) rfl (w.heap.size + 1 + 1) (aa aq).toArray rfl rfl 61 _ (eP.out.ko) (ra aI ak) (hi6 ak ak) (aj aq) ?_)
   refine bodyPost_ret (results_cell_tmp (P := Tryz.prog) Tryz.results13 _ _ (w.heap.size + 1 + 1) (aa aq) _ rfl (au (setRow_heap _ _ _ _ _ _ (eP.out.ko))) Tryz.underlying61 rfl (rn aI ak)) rfl ⟨?_, below_setRow (eP.out.aF) abo _⟩
   rw [j5.out]
   rfl
  have d := decide_eq_false he
  have j5 := acD (Rb.out.trans (if_neg (fun h => he (Va.out.1.1 h))))
  rw [Va.out.2 he] at j5
  clear he
  obtain ⟨r9, hr9⟩ : ∃ r9, aW r (an : Int) (xa, xb) = r9 := ⟨_, rfl⟩
  have tq := acD (show r9.length = 16 by rw [← hr9]; exact (hr.aW _ tH.out).len)
  have HS := acD (show ∀ w, Calls Tryz.prog 42 #[.agg (aa r).toArray, .int .i64 (an : Int), .agg #[.int .i32 xa, .int .i32 xb]] w (fun e w' => e = .returned (.agg (aa r9).toArray) ∧ Below w.heap.size w w') from hr9 ▸ fun w => fD r hr.len an ha xa xb w)
  have IX := acD hr9
  clear hr9
  go_wp2_with (first | (refine wpList_load_mid rfl _ _ rfl _ _ rfl (aa r) _ eP.out.kr.range Tryz.underlying61 rfl (rn aI hr.len) ?_) | (go_at_call 42; refine (Calls.ext (HS.out _)).mono ?_; rintro e w' ⟨rfl, x1, rfl⟩) | (refine wpList_store_row rfl 61 (.tmp 4) _ rfl (w.heap.size + 1 + 1) (aa r9).toArray rfl rfl 61 _ (eP.out.keep (Ext.h _)).ko (ra aI tq.out) (hi6 tq.out ak) (aj r9) ?_))
  have SJ := acD (eP.out.keep x1.h)
 rotate_left 1
 iterate 12
  focus
   have SJ := acD (eP.out.keep x1.h)
   go_wp2_with (refine wpList_store_row rfl 61 (.tmp 4) _ rfl (w.heap.size + 1 + 1) (aa r9).toArray rfl rfl 61 _ SJ.out.ko (ra aI tq.out) (hi6 tq.out ak) (aj r9) ?_)
  rotate_left 1
 all_goals
  refine bodyPost_ret (results_cell_tmp (P := Tryz.prog) Tryz.results13 _ _ (w.heap.size + 1 + 1) (aa r9) _ rfl (au (setRow_heap _ _ _ _ _ _ SJ.out.ko)) Tryz.underlying61 rfl (rn aI tq.out)) rfl ⟨?_, below_setRow SJ.out.aF abo _⟩
  rw [j5.out, ← IX.out]
  rfl
theorem tN (op a b c im : Int) (h0 : 0 ≤ op) (r : RG) (hr : R16 r) (w : World) :
  Calls Tryz.prog 13 #[.agg #[.int .u8 op, .int .i64 a, .int .i64 b, .int .i64 c, .int .i64 im], .agg (aa r).toArray] w fun e w' => e = .returned (cM (bT ⟨op, a, b, c, im⟩ r)) ∧ Below w.heap.size w w' := by
 by_cases hvp : aU ⟨op, a, b, c, im⟩ = true ∧ aC r = true
 case neg =>
  refine (vz op a b c im h0 r hr w (by
   cases h1 : aU ⟨op, a, b, c, im⟩ <;> cases h2 : aC r <;> simp_all)).mono fun e w' ⟨q, hb⟩ => ⟨q.trans ?_, hb⟩
  unfold bT
  rw [if_neg hvp]
 obtain ⟨hv, hp⟩ := hvp
 obtain ⟨k, g1, g2, ⟨a1, a2⟩, ⟨b1, b2⟩, ⟨c1, c2⟩, i1, i2⟩ := (cU (i := ⟨op, a, b, c, im⟩) h0).1 hv
 obtain ⟨s1, s2, s3, s4, s5⟩ := vw k g2
 simp only at g1 a1 a2 b1 b2 c1 c2 i1 i2
 obtain ⟨an, rfl⟩ : ∃ n : Nat, a = (n : Int) := ⟨a.toNat, by omega⟩
 obtain ⟨bn, rfl⟩ : ∃ n : Nat, b = (n : Int) := ⟨b.toNat, by omega⟩
 obtain ⟨cn, rfl⟩ : ∃ n : Nat, c = (n : Int) := ⟨c.toNat, by omega⟩
 exact tM op an bn cn im abo abo abo abo h0 abo r hr w hv hp
end
section
open Go.RowKit
def o6 (b : Bool) (x : Int × Int) : Int × Int := if b = true then vO x (0, 0) else if x.1 = 0 then (if x.2 = 0 then (1, 0) else (1, x.2)) else if x.2 = 0 then (x.1, -1) else x
theorem JL (op : Int) (tk : Bool) (x : Int × Int) (hx : x.1 ≤ x.2) : (emp (jP op tk x) = true ↔ (o6 (tk == decide (op = 22)) x).2 < (o6 (tk == decide (op = 22)) x).1) ∧ (¬ (o6 (tk == decide (op = 22)) x).2 < (o6 (tk == decide (op = 22)) x).1 → jP op tk x = o6 (tk == decide (op = 22)) x) := by
 unfold jP o6
 cases (tk == decide (op = 22))
 ·obtain ⟨a, b⟩ := x
  have e : eT (a, b) = (if a = 0 then (if b = 0 then (1, 0) else (1, b)) else if b = 0 then (a, -1) else (a, b)) := by
   unfold eT
   by_cases h1 : a = 0 <;> by_cases h2 : b = 0 <;> simp [h1, h2]
  simp only [Bool.false_eq_true, if_false, e]
  exact ⟨by simp [emp], by simp⟩
 ·simp only [if_true]
  exact Gs x (0, 0) hx abr
theorem zk (op a b c im : Int) (h0 : 0 ≤ op) (r : RG) (hr : R16 r) (tk : Bool) (w : World) (hno : aU ⟨op, a, b, c, im⟩ = false ∨ (aU ⟨op, a, b, c, im⟩ = true ∧ aC r = false)) :
  Calls Tryz.prog 16 #[.agg #[.int .u8 op, .int .i64 a, .int .i64 b, .int .i64 c, .int .i64 im], .agg (aa r).toArray, .bool tk] w fun e w' => e = .returned (cM none) ∧ Below w.heap.size w w' := by
 obtain ⟨V, hV, k0, k1, k2, bV, sV⟩ := cm w #[.int .u8 op, .int .i64 a, .int .i64 b, .int .i64 c, .int .i64 im] (aa r).toArray acM.toArray 64 61 61
 obtain ⟨a0, a1, a2, a3, a4, lV⟩ := aQ k0
 have HC := acD (show BL w V #[.int .u8 op, .int .i64 a, .int .i64 b, .int .i64 c, .int .i64 im] r from ⟨bV, k0, k1, k2⟩)
 have gM := acD (Calls.ext (iu ⟨op, a, b, c, im⟩ h0 V))
 have j8 := acD (fun x : Ext V => Calls.ay (x := x) (lM r hr.len x.w))
 clear k0 k1 k2 bV
 go_enter Tryz.func16, Tryz.ntmps16
 go_upto_region 1 with fail
 clear hV
 rcases hno with hv | ⟨hv, hp⟩
 ·rw [hv] at gM
  go_wp2_with (first | (go_at_call 40; refine gM.out.mono ?_; rintro e w' ⟨rfl, y, rfl⟩) | (refine wpList_store_row rfl 61 (.tmp 6) (.tmp 17) rfl (w.heap.size + 1 + 1) (aa aq).toArray rfl rfl 61 _ ((HC.out.keep (Ext.h _)).ko) (ra aI ak) (hi6 ak ak) (aj aq) ?_))
  refine bodyPost_ret (results_cell_tmp (P := Tryz.prog) Tryz.results16 _ _ (w.heap.size + 1 + 1) (aa aq) _ rfl (au (setRow_heap _ _ _ _ _ _ ((HC.out.keep y.h).ko))) Tryz.underlying61 rfl (rn aI ak)) rfl ⟨rfl, below_setRow ((HC.out.keep y.h).aF) abo _⟩
 ·rw [hv] at gM
  rw [hp] at j8
  go_wp2_with (first | (go_at_call 40; refine gM.out.mono ?_; rintro e w' ⟨rfl, y, rfl⟩) | (go_at_call 41; refine (j8.out _).mono ?_; rintro e w' ⟨rfl, z, rfl⟩) | (refine bu abx _ _ rfl _ _ rfl (aa r) _ (HC.out.kr.keep (Ext.h _)).range Tryz.underlying61 rfl (rn aI hr.len) ?_) | (refine wpList_store_row rfl 61 (.tmp 6) (.tmp 17) rfl (w.heap.size + 1 + 1) (aa aq).toArray rfl rfl 61 _ ((HC.out.keep (Ext.h _)).ko) (ra aI ak) (hi6 ak ak) (aj aq) ?_))
  refine bodyPost_ret (results_cell_tmp (P := Tryz.prog) Tryz.results16 _ _ (w.heap.size + 1 + 1) (aa aq) _ rfl (au (setRow_heap _ _ _ _ _ _ ((HC.out.keep z.h).ko))) Tryz.underlying61 rfl (rn aI ak)) rfl ⟨rfl, below_setRow ((HC.out.keep z.h).aF) abo _⟩
theorem BL.set {w U : World} {ins : Array Value} {r : RG} (h : BL w U ins r) {b o : Nat} (hb : w.heap.size + 1 + 1 < b) (v : Value) : BL w (U.setCell ⟨b, o, none⟩ v) ins r :=
 ⟨Below.setCell h.aF (by show w.heap.size ≤ b; omega) _, (Below.heap_setCell _ _ _ _ (by show w.heap.size ≠ b; omega)).trans h.ki, (Below.heap_setCell _ _ _ _ (by show w.heap.size + 1 ≠ b; omega)).trans h.kr, (Below.heap_setCell _ _ _ _ (by show w.heap.size + 1 + 1 ≠ b; omega)).trans h.ko⟩
theorem w7 (op : Int) (an bn cn : Nat) (im : Int) (ha : an < 16) (h0 : 0 ≤ op) (r : RG) (hr : R16 r) (tk : Bool) (w : World) (hv : aU ⟨op, an, bn, cn, im⟩ = true) (hp : aC r = true) :
  Calls Tryz.prog 16 #[.agg #[.int .u8 op, .int .i64 (an : Int), .int .i64 (bn : Int), .int .i64 (cn : Int), .int .i64 im], .agg (aa r).toArray, .bool tk] w fun e w' => e = .returned (cM (dI ⟨op, an, bn, cn, im⟩ r tk)) ∧ Below w.heap.size w w' := by
 have Ot := acD (fun (h : op = 22 ∨ op = 23) => show dI ⟨op, an, bn, cn, im⟩ r tk = (if emp (jP op tk (rg r an)) = true then none else some (aW r an (jP op tk (rg r an)))) by unfold dI; rw [if_pos ⟨hv, hp⟩, if_pos h])
 have Xv := acD (fun (h : op = 24) => show dI ⟨op, an, bn, cn, im⟩ r tk = (if tk = true then some r else none) by unfold dI; rw [if_pos ⟨hv, hp⟩, if_neg abQ, if_pos h])
 have Oq := acD (fun (h : ¬ (op = 22 ∨ op = 23 ∨ op = 24)) => show dI ⟨op, an, bn, cn, im⟩ r tk = (if tk = true then none else some r) by unfold dI; rw [if_pos ⟨hv, hp⟩, if_neg abQ, if_neg abQ])
 obtain ⟨O, hO⟩ : ∃ O, dI ⟨op, an, bn, cn, im⟩ r tk = O := ⟨_, rfl⟩
 rw [hO] at Ot Xv Oq ⊢
 clear hO
 obtain ⟨V, hV, k0, k1, k2, bV, sV⟩ := cm w #[.int .u8 op, .int .i64 (an : Int), .int .i64 (bn : Int), .int .i64 (cn : Int), .int .i64 im] (aa r).toArray acM.toArray 64 61 61
 obtain ⟨a0, a1, a2, a3, a4, lV⟩ := aQ k0
 have HC := acD (show BL w V #[.int .u8 op, .int .i64 (an : Int), .int .i64 (bn : Int), .int .i64 (cn : Int), .int .i64 im] r from ⟨bV, k0, k1, k2⟩)
 have gM := acD (Calls.ext (iu ⟨op, an, bn, cn, im⟩ h0 V))
 have j8 := acD (fun x : Ext V => Calls.ay (x := x) (lM r hr.len x.w))
 clear k0 k1 k2 bV
 go_enter Tryz.func16, Tryz.ntmps16
 go_upto_region 1 with fail
 clear hV
 rw [hv] at gM
 rw [hp] at j8
 have HP := acD hp
 go_upto_region 3 with (first | (go_at_call 40; refine gM.out.mono ?_; rintro e w' ⟨rfl, y, rfl⟩) | (go_at_call 41; refine (j8.out _).mono ?_; rintro e w' ⟨rfl, z, rfl⟩) | (refine bu abx _ _ rfl _ _ rfl (aa r) _ (HC.out.kr.keep (Ext.h _)).range Tryz.underlying61 rfl (rn aI hr.len) ?_))
 obtain ⟨U, hU⟩ : ∃ U, z.w = U := ⟨_, rfl⟩
 have fF := acD (HC.out.keep (hU ▸ z.h))
 rw [hU]
 clear hU a0 a1 a2 a3 a4 lV gM j8 HC hp hv
 obtain ⟨al, hal⟩ : ∃ al, (rg r (an : Int)).1 = al := ⟨_, rfl⟩
 obtain ⟨ah, zX⟩ : ∃ ah, (rg r (an : Int)).2 = ah := ⟨_, rfl⟩
 have je := acD (show rg r (an : Int) = (al, ah) from Prod.ext hal zX)
 have ia : (an : Int) < 16 := by omega
 have Hi : aP al ∧ aP ah := by have h := hr.at_ (an : Int); rw [je.out] at h; exact h
 have hle : al ≤ ah := by have h := uy HP.out hr.len ha; rw [je.out] at h; exact h
 obtain ⟨u0, u1, u2, u3, u4, lI⟩ := aQ fF.out.ki
 have r4 : U.cell? ⟨w.heap.size + 1, an * 2, none⟩ = some (.int .i32 al) := by rw [← hal]; exact fF.out.kr.lo abE
 have r5 : U.cell? ⟨w.heap.size + 1, an * 2 + 1, none⟩ = some (.int .i32 ah) := by rw [← zX]; exact fF.out.kr.hi abE
 have lR := fF.out.kr.lt
 have lO := ag fF.out.ko
 clear hal zX
 have hC : op = 24 ∨ ¬ (op = 22 ∨ op = 23 ∨ op = 24) ∨ op = 22 ∨ op = 23 := by omega
 rcases hC with h | h | h
 ·have HT := acD (Xv.out h)
  subst h
  clear Hi
  cases tk
  ·go_wp2_with (refine wpList_store_row rfl 61 (.tmp 6) (.tmp 23) rfl (w.heap.size + 1 + 1) (aa aq).toArray rfl rfl 61 _ (fF.out.ko) (ra aI ak) (hi6 ak ak) (aj aq) ?_)
   refine bodyPost_ret (results_cell_tmp (P := Tryz.prog) Tryz.results16 _ _ (w.heap.size + 1 + 1) (aa aq) _ rfl (au (setRow_heap _ _ _ _ _ _ (fF.out.ko))) Tryz.underlying61 rfl (rn aI ak)) rfl ⟨?_, below_setRow (fF.out.aF) abo _⟩
   rw [HT.out]
   rfl
  ·go_wp2_with (first | (refine wpList_load_mid rfl _ _ rfl _ _ rfl (aa r) _ fF.out.kr.range Tryz.underlying61 rfl (rn aI hr.len) ?_) | (refine wpList_store_row rfl 61 (.tmp 6) (.tmp 24) rfl (w.heap.size + 1 + 1) (aa r).toArray rfl rfl 61 _ fF.out.ko (ra aI hr.len) (hi6 hr.len ak) (aj r) ?_))
   refine bodyPost_ret (results_cell_tmp (P := Tryz.prog) Tryz.results16 _ _ (w.heap.size + 1 + 1) (aa r) _ rfl (au (setRow_heap _ _ _ _ _ _ fF.out.ko)) Tryz.underlying61 rfl (rn aI hr.len)) rfl ⟨?_, below_setRow fF.out.aF abo _⟩
   rw [HT.out]
   rfl
 ·have HT := acD (Oq.out h)
  have e2 : (op != 22) = true := by simp; omega
  have e3 : (op != 23) = true := by simp; omega
  have e4 : (op == 24) = false := by simp; omega
  clear Hi h
  cases tk
  ·go_wp2_with (first | (refine wpList_load_mid rfl _ _ rfl _ _ rfl (aa r) _ fF.out.kr.range Tryz.underlying61 rfl (rn aI hr.len) ?_) | (refine wpList_store_row rfl 61 (.tmp 6) (.tmp 35) rfl (w.heap.size + 1 + 1) (aa r).toArray rfl rfl 61 _ fF.out.ko (ra aI hr.len) (hi6 hr.len ak) (aj r) ?_))
   refine bodyPost_ret (results_cell_tmp (P := Tryz.prog) Tryz.results16 _ _ (w.heap.size + 1 + 1) (aa r) _ rfl (au (setRow_heap _ _ _ _ _ _ fF.out.ko)) Tryz.underlying61 rfl (rn aI hr.len)) rfl ⟨?_, below_setRow fF.out.aF abo _⟩
   rw [HT.out]
   rfl
  ·go_wp2_with (refine wpList_store_row rfl 61 (.tmp 6) (.tmp 34) rfl (w.heap.size + 1 + 1) (aa aq).toArray rfl rfl 61 _ (fF.out.ko) (ra aI ak) (hi6 ak ak) (aj aq) ?_)
   refine bodyPost_ret (results_cell_tmp (P := Tryz.prog) Tryz.results16 _ _ (w.heap.size + 1 + 1) (aa aq) _ rfl (au (setRow_heap _ _ _ _ _ _ (fF.out.ko))) Tryz.underlying61 rfl (rn aI ak)) rfl ⟨?_, below_setRow (fF.out.aF) abo _⟩
   rw [HT.out]
   rfl
 have IJ := Ot.out h
 have hout := JL op tk (al, ah) hle
 rw [je.out] at IJ
 have hW : ((op = 22 ∧ tk = true) ∨ (op = 23 ∧ tk = false)) ∨ ((op = 22 ∧ tk = false) ∨ (op = 23 ∧ tk = true)) := by rcases h with h | h <;> cases tk <;> simp [h]
 have hZ : (al = 0 ∧ ah = 0) ∨ (al = 0 ∧ ¬ ah = 0) ∨ (¬ al = 0 ∧ ah = 0) ∨ (¬ al = 0 ∧ ¬ ah = 0) := by omega
 obtain ⟨bb, PI⟩ : ∃ b, (tk == decide (op = 22)) = b := ⟨_, rfl⟩
 rw [PI] at hout
 clear h
 rcases hW with hw | hw
 focus
  obtain rfl : bb = true := by rw [← PI]; rcases hw with ⟨rfl, rfl⟩ | ⟨rfl, rfl⟩ <;> decide
  clear PI
  rcases hw with ⟨rfl, rfl⟩ | ⟨rfl, rfl⟩
  all_goals
   obtain ⟨xa, xb, hx⟩ : ∃ xa xb, vO (al, ah) (0, 0) = (xa, xb) := ⟨_, _, rfl⟩
   rw [show o6 true (al, ah) = (xa, xb) from hx] at hout
   have hme := fun w => uq al ah 0 0 w
   rw [hx] at hme
   have NJ := acD hme
   have tH := acD (show aP xa ∧ aP xb by
    have h1 : xa = (vO (al, ah) (0, 0)).1 := by rw [hx]
    have h2 : xb = (vO (al, ah) (0, 0)).2 := by rw [hx]
    rw [h1, h2]
    unfold vO aP at *
    simp only
    constructor <;> split <;> omega)
   have tj := acD hout
   have Je := acD IJ
   clear hme hx hout IJ Hi hle hZ
   go_upto_region 12 with fail
   obtain ⟨t8, ht8⟩ : ∃ t, U.heap.size = t := ⟨_, rfl⟩
   obtain ⟨W, hW⟩ : ∃ W, U.alloc (.cells #[.int .i32 al, .int .i32 ah] 58) = W := ⟨_, rfl⟩
   have bW : Below U.heap.size U W := hW ▸ (Below.refl _ _).alloc (Nat.le_refl _) _
   have kW : W.heap[t8]? = some (.cells #[.int .i32 al, .int .i32 ah] 58 (0, 0)) := by rw [← ht8]; exact hW ▸ heap_alloc_new _ _
   have NB := acD (show w.heap.size + 1 + 1 < t8 by omega)
   have eP := acD (fF.out.keep bW)
   rw [hW, ht8]
   clear u0 u1 u2 u3 u4 lI r4 r5 lR lO hW ht8 bW
   obtain ⟨u0, u1, u2, u3, u4, lI⟩ := aQ eP.out.ki
   obtain ⟨g0, g1, f0, f1, l6⟩ := jR kW
   go_upto_region 13 with fail
   refine aG 3 abp abp ?_
   simp only [acK, List.take_zero, acL, List.drop_zero]
   repeat (go_big_quiet_step (first | (go_at_call 45; exact Calls.ay (nM 0 _ abr abr)) | (go_at_call 47; exact Calls.ay (NJ.out _))))
   refine wpQuiet_nil ?_
   rintro _ ⟨x1, rfl⟩
   go_upto_region 20 with fail
   obtain ⟨Y, hY⟩ : ∃ Y, (x1.w.setCell ⟨t8, 0, none⟩ (.int .i32 xa)).setCell ⟨t8, 1, none⟩ (.int .i32 xb) = Y := ⟨_, rfl⟩
   have kY : Y.heap[t8]? = some (.cells #[.int .i32 xa, .int .i32 xb] 58 (0, 0)) := by
    rw [← hY, heap_setCell_same _ _ _ _ _ _ (heap_setCell_same _ _ _ _ _ _ ((x1.h.block _ l6).trans kW))]
    simp
   have ER := acD (show BL w Y _ r by
    rw [← hY]
    exact ((eP.out.keep x1.h).set NB.out _).set NB.out _)
   rw [hY]
   clear hY
 rotate_left 2
 focus
  obtain rfl : bb = false := by rw [← PI]; rcases hw with ⟨rfl, rfl⟩ | ⟨rfl, rfl⟩ <;> decide
  clear PI
  rcases hZ with ⟨rfl, rfl⟩ | ⟨rfl, hz⟩ | ⟨hz, rfl⟩ | ⟨hz, hz2⟩
  focus
   have Je := acD (IJ.trans (if_pos (hout.1.2 abr)))
   clear IJ hout Hi hle
   rcases hw with ⟨rfl, rfl⟩ | ⟨rfl, rfl⟩
   all_goals
    go_wp2_with (refine wpList_store_row rfl 61 (.tmp 6) (.tmp 55) rfl (w.heap.size + 1 + 1) (aa aq).toArray rfl rfl 61 _ ((fF.out.keep ((Below.refl _ _).alloc (Nat.le_refl _) _)).ko) (ra aI ak) (hi6 ak ak) (aj aq) ?_)
    refine bodyPost_ret (results_cell_tmp (P := Tryz.prog) Tryz.results16 _ _ (w.heap.size + 1 + 1) (aa aq) _ rfl (au (setRow_heap _ _ _ _ _ _ ((fF.out.keep ((Below.refl _ _).alloc (Nat.le_refl _) _)).ko))) Tryz.underlying61 rfl (rn aI ak)) rfl ⟨?_, below_setRow ((fF.out.keep ((Below.refl _ _).alloc (Nat.le_refl _) _)).aF) abo _⟩
    rw [Je.out]
    rfl
  focus
   obtain ⟨xa, fY⟩ : ∃ xa : Int, 1 = xa := ⟨_, rfl⟩
   obtain ⟨xb, hxb⟩ : ∃ xb : Int, ah = xb := ⟨_, rfl⟩
   have LW := acD fY
   have LV := acD hxb
   have tH := acD (show aP xa ∧ aP xb by unfold aP at *; omega)
   rcases hw with ⟨rfl, rfl⟩ | ⟨rfl, rfl⟩
   all_goals
    have tj := acD hout
    rw [show o6 false (_, _) = (xa, xb) by rw [← LW.out, ← LV.out]; simp [o6, hz]] at tj
    have Je := acD IJ
    have e1 : (ah == 0) = false := by simpa using hz
    clear hz
    clear fY hxb hout IJ Hi hle
    go_upto_region 12 with fail
    obtain ⟨t8, ht8⟩ : ∃ t, U.heap.size = t := ⟨_, rfl⟩
    obtain ⟨W, hW⟩ : ∃ W, U.alloc (.cells #[.int .i32 0, .int .i32 ah] 58) = W := ⟨_, rfl⟩
    have bW : Below U.heap.size U W := hW ▸ (Below.refl _ _).alloc (Nat.le_refl _) _
    have kW : W.heap[t8]? = some (.cells #[.int .i32 0, .int .i32 ah] 58 (0, 0)) := by rw [← ht8]; exact hW ▸ heap_alloc_new _ _
    have NB := acD (show w.heap.size + 1 + 1 < t8 by omega)
    have eP := acD (fF.out.keep bW)
    rw [hW, ht8]
    clear u0 u1 u2 u3 u4 lI r4 r5 lR lO hW ht8 bW
    obtain ⟨u0, u1, u2, u3, u4, lI⟩ := aQ eP.out.ki
    obtain ⟨g0, g1, f0, f1, l6⟩ := jR kW
    go_upto_region 20 with fail
    obtain ⟨Y, hY⟩ : ∃ Y, W.setCell ⟨t8, 0, none⟩ (.int .i32 1) = Y := ⟨_, rfl⟩
    have kY : Y.heap[t8]? = some (.cells #[.int .i32 xa, .int .i32 xb] 58 (0, 0)) := by
     rw [← hY, ← LW.out, ← LV.out]
     rw [heap_setCell_same _ _ _ _ _ _ kW]; simp
    have ER := acD (show BL w Y _ r by
     rw [← hY]
     exact eP.out.set NB.out _)
    rw [hY]
    clear hY
  rotate_left 2
  focus
   obtain ⟨xa, fY⟩ : ∃ xa : Int, al = xa := ⟨_, rfl⟩
   obtain ⟨xb, hxb⟩ : ∃ xb : Int, -1 = xb := ⟨_, rfl⟩
   have LW := acD fY
   have LV := acD hxb
   have tH := acD (show aP xa ∧ aP xb by unfold aP at *; omega)
   rcases hw with ⟨rfl, rfl⟩ | ⟨rfl, rfl⟩
   all_goals
    have tj := acD hout
    rw [show o6 false (_, _) = (xa, xb) by rw [← LW.out, ← LV.out]; simp [o6, hz]] at tj
    have Je := acD IJ
    have e1 : (al == 0) = false := by simpa using hz
    clear hz
    clear fY hxb hout IJ Hi hle
    go_upto_region 12 with fail
    obtain ⟨t8, ht8⟩ : ∃ t, U.heap.size = t := ⟨_, rfl⟩
    obtain ⟨W, hW⟩ : ∃ W, U.alloc (.cells #[.int .i32 al, .int .i32 0] 58) = W := ⟨_, rfl⟩
    have bW : Below U.heap.size U W := hW ▸ (Below.refl _ _).alloc (Nat.le_refl _) _
    have kW : W.heap[t8]? = some (.cells #[.int .i32 al, .int .i32 0] 58 (0, 0)) := by rw [← ht8]; exact hW ▸ heap_alloc_new _ _
    have NB := acD (show w.heap.size + 1 + 1 < t8 by omega)
    have eP := acD (fF.out.keep bW)
    rw [hW, ht8]
    clear u0 u1 u2 u3 u4 lI r4 r5 lR lO hW ht8 bW
    obtain ⟨u0, u1, u2, u3, u4, lI⟩ := aQ eP.out.ki
    obtain ⟨g0, g1, f0, f1, l6⟩ := jR kW
    go_upto_region 20 with fail
    obtain ⟨Y, hY⟩ : ∃ Y, W.setCell ⟨t8, 1, none⟩ (.int .i32 (-1)) = Y := ⟨_, rfl⟩
    have kY : Y.heap[t8]? = some (.cells #[.int .i32 xa, .int .i32 xb] 58 (0, 0)) := by
     rw [← hY, ← LW.out, ← LV.out]
     rw [heap_setCell_same _ _ _ _ _ _ kW]; simp
    have ER := acD (show BL w Y _ r by
     rw [← hY]
     exact eP.out.set NB.out _)
    rw [hY]
    clear hY
  rotate_left 2
  focus
   obtain ⟨xa, fY⟩ : ∃ xa : Int, al = xa := ⟨_, rfl⟩
   obtain ⟨xb, hxb⟩ : ∃ xb : Int, ah = xb := ⟨_, rfl⟩
   have LW := acD fY
   have LV := acD hxb
   have tH := acD (show aP xa ∧ aP xb by unfold aP at *; omega)
   rcases hw with ⟨rfl, rfl⟩ | ⟨rfl, rfl⟩
   all_goals
    have tj := acD hout
    rw [show o6 false (_, _) = (xa, xb) by rw [← LW.out, ← LV.out]; simp [o6, hz, hz2]] at tj
    have Je := acD IJ
    have e1 : (al == 0) = false := by simpa using hz
    have e2 : (ah == 0) = false := by simpa using hz2
    clear hz hz2
    clear fY hxb hout IJ Hi hle
    go_upto_region 12 with fail
    obtain ⟨t8, ht8⟩ : ∃ t, U.heap.size = t := ⟨_, rfl⟩
    obtain ⟨W, hW⟩ : ∃ W, U.alloc (.cells #[.int .i32 al, .int .i32 ah] 58) = W := ⟨_, rfl⟩
    have bW : Below U.heap.size U W := hW ▸ (Below.refl _ _).alloc (Nat.le_refl _) _
    have kW : W.heap[t8]? = some (.cells #[.int .i32 al, .int .i32 ah] 58 (0, 0)) := by rw [← ht8]; exact hW ▸ heap_alloc_new _ _
    have NB := acD (show w.heap.size + 1 + 1 < t8 by omega)
    have eP := acD (fF.out.keep bW)
    rw [hW, ht8]
    clear u0 u1 u2 u3 u4 lI r4 r5 lR lO hW ht8 bW
    obtain ⟨u0, u1, u2, u3, u4, lI⟩ := aQ eP.out.ki
    obtain ⟨g0, g1, f0, f1, l6⟩ := jR kW
    go_upto_region 20 with fail
    obtain ⟨Y, hY⟩ : ∃ Y, W = Y := ⟨_, rfl⟩
    have kY : Y.heap[t8]? = some (.cells #[.int .i32 xa, .int .i32 xb] 58 (0, 0)) := by
     rw [← hY, ← LW.out, ← LV.out]
     exact kW
    have ER := acD (show BL w Y _ r by
     rw [← hY]
     exact eP.out)
    rw [hY]
    clear hY
  rotate_left 2
 all_goals
  obtain ⟨s0, s1, s2, s3, s4, sI⟩ := aQ ER.out.ki
  obtain ⟨g0, g1, -, -, l8⟩ := jR kY
  have lRY := ER.out.kr.lt
  have lOY := ag ER.out.ko
  clear kY
  by_cases he : xb < xa
  ·have d := decide_eq_true he
   have QF := acD (Je.out.trans (if_pos (tj.out.1.2 he)))
   clear he
   go_wp2_with (refine wpList_store_row rfl 61 (.tmp 6) (.tmp 66) rfl (w.heap.size + 1 + 1) (aa aq).toArray rfl rfl 61 _ (ER.out.ko) (ra aI ak) (hi6 ak ak) (aj aq) ?_)
   refine bodyPost_ret (results_cell_tmp (P := Tryz.prog) Tryz.results16 _ _ (w.heap.size + 1 + 1) (aa aq) _ rfl (au (setRow_heap _ _ _ _ _ _ (ER.out.ko))) Tryz.underlying61 rfl (rn aI ak)) rfl ⟨?_, below_setRow (ER.out.aF) abo _⟩
   rw [QF.out]
   rfl
  ·have d := decide_eq_false he
   have QF := Je.out.trans (if_neg (fun h => he (tj.out.1.1 h)))
   rw [tj.out.2 he] at QF
   clear he
   obtain ⟨r9, hr9⟩ : ∃ r9, aW r (an : Int) (xa, xb) = r9 := ⟨_, rfl⟩
   have tq := acD (show r9.length = 16 by rw [← hr9]; exact (hr.aW _ tH.out).len)
   have HS := acD (show ∀ w, Calls Tryz.prog 42 #[.agg (aa r).toArray, .int .i64 (an : Int), .agg #[.int .i32 xa, .int .i32 xb]] w (fun e w' => e = .returned (.agg (aa r9).toArray) ∧ Below w.heap.size w w') from hr9 ▸ fun w => fD r hr.len an ha xa xb w)
   have IX := acD (QF.trans (congrArg some hr9))
   clear hr9 QF
   go_wp2_with (first | (refine wpList_load_mid rfl _ _ rfl _ _ rfl (aa r) _ ER.out.kr.range Tryz.underlying61 rfl (rn aI hr.len) ?_) | (go_at_call 42; refine (Calls.ext (HS.out _)).mono ?_; rintro e w' ⟨rfl, x2, rfl⟩) | (refine wpList_store_row rfl 61 (.tmp 6) _ rfl (w.heap.size + 1 + 1) (aa r9).toArray rfl rfl 61 _ (ER.out.keep (Ext.h _)).ko (ra aI tq.out) (hi6 tq.out ak) (aj r9) ?_))
   refine bodyPost_ret (results_cell_tmp (P := Tryz.prog) Tryz.results16 _ _ (w.heap.size + 1 + 1) (aa r9) _ rfl (au (setRow_heap _ _ _ _ _ _ (ER.out.keep x2.h).ko)) Tryz.underlying61 rfl (rn aI tq.out)) rfl ⟨?_, below_setRow (ER.out.keep x2.h).aF abo _⟩
   rw [IX.out]
   rfl
theorem w9 (op a b c im : Int) (h0 : 0 ≤ op) (r : RG) (hr : R16 r) (tk : Bool) (w : World) :
  Calls Tryz.prog 16 #[.agg #[.int .u8 op, .int .i64 a, .int .i64 b, .int .i64 c, .int .i64 im], .agg (aa r).toArray, .bool tk] w fun e w' => e = .returned (cM (dI ⟨op, a, b, c, im⟩ r tk)) ∧ Below w.heap.size w w' := by
 by_cases hvp : aU ⟨op, a, b, c, im⟩ = true ∧ aC r = true
 case neg =>
  refine (zk op a b c im h0 r hr tk w (by
   cases h1 : aU ⟨op, a, b, c, im⟩ <;> cases h2 : aC r <;> simp_all)).mono fun e w' ⟨q, hb⟩ => ⟨q.trans ?_, hb⟩
  unfold dI
  rw [if_neg hvp]
 obtain ⟨hv, hp⟩ := hvp
 obtain ⟨k, g1, g2, ⟨a1, a2⟩, ⟨b1, b2⟩, ⟨c1, c2⟩, i1, i2⟩ := (cU (i := ⟨op, a, b, c, im⟩) h0).1 hv
 obtain ⟨s1, s2, s3, s4, s5⟩ := vw k g2
 simp only at g1 a1 a2 b1 b2 c1 c2 i1 i2
 obtain ⟨an, rfl⟩ : ∃ n : Nat, a = (n : Int) := ⟨a.toNat, by omega⟩
 obtain ⟨bn, rfl⟩ : ∃ n : Nat, b = (n : Int) := ⟨b.toNat, by omega⟩
 obtain ⟨cn, rfl⟩ : ∃ n : Nat, c = (n : Int) := ⟨c.toNat, by omega⟩
 exact w7 op an bn cn im abo h0 r hr tk w hv hp
end
section
open Go.RowKit
theorem cL {w w' : World} {b o : Nat} {cs : List Value} (h : w.rangeAt b o cs) (hb : Below w.heap.size w w') (hl : b < w.heap.size) : w'.rangeAt b o cs := fun j v hv => (hb.cell (p := ⟨b, o + j, none⟩) hl).trans (h j v hv)
theorem Ms (w : World) (cA cB : Array Value) (tA tB : TypeId) : ∃ V, (w.alloc (.cells cA tA)).alloc (.cells cB tB) = V ∧ V.heap[w.heap.size]? = some (.cells cA tA (0, 0)) ∧ V.heap[w.heap.size + 1]? = some (.cells cB tB (0, 0)) ∧ Below w.heap.size w V ∧ w.heap.size + 1 < V.heap.size := by
  refine ⟨_, rfl, ?_, bB _ _ aby, ((Below.refl _ _).alloc (Nat.le_refl _) _).alloc aby _, by simp⟩
  rw [heap_alloc_old _ _ aby]; exact heap_alloc_new _ _
theorem fP (o : Option RG) : cM o = .tuple #[.agg (aa (o.getD aq)).toArray, .bool o.isSome] := by cases o <;> rfl
def dX (c : Nat → aZ) (f k : Nat) : List aZ := (List.range k).map fun j => c (f + j)
theorem Cz (c : Nat → aZ) (f k : Nat) : dX c f (k + 1) = dX c f k ++ [c (f + k)] := by unfold dX; rw [List.range_succ, List.map_append]; rfl
theorem A6 (c : Nat → aZ) (f k : Nat) (r : RG) : cQ (dX c f (k + 1)) r = match cQ (dX c f k) r with | none => none | some r' => bT (c (f + k)) r' := by
  rw [Cz, iX]
  cases cQ (dX c f k) r with
  | none => rfl
  | some a =>
    simp only [cQ]
    cases bT (c (f + k)) a <;> rfl
theorem FN (c : Nat → aZ) (f : Nat) (r : RG) {k m : Nat} (h : cQ (dX c f k) r = none) (hk : k ≤ m) : cQ (dX c f m) r = none := by
  obtain ⟨d, rfl⟩ : ∃ d, m = k + d := ⟨m - k, by omega⟩
  clear hk
  induction d with
  | zero => exact h
  | succ d ih => rw [show k + (d + 1) = (k + d) + 1 by omega, A6, ih]
theorem FQ (cv : Value) (n : Nat) (c : Nat → aZ) (f t : Nat) (hft : f ≤ t) (htn : t ≤ n) (hn : n ≤ 1000000) (hop : ∀ i, i < n → 0 ≤ (c i).op) (r : RG) (hr : R16 r) (w : World) (HI : jZ w cv n c) :
    Calls Tryz.prog 68 #[cv, .int .i64 (f : Int), .int .i64 (t : Int), .agg (aa r).toArray] w fun e w' => e = .returned (cM (cQ (dX c f (t - f)) r)) ∧ Below w.heap.size w w' := by
  obtain ⟨A, cap, hcv, hc1, hc2⟩ := HI.slice
  subst hcv
  obtain ⟨V, hV, k0, k1, bV, sV⟩ := Ms w (aa r).toArray acM.toArray 61 61
  have K0 := acD (show aH V w.heap.size 61 r from k0)
  have K1 := acD (show V.heap[(w.heap.size + 1)]? = some (.cells (aa aq).toArray 61 (0, 0)) from k1)
  have BV := acD bV
  have R := acD hr
  have tI := acD HI
  have nH := acD hop
  clear k0 k1 bV hr HI hop sV
  go_enter Tryz.func68, Tryz.ntmps68
  go_wp2_with fail
  clear hV
  go_loopw [10, 11, 12] (fun a10 _ _ wr => ∃ k : Nat, ∃ rk : RG, f + k ≤ t ∧ a10 = .int .i64 ((f : Int) + (k : Int)) ∧ cQ (dX c f k) r = some rk ∧ R16 rk ∧ aH wr w.heap.size 61 rk ∧ wr.heap[(w.heap.size + 1)]? = some (.cells (aa aq).toArray 61 (0, 0)) ∧ Below w.heap.size w wr) (fun a10 _ _ _ => ((t : Int) - intOf a10).toNat)
  case atStart => exact ⟨0, r, by omega, by simp, rfl, R.out, K0.out, K1.out, BV.out⟩
  case round =>
    obtain ⟨k, rk, hk, rfl, hrun, VS, kr, ko, hb⟩ := hrel
    have ud := acD hrun
    have RK := acD VS
    have KR := acD kr
    have KO := acD ko
    have HB := acD hb
    have hsz := hb.size
    have lX := kr.lt
    clear hrun VS ko hb K0 K1
    by_cases hlt : f + k < t
    · have dl : decide ((f : Int) + (k : Int) < (t : Int)) = true := decide_eq_true abo
      have SL := tI.out.at_ (wr := wr) HB.out (i := f + k) abo
      obtain ⟨b, off, rfl, fA, c0, c1, c2, c3, c4⟩ := SL
      obtain ⟨p, hp⟩ : ∃ p : Nat, f + k = p := ⟨_, rfl⟩
      have YS : (f : Int) + (k : Int) = (p : Int) := by omega
      rw [hp] at c0 c1 c2 c3 c4
      rw [YS] at dl ⊢
      have HP := acD hp
      have hpt : p < t := by omega
      obtain ⟨⟨op, ia, ib, ic, im⟩, hci⟩ : ∃ i, c p = i := ⟨_, rfl⟩
      rw [hci] at c0 c1 c2 c3 c4
      simp only at c0 c1 c2 c3 c4
      have h0 : 0 ≤ op := by have := nH.out p abo; rw [hci] at this; exact this
      obtain ⟨oA, RD⟩ : ∃ o, bT ⟨op, ia, ib, ic, im⟩ rk = o := ⟨_, rfl⟩
      obtain ⟨rA, Rx⟩ : ∃ q, oA.getD aq = q := ⟨_, rfl⟩
      obtain ⟨cA, T3⟩ : ∃ q, oA.isSome = q := ⟨_, rfl⟩
      have RA := acD (show R16 rA by
        rw [← Rx]
        cases h3 : oA with
        | none => exact R16.zero
        | some a => exact gT (i := ⟨op, ia, ib, ic, im⟩) h0 RK.out (RD.trans h3))
      have HT := acD (show ∀ W, Calls Tryz.prog 13 #[.agg #[.int .u8 op, .int .i64 ia, .int .i64 ib, .int .i64 ic, .int .i64 im], .agg (aa rk).toArray] W fun e w' => e = .returned (.tuple #[.agg (aa rA).toArray, .bool cA]) ∧ Below W.heap.size W w' from fun W => by
        have := tN op ia ib ic im h0 rk RK.out W
        rw [fP, RD, Rx, T3] at this
        exact this)
      have yI := acD (show cQ (dX c f (k + 1)) r = oA by rw [A6, ud.out]; simp only; rw [HP.out, hci, RD])
      have Xt := acD kr.range
      have zT : b < wr.heap.size := by omega
      have NS := acD (show ∀ W, Below wr.heap.size wr W → W.cell? ⟨b, off + p * 5, none⟩ = some (.int .u8 op) ∧ W.cell? ⟨b, off + p * 5 + 1, none⟩ = some (.int .i64 ia) ∧ W.cell? ⟨b, off + p * 5 + 2, none⟩ = some (.int .i64 ib) ∧ W.cell? ⟨b, off + p * 5 + 3, none⟩ = some (.int .i64 ic) ∧ W.cell? ⟨b, off + p * 5 + 4, none⟩ = some (.int .i64 im) from fun W hW => ⟨(hW.cell (p := ⟨b, _, none⟩) zT).trans c0, (hW.cell (p := ⟨b, _, none⟩) zT).trans c1, (hW.cell (p := ⟨b, _, none⟩) zT).trans c2, (hW.cell (p := ⟨b, _, none⟩) zT).trans c3, (hW.cell (p := ⟨b, _, none⟩) zT).trans c4⟩)
      have Sy := acD Rx
      have SL := acD T3
      have gpn : (p : Int) < (n : Int) := by omega
      clear RD Rx T3 hci hp kr c0 c1 c2 c3 c4
      go_wp2_with fail
      go_cut [11, 12] from 19 to 27 (fun a11 a12 wx => ∃ g, a11 = .pointer (some ⟨g, 0, none⟩) ∧ a12 = .bool cA ∧ aH wx g 61 rA ∧ Below wr.heap.size wr wx)
      case first =>
        refine wp_region_held_drew (S := fun w' => Below wr.heap.size wr w' ∧ w'.rangeAt w.heap.size 0 (aa rk)) abp ?_ (fun hHeld => ?_)
        · have hk : Below wr.heap.size wr wr.drew := Below.drew (Below.refl _ _)
          exact ⟨hk, cL Xt.out hk lX⟩
        have hk : Below wr.heap.size wr wr.drew := Below.drew (Below.refl _ _)
        obtain ⟨D0, qd⟩ : ∃ D, wr.drew = D := ⟨_, rfl⟩
        rw [qd] at hk
        rw [qd] at hHeld ⊢
        clear qd
        refine wpAnyH_take (i := 0) (oi := _) (v := ?_) rfl abp abp abp (fun _ _ _ h => h) (Or.inl ⟨by rfl, ?_⟩) hHeld ?_
        rotate_left
        · intro w' hSw
          clear hSw
          go_simp
          (try with_reducible rfl)
        (try simp only [acE, acF, acG, Act.put, acH, acI, acJ])
        refine wpAnyH_take (i := 1) (oi := _) (v := ?_) rfl abp abp abp (fun _ _ _ h => h) (Or.inl ⟨by rfl, ?_⟩) hHeld ?_
        rotate_left
        · intro w' hSw
          clear hSw
          go_simp
          (try with_reducible rfl)
        (try simp only [acE, acF, acG, Act.put, acH, acI, acJ])
        refine wpAnyH_take (i := 2) (oi := _) (v := ?_) rfl abp abp abp (fun _ _ _ h => h) (Or.inl ⟨by rfl, ?_⟩) hHeld ?_
        rotate_left
        · intro w' hSw
          clear hSw
          go_simp
          (try with_reducible rfl)
        (try simp only [acE, acF, acG, Act.put, acH, acI, acJ])
        refine wpAnyH_take (i := 3) (oi := _) (v := ?_) rfl abp abp abp (fun _ _ _ h => h) (Or.inl ⟨by rfl, ?_⟩) hHeld ?_
        rotate_left
        · intro w' hSw
          obtain ⟨d0, d1, d2, d3, d4⟩ := NS.out w' hSw.1
          clear hSw
          go_simp
          (try with_reducible rfl)
        (try simp only [acE, acF, acG, Act.put, acH, acI, acJ])
        refine wpAnyH_take (i := 4) (oi := _) (v := _) rfl abp abp abp (fun _ _ _ h => h) (yieldsIf_load_mid acr _ _ rfl _ _ rfl (aa rk) _ (fun w hSw => hSw.2) Tryz.underlying61 rfl (rn aI RK.out.len)) hHeld ?_
        (try simp only [acE, acF, acG, Act.put, acH, acI, acJ])
        iterate 3
          all_goals
            repeat (first | (refine wpAnyH_take (i := 6) (oi := _) (v := ?_) rfl abp abu abu (fun _ _ _ h => h) (Or.inl ⟨by rfl, ?_⟩) hHeld ?_; rotate_left; focus (intro w' hSw; clear hSw; go_simp; (try with_reducible rfl))) | (refine wpAnyH_take (i := 7) (oi := _) (v := ?_) rfl abp abu abu (fun _ _ _ h => h) (Or.inl ⟨by rfl, ?_⟩) hHeld ?_; rotate_left; focus (intro w' hSw; clear hSw; go_simp; (try with_reducible rfl))) | (refine wpAnyH_take (i := 8) (oi := _) (v := ?_) rfl abp abu abu (fun _ _ _ h => h) (Or.inl ⟨by rfl, ?_⟩) hHeld ?_; rotate_left; focus (intro w' hSw; clear hSw; go_simp; (try with_reducible rfl))) | (refine wpAnyH_take (i := 11) (oi := _) (v := ?_) rfl abp abu abu (fun _ _ _ h => h) (Or.inl ⟨by rfl, ?_⟩) hHeld ?_; rotate_left; focus (intro w' hSw; clear hSw; go_simp; (try with_reducible rfl))))
            (try simp only [acE, acF, acG, Act.put, acH, acI, acJ])
            (first | refine wpAnyH_ready (rs := [5, 9]) abu aby ?_ | refine wpAnyH_ready (rs := [9]) abu aby ?_ | refine wpAnyH_ready (rs := [10]) abu aby ?_ | refine wpAnyH_ready (rs := [5]) abu aby ?_)
            repeat' (first | exact AllReadyH.nil | refine AllReadyH.cons (o := _) rfl (fun K hK => ?_) ?_)
          all_goals
            first
              | (rw [if_pos acr]
                 have Bk := fW (show aH D0 q7 61 aq from k7)
                 refine wp_store_mid _ _ _ rfl _ _ (aa rA).toArray rfl rfl (by have h9 := Bk; rw [ak] at h9; rw [List.size_toArray, ax, RA.out.len]; exact h9) (ra aI RA.out.len) (all_oneCell_toArray (fc rA)) ?_
                 clear Bk
                 have hk := Below.aX hk l7 0 (aa rA)
                 have k7 := gS (show aH D0 q7 61 aq from k7) ak RA.out.len
                 obtain ⟨D1, hV⟩ : ∃ V, D0.setCells q7 0 (aa rA) = V := ⟨_, rfl⟩
                 rw [List.toList_toArray, hV]
                 rw [hV] at hk k7
                 clear hV
                 obtain ⟨D0, hD⟩ : ∃ V, V = D1 := ⟨_, rfl⟩
                 subst hD)
              | (go_simp
                 first
                   | (go_at_call 13
                      refine (((fun _ => HT.out _)) hk).mono ?_
                      rintro e D0 ⟨rfl, hb⟩
                      (try have k7 := (hb.block q7 (ag k7)).trans k7)
                      have hk := Below.trans hk (hb.mono hk.size)
                      clear hb)
                   | (obtain ⟨q7, hq⟩ : ∃ q, D0.heap.size = q := ⟨_, rfl⟩
                      obtain ⟨D1, hV⟩ : ∃ V, D0.alloc (.cells acM.toArray 61) = V := ⟨_, rfl⟩
                      rw [hV, hq]
                      have hb : Below D0.heap.size D0 D1 := hV ▸ (Below.refl _ _).alloc (Nat.le_refl _) _
                      have k7 : D1.heap[q7]? = some (.cells acM.toArray 61) := by rw [← hq, ← hV]; exact heap_alloc_new _ _
                      have l7 : wr.heap.size ≤ q7 := by rw [← hq]; exact hk.size
                      have hk := Below.trans hk (hb.mono hk.size)
                      clear hb hV hq
                      obtain ⟨D0, hD⟩ : ∃ V, V = D1 := ⟨_, rfl⟩
                      subst hD))
            refine hK.out _ _ (⟨hk, cL Xt.out hk lX⟩) (fun hHeld => ?_)
            clear hK K
            (try simp only [acE, acF, acG, Act.put, acH, acI, acJ])
        all_goals
          repeat (first | (refine wpAnyH_take (i := 6) (oi := _) (v := ?_) rfl abp abu abu (fun _ _ _ h => h) (Or.inl ⟨by rfl, ?_⟩) hHeld ?_; rotate_left; focus (intro w' hSw; clear hSw; go_simp; (try with_reducible rfl))) | (refine wpAnyH_take (i := 7) (oi := _) (v := ?_) rfl abp abu abu (fun _ _ _ h => h) (Or.inl ⟨by rfl, ?_⟩) hHeld ?_; rotate_left; focus (intro w' hSw; clear hSw; go_simp; (try with_reducible rfl))) | (refine wpAnyH_take (i := 8) (oi := _) (v := ?_) rfl abp abu abu (fun _ _ _ h => h) (Or.inl ⟨by rfl, ?_⟩) hHeld ?_; rotate_left; focus (intro w' hSw; clear hSw; go_simp; (try with_reducible rfl))) | (refine wpAnyH_take (i := 11) (oi := _) (v := ?_) rfl abp abu abu (fun _ _ _ h => h) (Or.inl ⟨by rfl, ?_⟩) hHeld ?_; rotate_left; focus (intro w' hSw; clear hSw; go_simp; (try with_reducible rfl))))
          refine wpAnyH_done abp ?_ _
          clear hHeld
        all_goals
          go_wp2_with fail
          go_meet
          exact ⟨_, rfl, rfl, k7, hk⟩
      obtain ⟨g, rfl, rfl, kg, hk⟩ := hcut
      obtain ⟨W, hW⟩ : ∃ E : World, E = wc := ⟨_, rfl⟩
      subst hW
      have HKW := acD hk
      have Xf := acD (KR.out.keep hk)
      have UE := acD ((hk.block _ (ag KO.out)).trans KO.out)
      have Me := acD (HB.out.trans (hk.mono hsz))
      have KG := acD kg
      have hs2 := hk.size
      clear hk kg KR KO HB
      cases oA with
      | none =>
        obtain rfl : false = cA := SL.out
        have ue := acD (FN c f r yI.out (show k + 1 ≤ t - f by omega))
        go_wp2_with (refine wpList_store_row rfl 61 (.tmp 8) (.tmp 30) rfl (w.heap.size + 1) (aa aq).toArray rfl rfl 61 _ (UE.out) (ra aI ak) (hi6 ak ak) (aj aq) ?_)
        refine bodyPost_ret (results_cell_tmp (P := Tryz.prog) Tryz.results68 _ _ (w.heap.size + 1) (aa aq) _ rfl (au (setRow_heap _ _ _ _ _ _ (UE.out))) Tryz.underlying61 rfl (rn aI ak)) rfl ⟨?_, below_setRow (Me.out) abo _⟩
        rw [ue.out]
        rfl
      | some a =>
        obtain rfl : true = cA := SL.out
        obtain rfl : a = rA := Sy.out
        go_wp2_with (first | (refine wpList_load_mid rfl _ _ rfl _ _ rfl (aa a) _ KG.out.range Tryz.underlying61 rfl (rn aI RA.out.len) ?_) | (refine wpList_store_row rfl 61 (.tmp 7) (.tmp 31) rfl w.heap.size (aa a).toArray rfl rfl 61 _ Xf.out (ra aI RA.out.len) (hi6 RA.out.len RK.out.len) (aj a) ?_))
        go_roundw
        case rel =>
          refine ⟨k + 1, a, by omega, int_eq abo, yI.out, RA.out, aH.row (z := rk) Xf.out, ?_, below_setRow Me.out (Nat.le_refl _) _⟩
          rw [setRow_other _ _ _ _ abo]
          exact UE.out
        case measure => simp [intOf]; omega
    · obtain rfl : t = f + k := by omega
      have dl : decide ((f : Int) + (k : Int) < ((f + k : Nat) : Int)) = false := decide_eq_false abo
      have HN := acD (show cQ (dX c f (f + k - f)) r = some rk by rw [show f + k - f = k by omega]; exact ud.out)
      go_wp2_with (first | (refine wpList_load_mid rfl _ _ rfl _ _ rfl (aa rk) _ KR.out.range Tryz.underlying61 rfl (rn aI RK.out.len) ?_) | (refine wpList_store_row rfl 61 (.tmp 8) (.tmp 32) rfl (w.heap.size + 1) (aa rk).toArray rfl rfl 61 _ (KO.out) (ra aI RK.out.len) (hi6 RK.out.len ak) (aj rk) ?_))
      refine bodyPost_ret (results_cell_tmp (P := Tryz.prog) Tryz.results68 _ _ (w.heap.size + 1) (aa rk) _ rfl (au (setRow_heap _ _ _ _ _ _ (KO.out))) Tryz.underlying61 rfl (rn aI RK.out.len)) rfl ⟨?_, below_setRow (HB.out) abo _⟩
      rw [HN.out]
      rfl
end
section
open Go.RowKit
structure SY (w U : World) (bs : Array Value) (r : RG) : Prop where
 aF : Below w.heap.size w U
 kb : U.heap[w.heap.size]? = some (.cells bs 37 (0, 0))
 kr : aH U (w.heap.size + 1) 61 r
 ko : U.heap[w.heap.size + 1 + 1]? = some (.cells (aa aq).toArray 61 (0, 0))
theorem SY.keep {w U W : World} {bs : Array Value} {r : RG} (h : SY w U bs r) (b : Below U.heap.size U W) : SY w W bs r :=
 ⟨h.aF.trans (b.mono h.aF.size), (b.block _ (ag h.kb)).trans h.kb, h.kr.keep b, (b.block _ (ag h.ko)).trans h.ko⟩
theorem jZ.Ay {w w' : World} {v : Value} {n : Nat} {c : Nat → aZ} (h : jZ w v n c) (hb : Below w.heap.size w w') : jZ w' v n c := h.below hb
def ID (w : World) (b : Nat) (i : aZ) : Prop := w.heap[b]? = some (.cells #[.int .u8 i.op, .int .i64 i.a, .int .i64 i.b, .int .i64 i.c, .int .i64 i.aS] 64 (0, 0))
theorem ID.keep {w w' : World} {b : Nat} {i : aZ} (h : ID w b i) (hb : Below w.heap.size w w') : ID w' b i := (hb.block b (ag h)).trans h
def mZ (c : Nat → aZ) (f t m k : Nat) (r : RG) : Option RG := (cQ (dX c f (t - f)) r).bind (dK (c (t - 1)) m k)
def P9 : Option RG → Option RG → Option RG
 | none, y => y
 | some x, none => some x
 | some x, some y => some (bF x y)
theorem Kl (oX oY : Option RG) : (match oX, oY with | none, y => y | some x, none => some x | some x, some y => some (bF x y)) = P9 oX oY := by cases oX <;> cases oY <;> rfl
theorem uv (cv : Value) (n : Nat) (c : Nat → aZ) (f t : Nat) (hft : f < t) (htn : t ≤ n) (hn : n ≤ 1000000) (hop : ∀ i, i < n → 0 ≤ (c i).op) (nA : Option Addr) (m cT : Nat) (hm : m ≤ 1000000) (k : Nat) (hk : k ≤ 1000000) (r : RG) (hr : R16 r) (w : World) (HI : jZ w cv n c) :
  Calls Tryz.prog 30 #[cv, .agg #[.int .i64 (f : Int), .int .i64 (t : Int), .slice nA m cT], .agg (aa r).toArray, .int .i64 (k : Int)] w fun e w' => e = .returned (cM (mZ c f t m k r)) ∧ Below w.heap.size w w' := by
 obtain ⟨A, cap, hcv, hc1, hc2⟩ := HI.slice
 subst hcv
 obtain ⟨V, hV, k0, k1, k2, bV, sV⟩ := cm w #[.int .i64 (f : Int), .int .i64 (t : Int), .slice nA m cT] (aa r).toArray acM.toArray 37 61 61
 have HE := acD (show SY w V #[.int .i64 (f : Int), .int .i64 (t : Int), .slice nA m cT] r from ⟨bV, k0, k1, k2⟩)
 have R := acD hr
 have tI := acD HI
 obtain ⟨oR, Ry⟩ : ∃ o, cQ (dX c f (t - f)) r = o := ⟨_, rfl⟩
 obtain ⟨rR, Rv⟩ : ∃ q, oR.getD aq = q := ⟨_, rfl⟩
 obtain ⟨cR, Hh⟩ : ∃ q, oR.isSome = q := ⟨_, rfl⟩
 have RR := acD (show R16 rR by
  rw [← Rv]
  cases h3 : oR with
  | none => exact R16.zero
  | some a => exact jK (l := dX c f (t - f)) (fun i hi => by obtain ⟨j, hj, rfl⟩ := List.mem_map.1 hi; exact hop _ (by have := List.mem_range.1 hj; omega)) hr (Ry.trans h3))
 have Xu := acD (show ∀ W, Below w.heap.size w W → Calls Tryz.prog 68 #[.slice A n cap, .int .i64 (f : Int), .int .i64 (t : Int), .agg (aa r).toArray] W fun e w' => e = .returned (.tuple #[.agg (aa rR).toArray, .bool cR]) ∧ Below W.heap.size W w' from fun W hW => by
  have := FQ (.slice A n cap) n c f t abo htn hn hop r hr W (HI.Ay hW)
  rw [fP, Ry, Rv, Hh] at this
  exact this)
 have oI := acD (show mZ c f t m k r = oR.bind (dK (c (t - 1)) m k) by unfold mZ; rw [Ry])
 obtain ⟨O, hO⟩ : ∃ O, mZ c f t m k r = O := ⟨_, rfl⟩
 rw [hO] at oI ⊢
 have XA := acD Rv
 have KT := acD Hh
 have nH := acD hop
 clear k0 k1 k2 bV hr HI Ry Rv Hh hO hop sV
 go_enter Tryz.func30, Tryz.ntmps30
 go_upto_region 1 with fail
 clear hV
 obtain ⟨b0, b1, b2, lb⟩ : V.cell? ⟨w.heap.size, 0, none⟩ = some (.int .i64 (f : Int)) ∧ V.cell? ⟨w.heap.size, 1, none⟩ = some (.int .i64 (t : Int)) ∧ V.cell? ⟨w.heap.size, 2, none⟩ = some (.slice nA m cT) ∧ w.heap.size < V.heap.size := ⟨cell_of_row _ _ _ _ _ _ HE.out.kb, cell_of_row _ _ _ _ _ _ HE.out.kb, cell_of_row _ _ _ _ _ _ HE.out.kb, ag HE.out.kb⟩
 go_upto_region 2 with (first | (refine wpList_load_mid rfl _ _ rfl _ _ rfl (aa r) _ HE.out.kr.range Tryz.underlying61 rfl (rn aI R.out.len) ?_) | (go_at_call 68; refine (Xu.out _ HE.out.aF).mono ?_; rintro e W8 ⟨rfl, hbc⟩) | (refine wpList_store_row rfl 61 (.tmp 10) _ rfl W8.heap.size (aa rR).toArray rfl rfl 61 _ ((heap_alloc_new _ _)) (ra aI RR.out.len) (hi6 RR.out.len ak) (aj rR) ?_))
 obtain ⟨q10, hq⟩ : ∃ b, W8.heap.size = b := ⟨_, rfl⟩
 obtain ⟨E1, hE⟩ : ∃ E, (W8.alloc (.cells acM.toArray 61)).setRow W8.heap.size (aa rR).toArray = E := ⟨_, rfl⟩
 rw [hE, hq]
 have bE : Below W8.heap.size W8 E1 := hE ▸ below_setRow ((Below.refl _ _).alloc (Nat.le_refl _) _) (Nat.le_refl _) _
 have Ex : Below V.heap.size V E1 := hbc.trans (bE.mono hbc.size)
 have KR := acD (show aH E1 q10 61 rR by rw [← hq, ← hE]; exact aH.row (z := aq) (heap_alloc_new _ _))
 have BQ := acD (HE.out.keep Ex)
 clear hE hq bE Ex hbc HE 
 have HE := BQ
 clear BQ 
 clear b0 b1 b2 lb
 cases oR with
 | none =>
  obtain rfl : false = cR := KT.out
  have HX := acD (show O = none from oI.out)
  go_wp2_with (first | (refine wpList_store_row rfl 61 (.tmp 8) _ rfl (w.heap.size + 1 + 1) (aa aq).toArray rfl rfl 61 _ (HE.out.ko) (ra aI ak) (hi6 ak ak) (aj aq) ?_))
  refine bodyPost_ret (results_cell_tmp (P := Tryz.prog) Tryz.results30 _ _ (w.heap.size + 1 + 1) (aa aq) _ rfl (au (setRow_heap _ _ _ _ _ _ (HE.out.ko))) Tryz.underlying61 rfl (rn aI ak)) rfl ⟨?_, below_setRow (HE.out.aF) abo _⟩
  rw [HX.out]
  rfl
 | some bI =>
  obtain rfl : true = cR := KT.out
  obtain rfl : bI = rR := XA.out
  have HO := acD (show O = dK (c (t - 1)) m k bI from oI.out)
  clear oI XA KT Xu
  obtain ⟨p, hp⟩ : ∃ p, t - 1 = p := ⟨_, rfl⟩
  rw [hp] at HO
  obtain ⟨⟨op, ia, ib, ic, im⟩, hci⟩ : ∃ i, c p = i := ⟨_, rfl⟩
  rw [hci] at HO
  have h0 : 0 ≤ op := by have := nH.out p abo; rw [hci] at this; exact this
  obtain ⟨b, off, rfl, fA, c0, c1, c2, c3, c4⟩ := tI.out.at_ (wr := E1) HE.out.aF (i := p) abo
  rw [hci] at c0 c1 c2 c3 c4
  simp only at c0 c1 c2 c3 c4
  have hs := HE.out.aF.size
  obtain ⟨b0, b1, b2, lb⟩ : E1.cell? ⟨w.heap.size, 0, none⟩ = some (.int .i64 (f : Int)) ∧ E1.cell? ⟨w.heap.size, 1, none⟩ = some (.int .i64 (t : Int)) ∧ E1.cell? ⟨w.heap.size, 2, none⟩ = some (.slice nA m cT) ∧ w.heap.size < E1.heap.size := ⟨cell_of_row _ _ _ _ _ _ HE.out.kb, cell_of_row _ _ _ _ _ _ HE.out.kb, cell_of_row _ _ _ _ _ _ HE.out.kb, ag HE.out.kb⟩
  have zT : b < E1.heap.size := by omega
  have gp : (p : Int) < (n : Int) := by omega
  have w1 : (t : Int) - 1 = (p : Int) := by omega
  have w2 : IntKind.i64.wrap ((t : Int) - 1) = (p : Int) := by rw [w1]; exact IntWalk.i64_in _ abo
  have w3 : wrap64 (p : Int) = (p : Int) := by unfold wrap64; omega
  clear hp hci
  go_upto_region 5 with fail
  obtain ⟨q12, hq⟩ : ∃ q, E1.heap.size = q := ⟨_, rfl⟩
  obtain ⟨E2, hE⟩ : ∃ E, E1.alloc (.cells #[.int .u8 op, .int .i64 ia, .int .i64 ib, .int .i64 ic, .int .i64 im] 64) = E := ⟨_, rfl⟩
  rw [hE, hq]
  have bE : Below E1.heap.size E1 E2 := hE ▸ (Below.refl _ _).alloc (Nat.le_refl _) _
  have Mb := acD (show ID E2 q12 ⟨op, ia, ib, ic, im⟩ by unfold ID; rw [← hq, ← hE]; exact heap_alloc_new _ _)
  have BQ := acD (HE.out.keep bE)
  have Qy := acD (KR.out.keep bE)
  clear hE hq bE HE KR c0 c1 c2 c3 c4 b0 b1 b2 lb w1 w2 w3 gp fA zT
  have HE := BQ
  have KR := Qy
  clear BQ Qy
  obtain ⟨u0, u1, u2, u3, u4, lI⟩ := aQ Mb.out
  have TF : ¬ (op = 22 ∨ op = 23) ∨ op = 22 ∨ op = 23 := by omega
  rcases TF with ho | ho
  ·have HX := acD (HO.out.trans (if_pos ho))
   have e22 : (op != 22) = true := by simp; omega
   have e23 : (op != 23) = true := by simp; omega
   clear ho
   go_wp2_with (first | (refine wpList_load_mid rfl _ _ rfl _ _ rfl (aa bI) _ KR.out.range Tryz.underlying61 rfl (rn aI RR.out.len) ?_) | (refine wpList_store_row rfl 61 (.tmp 8) _ rfl (w.heap.size + 1 + 1) (aa bI).toArray rfl rfl 61 _ (HE.out.ko) (ra aI RR.out.len) (hi6 RR.out.len ak) (aj bI) ?_))
   refine bodyPost_ret (results_cell_tmp (P := Tryz.prog) Tryz.results30 _ _ (w.heap.size + 1 + 1) (aa bI) _ rfl (au (setRow_heap _ _ _ _ _ _ (HE.out.ko))) Tryz.underlying61 rfl (rn aI RR.out.len)) rfl ⟨?_, below_setRow (HE.out.aF) abo _⟩
   rw [HX.out]
   rfl
  have HX := acD (HO.out.trans (if_neg (fun h => h ho)))
  clear HO
  obtain ⟨b0, b1, b2, lb⟩ : E2.cell? ⟨w.heap.size, 0, none⟩ = some (.int .i64 (f : Int)) ∧ E2.cell? ⟨w.heap.size, 1, none⟩ = some (.int .i64 (t : Int)) ∧ E2.cell? ⟨w.heap.size, 2, none⟩ = some (.slice nA m cT) ∧ w.heap.size < E2.heap.size := ⟨cell_of_row _ _ _ _ _ _ HE.out.kb, cell_of_row _ _ _ _ _ _ HE.out.kb, cell_of_row _ _ _ _ _ _ HE.out.kb, ag HE.out.kb⟩
  have oK := acD (fun (tk : Bool) (W : World) => w9 op ia ib ic im h0 bI RR.out tk W)
  by_cases hm2 : m = 2
  ·have QD := acD (HX.out.trans (if_pos hm2))
   subst hm2
   obtain ⟨tk, Bj⟩ : ∃ tk, ((k : Int) == 1) = tk := ⟨_, rfl⟩
   have wh := acD (show decide (k = 1) = tk by rw [← Bj, Bool.eq_iff_iff]; simp; omega)
   obtain ⟨oF, Rz⟩ : ∃ o, dI ⟨op, ia, ib, ic, im⟩ bI tk = o := ⟨_, rfl⟩
   obtain ⟨rF, Rw⟩ : ∃ q, oF.getD aq = q := ⟨_, rfl⟩
   obtain ⟨cF, T1⟩ : ∃ q, oF.isSome = q := ⟨_, rfl⟩
   have RF := acD (show R16 rF by
    rw [← Rw]
    cases h3 : oF with
    | none => exact R16.zero
    | some a => exact dB RR.out (Rz.trans h3))
   have UW := acD (show ∀ W, Calls Tryz.prog 16 #[.agg #[.int .u8 op, .int .i64 ia, .int .i64 ib, .int .i64 ic, .int .i64 im], .agg (aa bI).toArray, .bool tk] W fun e w' => e = .returned (.tuple #[.agg (aa rF).toArray, .bool cF]) ∧ Below W.heap.size W w' from fun W => by
    have := oK.out tk W
    rw [fP, Rz, Rw, T1] at this
    exact this)
   have QC := acD (show O = oF by rw [QD.out, wh.out, Rz])
   have AR := acD (show cM oF = .tuple #[.agg (aa rF).toArray, .bool cF] by rw [fP, Rw, T1])
   clear Rz Rw T1 HX QD oK
   rcases ho with rfl | rfl
   all_goals
    go_wp2_with (first | (refine wpList_load_mid rfl _ _ rfl _ _ rfl (aa bI) _ KR.out.range Tryz.underlying61 rfl (rn aI RR.out.len) ?_) | (go_at_call 16; refine (Calls.ext (UW.out _)).mono ?_; rintro e w' ⟨rfl, x1, rfl⟩) | (refine wpList_store_row rfl 61 (.tmp 8) _ rfl (w.heap.size + 1 + 1) (aa rF).toArray rfl rfl 61 _ ((HE.out.keep (Ext.h _)).ko) (ra aI RF.out.len) (hi6 RF.out.len ak) (aj rF) ?_))
    refine bodyPost_ret (results_cell_tmp (P := Tryz.prog) Tryz.results30 _ _ (w.heap.size + 1 + 1) (aa rF) _ rfl (au (setRow_heap _ _ _ _ _ _ ((HE.out.keep x1.h).ko))) Tryz.underlying61 rfl (rn aI RF.out.len)) rfl ⟨?_, below_setRow ((HE.out.keep x1.h).aF) abo _⟩
    rw [QC.out, AR.out]
    rfl
  ·have QD := acD (HX.out.trans (if_neg hm2))
   have em : ((m : Int) == 2) = false := by simp; omega
   have em2 : (m == 2) = false := by simp; omega
   have dm : ¬ ((m : Int) = 2) := by omega
   obtain ⟨oX, Pm⟩ : ∃ o, dI ⟨op, ia, ib, ic, im⟩ bI false = o := ⟨_, rfl⟩
   obtain ⟨rX, N7⟩ : ∃ q, oX.getD aq = q := ⟨_, rfl⟩
   obtain ⟨cX, TY⟩ : ∃ q, oX.isSome = q := ⟨_, rfl⟩
   obtain ⟨oY, Pk⟩ : ∃ o, dI ⟨op, ia, ib, ic, im⟩ bI true = o := ⟨_, rfl⟩
   obtain ⟨rY, Ru⟩ : ∃ q, oY.getD aq = q := ⟨_, rfl⟩
   obtain ⟨cY, TX⟩ : ∃ q, oY.isSome = q := ⟨_, rfl⟩
   have RX := acD (show R16 rX ∧ aC rX = true by
    rw [← N7]
    cases h3 : oX with
    | none => exact ⟨R16.zero, gw⟩
    | some a => exact ⟨dB RR.out (Pm.trans h3), fG h0 RR.out (Pm.trans h3)⟩)
   have RY := acD (show R16 rY ∧ aC rY = true by
    rw [← Ru]
    cases h3 : oY with
    | none => exact ⟨R16.zero, gw⟩
    | some a => exact ⟨dB RR.out (Pk.trans h3), fG h0 RR.out (Pk.trans h3)⟩)
   have UU := acD (show ∀ W, Calls Tryz.prog 16 #[.agg #[.int .u8 op, .int .i64 ia, .int .i64 ib, .int .i64 ic, .int .i64 im], .agg (aa bI).toArray, .bool false] W fun e w' => e = .returned (.tuple #[.agg (aa rX).toArray, .bool cX]) ∧ Below W.heap.size W w' from fun W => by
    have := oK.out false W
    rw [fP, Pm, N7, TY] at this
    exact this)
   have UT := acD (show ∀ W, Calls Tryz.prog 16 #[.agg #[.int .u8 op, .int .i64 ia, .int .i64 ib, .int .i64 ic, .int .i64 im], .agg (aa bI).toArray, .bool true] W fun e w' => e = .returned (.tuple #[.agg (aa rY).toArray, .bool cY]) ∧ Below W.heap.size W w' from fun W => by
    have := oK.out true W
    rw [fP, Pk, Ru, TX] at this
    exact this)
   have QC := acD (show O = P9 oX oY by rw [QD.out, Pm, Pk]; exact Kl _ _)
   have UG := acD (And.intro N7 TY)
   have KH := acD (And.intro Ru TX)
   have XK := acD (show ∀ W, Calls Tryz.prog 66 #[.agg (aa rX).toArray, .agg (aa rY).toArray] W fun e w' => e = .returned (.agg (aa (bF rX rY)).toArray) ∧ Below W.heap.size W w' from fun W => by
    have := uu rX rY RX.out.1.len RY.out.1.len W
    rw [Bg RX.out.1 RY.out.1 RX.out.2 RY.out.2] at this
    exact this)
   have RJ := acD (RX.out.1.join RY.out.1)
   clear Pm N7 TY Pk Ru TX HX QD oK hm2
   rcases ho with rfl | rfl
   all_goals
    go_upto_region 10 with (first | (refine wpList_load_mid rfl _ _ rfl _ _ rfl (aa bI) _ KR.out.range Tryz.underlying61 rfl (rn aI RR.out.len) ?_) | (go_at_call 16; refine (UU.out _).mono ?_; rintro e W8 ⟨rfl, hbc⟩) | (refine wpList_store_row rfl 61 (.tmp 13) _ rfl W8.heap.size (aa rX).toArray rfl rfl 61 _ ((heap_alloc_new _ _)) (ra aI RX.out.1.len) (hi6 RX.out.1.len ak) (aj rX) ?_))
    obtain ⟨q13, hq⟩ : ∃ b, W8.heap.size = b := ⟨_, rfl⟩
    obtain ⟨E3, hE⟩ : ∃ E, (W8.alloc (.cells acM.toArray 61)).setRow W8.heap.size (aa rX).toArray = E := ⟨_, rfl⟩
    rw [hE, hq]
    have bE : Below W8.heap.size W8 E3 := hE ▸ below_setRow ((Below.refl _ _).alloc (Nat.le_refl _) _) (Nat.le_refl _) _
    have Ex : Below E2.heap.size E2 E3 := hbc.trans (bE.mono hbc.size)
    have KX := acD (show aH E3 q13 61 rX by rw [← hq, ← hE]; exact aH.row (z := aq) (heap_alloc_new _ _))
    have BQ := acD (HE.out.keep Ex)
    have Ny := acD (KR.out.keep Ex)
    have IU := acD (Mb.out.keep Ex)
    clear hE hq bE Ex hbc HE KR Mb
    have HE := BQ
    have KR := Ny
    have Mb := IU
    clear BQ Ny IU
    clear u0 u1 u2 u3 u4 lI b0 b1 b2 lb
    obtain ⟨u0, u1, u2, u3, u4, lI⟩ := aQ Mb.out
    go_upto_region 11 with (first | (refine wpList_load_mid rfl _ _ rfl _ _ rfl (aa bI) _ KR.out.range Tryz.underlying61 rfl (rn aI RR.out.len) ?_) | (go_at_call 16; refine (UT.out _).mono ?_; rintro e W8 ⟨rfl, hbc⟩) | (refine wpList_store_row rfl 61 (.tmp 15) _ rfl W8.heap.size (aa rY).toArray rfl rfl 61 _ ((heap_alloc_new _ _)) (ra aI RY.out.1.len) (hi6 RY.out.1.len ak) (aj rY) ?_))
    obtain ⟨q15, hq⟩ : ∃ b, W8.heap.size = b := ⟨_, rfl⟩
    obtain ⟨E4, hE⟩ : ∃ E, (W8.alloc (.cells acM.toArray 61)).setRow W8.heap.size (aa rY).toArray = E := ⟨_, rfl⟩
    rw [hE, hq]
    have bE : Below W8.heap.size W8 E4 := hE ▸ below_setRow ((Below.refl _ _).alloc (Nat.le_refl _) _) (Nat.le_refl _) _
    have Ex : Below E3.heap.size E3 E4 := hbc.trans (bE.mono hbc.size)
    have KY := acD (show aH E4 q15 61 rY by rw [← hq, ← hE]; exact aH.row (z := aq) (heap_alloc_new _ _))
    have BQ := acD (HE.out.keep Ex)
    have Ny := acD (KR.out.keep Ex)
    have IU := acD (Mb.out.keep Ex)
    have Xe := acD (KX.out.keep Ex)
    clear hE hq bE Ex hbc HE KR Mb KX
    have HE := BQ
    have KR := Ny
    have Mb := IU
    have KX := Xe
    clear BQ Ny IU Xe
    clear u0 u1 u2 u3 u4 lI
    cases oX with
    | none =>
     obtain rfl : false = cX := UG.out.2
     have Oo := acD (show cM O = .tuple #[.agg (aa rY).toArray, .bool cY] by rw [QC.out, ← KH.out.1, ← KH.out.2, ← fP]; cases oY <;> rfl)
     go_wp2_with (first | (refine wpList_load_mid rfl _ _ rfl _ _ rfl (aa rY) _ KY.out.range Tryz.underlying61 rfl (rn aI RY.out.1.len) ?_) | (refine wpList_store_row rfl 61 (.tmp 8) _ rfl (w.heap.size + 1 + 1) (aa rY).toArray rfl rfl 61 _ (HE.out.ko) (ra aI RY.out.1.len) (hi6 RY.out.1.len ak) (aj rY) ?_))
     refine bodyPost_ret (results_cell_tmp (P := Tryz.prog) Tryz.results30 _ _ (w.heap.size + 1 + 1) (aa rY) _ rfl (au (setRow_heap _ _ _ _ _ _ (HE.out.ko))) Tryz.underlying61 rfl (rn aI RY.out.1.len)) rfl ⟨?_, below_setRow (HE.out.aF) abo _⟩
     rw [Oo.out]
     rfl
    | some x =>
     obtain rfl : true = cX := UG.out.2
     obtain rfl : x = rX := UG.out.1
     cases oY with
     | none =>
      obtain rfl : false = cY := KH.out.2
      have Oo := acD (show O = some x from QC.out)
      go_wp2_with (first | (refine wpList_load_mid rfl _ _ rfl _ _ rfl (aa x) _ KX.out.range Tryz.underlying61 rfl (rn aI RX.out.1.len) ?_) | (refine wpList_store_row rfl 61 (.tmp 8) _ rfl (w.heap.size + 1 + 1) (aa x).toArray rfl rfl 61 _ (HE.out.ko) (ra aI RX.out.1.len) (hi6 RX.out.1.len ak) (aj x) ?_))
      refine bodyPost_ret (results_cell_tmp (P := Tryz.prog) Tryz.results30 _ _ (w.heap.size + 1 + 1) (aa x) _ rfl (au (setRow_heap _ _ _ _ _ _ (HE.out.ko))) Tryz.underlying61 rfl (rn aI RX.out.1.len)) rfl ⟨?_, below_setRow (HE.out.aF) abo _⟩
      rw [Oo.out]
      rfl
     | some y =>
      obtain rfl : true = cY := KH.out.2
      obtain rfl : y = rY := KH.out.1
      have Oo := acD (show O = some (bF x y) from QC.out)
      obtain ⟨jr, xP⟩ : ∃ jr, bF x y = jr := ⟨_, rfl⟩
      rw [xP] at Oo XK RJ
      clear xP
      go_wp2_with (first | (refine wpList_load_mid rfl _ _ rfl _ _ rfl (aa x) _ KX.out.range Tryz.underlying61 rfl (rn aI RX.out.1.len) ?_) | (refine wpList_load_mid rfl _ _ rfl _ _ rfl (aa y) _ KY.out.range Tryz.underlying61 rfl (rn aI RY.out.1.len) ?_) | (go_at_call 66; refine (Calls.ext (XK.out _)).mono ?_; rintro e w' ⟨rfl, x1, rfl⟩) | (refine wpList_store_row rfl 61 (.tmp 8) _ rfl (w.heap.size + 1 + 1) (aa jr).toArray rfl rfl 61 _ ((HE.out.keep (Ext.h _)).ko) (ra aI RJ.out.len) (hi6 RJ.out.len ak) (aj jr) ?_))
      refine bodyPost_ret (results_cell_tmp (P := Tryz.prog) Tryz.results30 _ _ (w.heap.size + 1 + 1) (aa jr) _ rfl (au (setRow_heap _ _ _ _ _ _ ((HE.out.keep x1.h).ko))) Tryz.underlying61 rfl (rn aI RJ.out.len)) rfl ⟨?_, below_setRow ((HE.out.keep x1.h).aF) abo _⟩
      rw [Oo.out]
      rfl
end
section
open Go.RowKit
structure eL (V w : World) (rb ib pb n : Nat) (re : List Bool) (bH : List RG) (rep : List Int) : Prop where
 aF : Below V.heap.size V w
 rV : V.heap.size ≤ rb
 iV : V.heap.size ≤ ib
 pV : V.heap.size ≤ pb
 dZ : w.heap[rb]? = some (.cells (re.map Value.bool).toArray 4 (0, 0))
 eC : w.heap[ib]? = some (.cells (jk bH).toArray 61 (0, 0))
 cP : w.heap[pb]? = some (.cells (rep.map (Value.int .i64)).toArray 3 (0, 0))
 l1 : re.length = n
 l2 : bH.length = n
 l3 : rep.length = n
 r16 : ∀ r ∈ bH, R16 r
section
variable {V w w' : World} {rb ib pb n : Nat} {re : List Bool} {bH : List RG} {rep : List Int}
theorem eL.lt (h : eL V w rb ib pb n re bH rep) : rb < w.heap.size ∧ ib < w.heap.size ∧ pb < w.heap.size := ⟨ag h.dZ, ag h.eC, ag h.cP⟩
theorem eL.ne (h : eL V w rb ib pb n re bH rep) : rb ≠ ib ∧ rb ≠ pb ∧ ib ≠ pb := ⟨aL h.dZ h.eC abr, aL h.dZ h.cP abr, aL h.eC h.cP abr⟩
theorem eL.keep (h : eL V w rb ib pb n re bH rep) (hb : Below w.heap.size w w') : eL V w' rb ib pb n re bH rep := by
 obtain ⟨a, b, c⟩ := h.lt
 exact ⟨h.aF.trans (hb.mono h.aF.size), h.rV, h.iV, h.pV, (hb.block _ a).trans h.dZ, (hb.block _ b).trans h.eC, (hb.block _ c).trans h.cP, h.l1, h.l2, h.l3, h.r16⟩
theorem eL.Mr (h : eL V w rb ib pb n re bH rep) (t : Nat) (v : Bool) : eL V (w.setCell ⟨rb, t, none⟩ (.bool v)) rb ib pb n (re.set t v) bH rep := by
 obtain ⟨a, b, c⟩ := h.ne
 refine ⟨Below.setCell h.aF h.rV _, h.rV, h.iV, h.pV, ?_, (Below.heap_setCell _ _ _ _ (by show ib ≠ rb; exact a.symm)).trans h.eC, (Below.heap_setCell _ _ _ _ (by show pb ≠ rb; exact b.symm)).trans h.cP, by rw [List.length_set]; exact h.l1, h.l2, h.l3, h.r16⟩
 rw [heap_setCell_same _ _ _ _ _ _ h.dZ, oT]
theorem eL.Tc (h : eL V w rb ib pb n re bH rep) (t : Nat) (v : Int) : eL V (w.setCell ⟨pb, t, none⟩ (.int .i64 v)) rb ib pb n re bH (rep.set t v) := by
 obtain ⟨a, b, c⟩ := h.ne
 refine ⟨Below.setCell h.aF h.pV _, h.rV, h.iV, h.pV, (Below.heap_setCell _ _ _ _ (by show rb ≠ pb; exact b)).trans h.dZ, (Below.heap_setCell _ _ _ _ (by show ib ≠ pb; exact c)).trans h.eC, ?_, h.l1, h.l2, by rw [List.length_set]; exact h.l3, h.r16⟩
 rw [heap_setCell_same _ _ _ _ _ _ h.cP, A9]
theorem eL.JB (h : eL V w rb ib pb n re bH rep) {t : Nat} (ht : t < n) {r : RG} (hr : R16 r) : eL V (w.setCells ib (t * 32) (aa r)) rb ib pb n re (bH.set t r) rep := by
 obtain ⟨a, b, c⟩ := h.ne
 have h16 : ∀ x ∈ bH, x.length = 16 := fun x hx => (h.r16 x hx).len
 have hl := gz h16
 have hc : (aa r).length = 32 := by rw [ax, hr.len]
 refine ⟨Below.aX h.aF h.iV _ _, h.rV, h.iV, h.pV, (aR _ _ _ _ _ a).trans h.dZ, ?_, (aR _ _ _ _ _ c.symm).trans h.cP, h.l1, by rw [List.length_set]; exact h.l2, h.l3, fun x hx => by rcases List.mem_or_eq_of_mem_set hx with h1 | rfl; exact h.r16 _ h1; exact hr⟩
 have h2 := h.l2
 rw [dN ib _ (aa r) (t * 32) w _ h.eC abo, hc, xe h16 abo hr.len]
theorem eL.gO (h : eL V w rb ib pb n re bH rep) {t : Nat} (ht : t < n) : w.cell? ⟨rb, t, none⟩ = some (.bool (re.getD t false)) ∧ w.frozen? ⟨rb, t, none⟩ = false := by
 have hl : t < re.length := by rw [h.l1]; exact ht
 constructor
 ·simp [World.cell?, h.dZ, List.getD, List.getElem?_eq_getElem hl]
 ·simp [World.frozen?, h.dZ]
theorem eL.nP (h : eL V w rb ib pb n re bH rep) {t : Nat} (ht : t < n) : w.cell? ⟨pb, t, none⟩ = some (.int .i64 (rep.getD t 0)) ∧ w.frozen? ⟨pb, t, none⟩ = false := by
 have hl : t < rep.length := by rw [h.l3]; exact ht
 constructor
 ·simp [World.cell?, h.cP, List.getD, List.getElem?_eq_getElem hl]
 ·simp [World.frozen?, h.cP]
theorem eL.gJ (h : eL V w rb ib pb n re bH rep) {t : Nat} (ht : t < n) : w.rangeAt ib (t * 32) (aa (bH.getD t [])) := by
 have h16 : ∀ x ∈ bH, x.length = 16 := fun x hx => (h.r16 x hx).len
 have hl : t < bH.length := by rw [h.l2]; exact ht
 have e : bH.getD t [] = bH[t] := by simp [List.getD, List.getElem?_eq_getElem hl]
 have h1 := h16 _ (List.getElem_mem hl)
 refine oU h.eC (fun j hj => ?_)
 rw [e] at hj ⊢
 rw [ax, h1] at hj
 exact iY h16 (List.getElem?_eq_getElem hl) j hj
theorem eL.there (h : eL V w rb ib pb n re bH rep) {t : Nat} (ht : t < n) : w.there ib (t * 32) 32 := fun j hj => by
 have h16 : ∀ x ∈ bH, x.length = 16 := fun x hx => (h.r16 x hx).len
 have h1 := gz h16
 have h2 := h.l2
 constructor
 ·have : t * 32 + j < (jk bH).length := by omega
  simp [World.cell?, h.eC, List.getElem?_eq_getElem this]
 ·simp [World.frozen?, h.eC]
theorem eL.Hr (h : eL V w rb ib pb n re bH rep) {t : Nat} (ht : t < n) : R16 (bH.getD t []) := by
 have hl : t < bH.length := by rw [h.l2]; exact ht
 rw [show bH.getD t [] = bH[t] by simp [List.getD, List.getElem?_eq_getElem hl]]
 exact h.r16 _ (List.getElem_mem hl)
end
structure yF (V w : World) (rb ib pb n : Nat) (s : AS) : Prop where
 row : eL V w rb ib pb n s.reach s.bH s.rep
 kH : wA n s
 JI : Qu n s
theorem yF.keep {V w w' : World} {rb ib pb n : Nat} {s : AS} (h : yF V w rb ib pb n s) (hb : Below w.heap.size w w') : yF V w' rb ib pb n s := ⟨h.row.keep hb, h.kH, h.JI⟩
def Fs (nx : List Int) (E : Nat → Option RG) (s : AS) : Nat → AS × Bool
 | 0 => (s, false)
 | j + 1 => let p := Fs nx E s j; let q := cy p.1 (nx.getD j 0).toNat (E j); (q.1, p.2 || q.2)
theorem wK (nx : List Int) (E : Nat → Option RG) (s : AS) (j : Nat) : Fs nx E s (j + 1) = ((cy (Fs nx E s j).1 (nx.getD j 0).toNat (E j)).1, (Fs nx E s j).2 || (cy (Fs nx E s j).1 (nx.getD j 0).toNat (E j)).2) := rfl
theorem Jm (last : aZ) (nx : List Int) (s : AS) (o : Option RG) (k : Nat) : Fs nx (fun j => o.bind (dK last nx.length j)) s k = match o with | none => (s, false) | some bI => gN last nx bI s k := by
 induction k with
 | zero => cases o <;> rfl
 | succ k ih =>
  rw [wK, ih]
  cases o with
  | none => rfl
  | some bI => rfl
theorem OM (d : Nat) {a b : RG} (ha : a.length = 16) (hb : b.length = 16) (w : World) : (Op.equalIn (d + 1 + 1 + 1) 59 (.agg (aa a).toArray) (.agg (aa b).toArray)).run Tryz.prog w = .ok (decide (a = b)) w := by
 rw [Op.equalIn]
 simp [run_underlying Tryz.underlying59, Sem.run_bind]
 rw [pH (fun i => decide (rg a (i : Int) = rg b (i : Int)))]
 ·have e : (List.range' 0 16).all (fun i => decide (rg a (i : Int) = rg b (i : Int))) = decide (a = b) := by
   rw [Bool.eq_iff_iff, List.all_eq_true, decide_eq_true_eq]
   constructor
   ·intro h
    exact FW hb ha fun j hj => by
     have := h j (by simp [List.mem_range'_1]; omega)
     rwa [decide_eq_true_eq] at this
   ·rintro rfl i _
    simp
  rw [e]
  cases decide (a = b) <;> simp
 ·intro i hi s
  have hi2 : i < 16 := by simp [List.mem_range'_1] at hi; omega
  have h1 := FT (r := a) (k := i) abo w
  have h2 := FT (r := b) (k := i) abo w
  have h3 := Bv d (rg a (i : Int)).1 (rg a (i : Int)).2 (rg b (i : Int)).1 (rg b (i : Int)).2 w
  simp only [Sem.run_bind, h1, h2, Result.andThen_ok, h3]
  by_cases h4 : rg a (i : Int) = rg b (i : Int)
  ·simp [h4]
  ·have : ((rg a (i : Int)).1 == (rg b (i : Int)).1 && (rg a (i : Int)).2 == (rg b (i : Int)).2) = false := by
    rw [Bool.eq_false_iff]
    intro h5
    rw [Bool.and_eq_true] at h5
    exact h4 (Prod.ext (by simpa using h5.1) (by simpa using h5.2))
   simp [this, h4]
theorem uo {r : RG} (hr : r.length = 16) (w : World) : (part 59 (aa r).toArray 0).run Tryz.prog w = .ok (.agg (aa r).toArray) w := by
 have h1 : (isAgg 59).run Tryz.prog w = .ok true w := by kernel_rfl
 have h2 : (sizeOf 59).run Tryz.prog w = .ok 32 w := by kernel_rfl
 unfold part
 simp only [Sem.run_bind, h1, h2, Result.andThen_ok, if_true, Sem.run_pure]
 have : (aa r).toArray.extract 0 (0 + 32) = (aa r).toArray := by
  have hl : (aa r).toArray.size = 32 := by rw [List.size_toArray, ax, hr]
  rw [Nat.zero_add, ← hl, Array.extract_size]
 rw [this]
theorem Mw (d : Nat) {a b : RG} (ha : a.length = 16) (hb : b.length = 16) (w : World) : (Op.equalIn (d + 1 + 1 + 1 + 1) 61 (.agg (aa a).toArray) (.agg (aa b).toArray)).run Tryz.prog w = .ok (decide (a = b)) w := by
 have h1 := uo ha w
 have h2 := uo hb w
 have h3 := OM d ha hb w
 have hf : (Tryz.prog.fieldsOf 61).toList = [{ name := "L", type := 59, offset := 0, embedded := false, tag := "", pkgPath := "", byteOffset := 0 }] := by kernel_rfl
 rw [run_equalIn_struct w _ _ _ _ abp abp, hf]
 rw [Op.eqFields, if_pos (show ("L" : String) ≠ "_" by decide), Sem.run_bind]
 rw [h1, Result.andThen_ok, Sem.run_bind, h2, Result.andThen_ok, Sem.run_bind, h3, Result.andThen_ok]
 rw [Op.eqFields]
 generalize decide (a = b) = t
 cases t
 ·rfl
 ·rfl
theorem F5 {a b : RG} (ha : a.length = 16) (hb : b.length = 16) (w : World) : (binOp .eql 61 (.agg (aa a).toArray) (.agg (aa b).toArray)).run Tryz.prog w = .ok (.bool (decide (a = b))) w := by
 simp only [binOp]
 simp [Op.equal, Op.maxDepth, Mw 9996 ha hb]
end
end Go.Proofs.YtebklpnkcicpjaaGreatDoor
