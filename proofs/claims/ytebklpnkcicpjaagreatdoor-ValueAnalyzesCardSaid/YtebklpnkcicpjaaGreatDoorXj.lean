/-
  What is proved here: parts aTr3, aAf, aMono, aAd, aAn2, aBf, aAm, aBe, aDm.
-/
import Derived.Test.YtebklpnkcicpjaaGreatDoorXa
import Derived.Test.YtebklpnkcicpjaaGreatDoorXi
import Derived.Test.YtebklpnkcicpjaaGreatDoorXd
import Derived.Test.YtebklpnkcicpjaaGreatDoorXh
import Derived.Test.YtebklpnkcicpjaaGreatDoorXf
import Derived.Test.YtebklpnkcicpjaaGreatDoorXc
import Derived.Laws.MakeOwn
namespace Go.Proofs.YtebklpnkcicpjaaGreatDoor
set_option linter.unusedVariables false
set_option linter.unusedSimpArgs false
set_option maxRecDepth 100000
set_option maxHeartbeats 8000000
section
open Go.RowKit
theorem vw : ∀ k, k < 30 → (di k).BK ≤ 15 ∧ (di k).BH ≤ 15 ∧ (di k).BF ≤ 15 ∧ -131072 ≤ kf k ∧ kj k ≤ 131071 := by decide
theorem nK (op a b c im : Int) (h0 : 0 ≤ op) (r : RG) (hr : R16 r) (w : World) (T : iU w) :
  Calls Tryz.prog 12 #[.agg #[.int .u8 op, .int .i64 a, .int .i64 b, .int .i64 c, .int .i64 im], .agg (aa r).toArray] w fun e w' => e = .returned (cM (bT ⟨op, a, b, c, im⟩ r)) ∧ Below w.heap.size w w' := by
 by_cases hvp : aU ⟨op, a, b, c, im⟩ = true ∧ aC r = true
 case neg =>
  refine (wM op a b c im h0 r hr w T (by
   cases h1 : aU ⟨op, a, b, c, im⟩ <;> cases h2 : aC r <;> simp_all)).mono fun e w' ⟨q, hb⟩ => ⟨q.trans ?_, hb⟩
  unfold bT
  rw [if_neg hvp]
 obtain ⟨hv, hp⟩ := hvp
 obtain ⟨k, g1, g2, ⟨a1, a2⟩, ⟨b1, b2⟩, ⟨c1, c2⟩, i1, i2⟩ := (cU (i := ⟨op, a, b, c, im⟩) h0).1 hv
 obtain ⟨s1, s2, s3, s4, s5⟩ := vw k g2
 simp only at g1 a1 a2 b1 b2 c1 c2 i1 i2
 obtain ⟨an, rfl⟩ : ∃ n : Nat, a = (n : Int) := ⟨a.toNat, by omega⟩
 obtain ⟨bn, rfl⟩ : ∃ n : Nat, b = (n : Int) := ⟨b.toNat, by omega⟩
 obtain ⟨cn, rfl⟩ : ∃ n : Nat, c = (n : Int) := ⟨c.toNat, by omega⟩
 exact vq op an bn cn im abo abo abo abo h0 abo r hr w T hv hp
end
section
open Go.RowKit
theorem hi3 {r : RG} (hr : r.length = 16) : (Tryz.prog.info? 56).map (·.size) = some (aa r).length := by rw [ax, hr]; kernel_rfl
theorem hi4 {r : RG} (hr : r.length = 16) : (Tryz.prog.info? 56).map (·.size) = some (aa r).toArray.size := by rw [List.size_toArray, ax, hr]; kernel_rfl
theorem hi6 {r z : RG} (hr : r.length = 16) (hz : z.length = 16) : (aa z).toArray.size = (aa r).toArray.size := by rw [List.size_toArray, List.size_toArray, ax, ax, hr, hz]
theorem ak : aq.length = 16 := rfl
theorem aH.row {w : World} {b : Nat} {T : TypeId} {z r : RG} (h : aH w b T z) : aH (w.setRow b (aa r).toArray) b T r := setRow_heap _ _ _ _ _ _ h
theorem bg {w : World} {fn : Func} {a u : Tmp} (h : fn.results = #[.cell a 56, .tmp u]) (tmps : Array Value) (b : Nat) {r : RG} (hr : r.length = 16) (ha : tmps.getD a undef = .pointer (some ⟨b, 0, none⟩)) (hb : aH w b 56 r) :
  (results fn tmps).run Tryz.prog w = .ok (.tuple #[.agg (aa r).toArray, tmps.getD u undef]) w :=
 results_cell_tmp (P := Tryz.prog) h tmps w b (aa r) _ ha hb.range Tryz.underlying56 rfl (hi3 hr)
theorem ints_at {w : World} {v : Value} {l : List Int} (h : Ints w v l) : ∃ A cap, v = .slice A l.length cap ∧ l.length ≤ cap ∧ cap ≤ maxLen := by
 obtain ⟨A, cap, h1, h2, h3, _⟩ := h
 exact ⟨A, cap, h1, h2, h3⟩
theorem fX {n : Nat} (h : n ≤ maxLen) : n ≤ 2 ^ 63 - 1 := by unfold maxLen at h; exact h
theorem uX {V w : World} {ab cb rb ib pb : Nat} {bv pv : Value} {G : List dL} {B : List AB} {val : Nat → Value} {s : AS} (h : An V w ab cb rb ib pb bv pv G B val s) {k : Nat} {b : AB} (hk : B[k]? = some b) (hne : b.code ≠ []) (DN : ∀ i ∈ b.code, 0 ≤ i.op) (T : iU w) :
  Calls Tryz.prog 26 #[.pointer (some ⟨ab, 0, none⟩), .int .i64 (k : Int)] w fun e w' => e = .returned (cM (cQ b.code (s.bH.getD k []))) ∧ Below w.heap.size w w' := by
 have pF := (List.getElem?_eq_some_iff.1 hk).1
 have yE := h.lB
 obtain ⟨r, hr⟩ : ∃ r, s.bH.getD k [] = r := ⟨_, rfl⟩
 have r16 : R16 r := hr ▸ h.kH.get pF
 obtain ⟨V0, gZ⟩ : ∃ V0, w.alloc (.cells acM.toArray 56) = V0 := ⟨_, rfl⟩
 have b0 : Below w.heap.size w V0 := gZ ▸ (Below.refl _ _).alloc (Nat.le_refl _) _
 have s0 : V0.heap.size = w.heap.size + 1 := by rw [← gZ]; simp
 have kz : aH V0 w.heap.size 56 aq := gZ ▸ heap_alloc_new _ _
 have h0 := h.below b0
 obtain ⟨l1, l2, l3, l4, l5⟩ := h0.lt
 obtain ⟨-, c2, -, c4, -⟩ := h0.cells
 have hrg := h0.gJ pF
 rw [hr] at hrg
 have gK := acD hrg
 have dk : (k : Int) < (B.length : Int) := by omega
 obtain ⟨n, hn⟩ : ∃ n, B.length = n := ⟨_, rfl⟩
 rw [hn] at c2 c4 dk yE
 have H0 := acD h0
 have HW := acD h
 have HR := acD hr
 have U5 := acD DN
 have R := acD r16
 have B0 := acD b0
 have S0 := acD s0
 have KZ := acD kz
 have EN := acD hne
 have HK := acD hk
 have HT := acD T
 obtain ⟨q, cap, hval, gF, Ib, Oi, Ig⟩ : ∃ q cap, val k = .slice (some ⟨q, 0, none⟩) b.code.length cap ∧ b.code.length ≤ cap ∧ cap ≤ 2 ^ 63 - 1 ∧ q < w.heap.size ∧ ∀ j i, b.code[j]? = some i →
   w.cell? ⟨q, j * 5, none⟩ = some (.int .u8 i.op) ∧ w.cell? ⟨q, j * 5 + 1, none⟩ = some (.int .i64 i.a) ∧ w.cell? ⟨q, j * 5 + 2, none⟩ = some (.int .i64 i.b) ∧ w.cell? ⟨q, j * 5 + 3, none⟩ = some (.int .i64 i.c) ∧ w.cell? ⟨q, j * 5 + 4, none⟩ = some (.int .i64 i.aS) := by
  rcases (h.code hk).2 with ⟨_, e⟩ | ⟨q, cap, e1, e2, e3, e4, e5⟩
  ·exact absurd e hne
  ·exact ⟨q, cap, e1, e2, fX e3, e4, e5⟩
 have CC := acD Ig
 obtain ⟨m, hm⟩ : ∃ m, b.code.length = m := ⟨_, rfl⟩
 have x2 : V0.cell? ⟨cb, k, none⟩ = some (.slice (some ⟨q, 0, none⟩) m cap) := by rw [← hm, ← hval]; exact (h0.code hk).1
 have HM := acD hm
 rw [hm] at gF
 clear h0 h hr DN r16 b0 s0 kz hne hk T hrg hn hval Ig hm pF
 go_enter Tryz.func26, Tryz.ntmps26
 go_upto_region 2 with (first | (refine wpList_load_mid rfl _ _ rfl _ _ rfl (aa r) _ gK.out Tryz.underlying56 rfl (hi3 R.out.len) ?_) | (refine wpList_store_row rfl 56 (.tmp 6) (.tmp 16) rfl V0.heap.size (aa r).toArray rfl rfl 56 _ (heap_alloc_new _ _) (hi4 R.out.len) (hi6 R.out.len ak) (aj r) ?_))
 obtain ⟨X, hX⟩ : ∃ X, (V0.alloc (.cells acM.toArray 56)).setRow V0.heap.size (aa r).toArray = X := ⟨_, rfl⟩
 have hA : aH (V0.alloc (.cells acM.toArray 56)) V0.heap.size 56 aq := heap_alloc_new _ _
 have bX : Below V0.heap.size V0 X := hX ▸ below_setRow ((Below.refl _ _).alloc (Nat.le_refl _) _) (Nat.le_refl _) _
 have kX : aH X V0.heap.size 56 r := hX ▸ hA.row
 rw [hX]
 clear gZ
 have T7 := H0.out.below bX
 obtain ⟨y1, y2, y3, y4, y5⟩ := T7.lt
 have e2 := T7.cells.2.1
 have f2 : X.cell? ⟨cb, k, none⟩ = some (.slice (some ⟨q, 0, none⟩) m cap) := (bX.cell (p := ⟨cb, k, none⟩) l2).trans x2
 have BX := acD bX
 have KX := acD kX
 have V6 : B.length = n := by
  have := c2.symm.trans H0.out.cells.2.1
  simp at this
  omega
 rw [V6] at e2
 clear hX hA bX kX T7 c2 c4 x2 V6
 go_upto_region 3 with fail
 go_loopw [7, 25] (fun a7 a25 wr => ∃ (j : Nat) (r1 : RG), j ≤ m ∧ a25 = .int .i64 (j : Int) ∧ a7 = .bool true ∧ cQ (b.code.drop j) r1 = cQ b.code r ∧ R16 r1 ∧ Below V0.heap.size V0 wr ∧ aH wr V0.heap.size 56 r1) (fun _ a25 _ => m - (intOf a25).toNat)
 case atStart => exact ⟨0, r, by omega, rfl, rfl, by simp, R.out, BX.out, KX.out⟩
 case round =>
  obtain ⟨j, r1, hj, rfl, rfl, hrun, hr1, hb, kr⟩ := hrel
  have IK := acD hrun
  have R1 := acD hr1
  have HB := acD hb
  have KR := acD kr
  clear hrun hr1 hb kr
  have hsz : V0.heap.size < wr.heap.size := KR.out.lt
  by_cases hlt : j < m
  ·have dl : decide ((j : Int) < (m : Int)) = true := decide_eq_true abo
   obtain ⟨i, hi⟩ : ∃ i, b.code[j]? = some i := ⟨_, List.getElem?_eq_getElem (by rw [HM.out]; exact hlt)⟩
   obtain ⟨i0, i1, i2, i3, i4⟩ := CC.out j i hi
   have Yz : q < V0.heap.size := by have := S0.out; omega
   have bq := fun o => (HB.out.cell (p := ⟨q, o, none⟩) Yz).trans (B0.out.cell (p := ⟨q, o, none⟩) Oi)
   have j0 := (bq _).trans i0
   have j1 := (bq _).trans i1
   have j2 := (bq _).trans i2
   have j3 := (bq _).trans i3
   have j4 := (bq _).trans i4
   have nH := acD (U5.out i (List.mem_of_getElem? hi))
   have HST := acD (show cQ (i :: b.code.drop (j + 1)) r1 = cQ b.code r by
    have hl : j < b.code.length := by rw [HM.out]; exact hlt
    have e1 : b.code[j] = i := Option.some.inj ((List.getElem?_eq_getElem hl).symm.trans hi)
    have e2 : b.code.drop j = i :: b.code.drop (j + 1) := by rw [List.drop_eq_getElem_cons hl, e1]
    rw [← IK.out, e2])
   obtain ⟨op, ia, ic, id, im⟩ := i
   simp only at j0 j1 j2 j3 j4
   clear i0 i1 i2 i3 i4 hi bq
   have lq : q < wr.heap.size := by omega
   go_upto_region 5 with fail
   obtain ⟨Y, hY⟩ : ∃ Y, wr.alloc (.cells #[.int .u8 op, .int .i64 ia, .int .i64 ic, .int .i64 id, .int .i64 im] 64) = Y := ⟨_, rfl⟩
   rw [hY]
   have bY : Below wr.heap.size wr Y := hY ▸ (Below.refl _ _).alloc (Nat.le_refl _) _
   obtain ⟨z0, z1, z2, z3, z4, lY⟩ := aQ (show Y.heap[wr.heap.size]? = some (.cells #[.int .u8 op, .int .i64 ia, .int .i64 ic, .int .i64 id, .int .i64 im] 64 (0, 0)) from hY ▸ heap_alloc_new _ _)
   have KY := acD (KR.out.keep bY)
   have wj := acD KY.out.range
   have NU := acD (B0.out.trans ((HB.out.trans (bY.mono abo)).mono ab6))
   have nB := acD (show aH Y w.heap.size 56 aq from (((HB.out.trans (bY.mono abo)).block _ ab6).trans KZ.out))
   have j5 := acD (nK op ia ic id im nH.out r1 R1.out Y (HT.out.below NU.out))
   have OB := acD (HB.out.trans (bY.mono abo))
   have lV : V0.heap.size < Y.heap.size := KY.out.lt
   have lw : w.heap.size < Y.heap.size := nB.out.lt
   clear hY bY j0 j1 j2 j3 j4
   rcases ho : bT ⟨op, ia, ic, id, im⟩ r1 with _ | r2
   ·rw [ho] at j5
    have HN := acD (show cQ b.code r = none by rw [← HST.out]; simp only [cQ, ho])
    clear ho
    go_wp2_with (first | (refine wpList_load_mid rfl _ _ rfl _ _ rfl (aa r1) _ wj.out Tryz.underlying56 rfl (hi3 R1.out.len) ?_) | (go_at_call 12; refine j5.out.mono ?_; rintro e w1 ⟨rfl, hb1⟩; unfold cM) | (refine wpList_store_row rfl 56 (.tmp 6) (.tmp 33) rfl V0.heap.size (aa aq).toArray rfl rfl 56 _ (KY.out.keep hb1) (hi4 ak) (hi6 ak R1.out.len) (aj aq) ?_) | (refine wpList_store_row rfl 56 (.tmp 4) (.tmp 37) rfl w.heap.size acM.toArray rfl rfl 56 _ ((setRow_other _ _ _ _ ab6).trans (nB.out.keep hb1)) abp rfl abt ?_))
    refine bodyPost_ret (bg Tryz.results26 _ w.heap.size ak rfl (aH.row (r := aq) (z := aq) ((setRow_other _ _ _ _ ab6).trans (nB.out.keep hb1)))) rfl ⟨?_, ?_⟩
    ·rw [HR.out, HN.out]; rfl
    ·exact below_setRow (below_setRow (NU.out.trans (hb1.mono NU.out.size)) ab6 _) (Nat.le_refl _) _
   ·rw [ho] at j5
    have HN := acD (show cQ (b.code.drop (j + 1)) r2 = cQ b.code r by rw [← HST.out]; simp only [cQ, ho])
    have R2 := acD (gT nH.out R1.out ho)
    clear ho
    go_wp2_with (first | (refine wpList_load_mid rfl _ _ rfl _ _ rfl (aa r1) _ wj.out Tryz.underlying56 rfl (hi3 R1.out.len) ?_) | (go_at_call 12; refine j5.out.mono ?_; rintro e w1 ⟨rfl, hb1⟩; unfold cM) | (refine wpList_store_row rfl 56 (.tmp 6) (.tmp 33) rfl V0.heap.size (aa r2).toArray rfl rfl 56 _ (KY.out.keep hb1) (hi4 R2.out.len) (hi6 R2.out.len R1.out.len) (aj r2) ?_))
    go_roundw
    case rel => exact ⟨j + 1, r2, by omega, by go_num, by first | rfl | trivial, HN.out, R2.out, below_setRow (OB.out.trans (hb1.mono abo)) (Nat.le_refl _) _, aH.row (KY.out.keep hb1)⟩
    case measure => simp [intOf]; omega
  ·obtain rfl : j = m := by omega
   have dl : decide ((j : Int) < (j : Int)) = false := by simp
   have HN := acD (show cQ b.code r = some r1 by rw [← IK.out, ← HM.out, List.drop_length]; rfl)
   have wj := acD KR.out.range
   have Qx := acD (show aH wr w.heap.size 56 aq from ((HB.out.block _ ab6).trans KZ.out))
   go_wp2_with (first | (refine wpList_load_mid rfl _ _ rfl _ _ rfl (aa r1) _ wj.out Tryz.underlying56 rfl (hi3 R1.out.len) ?_) | (refine wpList_store_row rfl 56 (.tmp 4) (.tmp 39) rfl w.heap.size (aa r1).toArray rfl rfl 56 _ Qx.out (hi4 R1.out.len) (hi6 R1.out.len ak) (aj r1) ?_))
   refine bodyPost_ret (bg Tryz.results26 _ w.heap.size R1.out.len rfl (aH.row Qx.out)) rfl ⟨?_, ?_⟩
   ·rw [HR.out, HN.out]; rfl
   ·exact below_setRow (B0.out.trans (HB.out.mono B0.out.size)) (Nat.le_refl _) _
end
section
open Go.RowKit
def AK (r m : RG) : Prop := ∀ k : Int, Sub (rg r k) (rg m k)
theorem zm {r : RG} {k : Int} (h : r.length ≤ k.toNat) : rg r k = (0, 0) := by
 unfold rg
 simp [List.getD, List.getElem?_eq_none h]
theorem nN {r : RG} {k : Int} {x : Int × Int} (h0 : 0 ≤ k) (hl : k.toNat < r.length) (j : Int) (hj : 0 ≤ j) : rg (aW r k x) j = if k ≠ 0 ∧ j = k then x else rg r j := by
 unfold aW
 by_cases e : k = 0
 ·rw [if_pos e, if_neg abo]
 ·rw [if_neg e]
  unfold rg
  by_cases e2 : j = k
  ·subst e2
   rw [if_pos ⟨e, rfl⟩]
   simp [List.getD, hl]
  ·rw [if_neg abo]
   have : k.toNat ≠ j.toNat := by omega
   simp [List.getD, List.getElem?_set, this]
theorem FV {r : RG} {k : Int} (h : k < 0) : rg r k = rg r 0 := by
 unfold rg
 rw [show k.toNat = 0 by omega, show (0 : Int).toNat = 0 from rfl]
theorem AK.of {r m : RG} (h : ∀ k : Nat, k < 16 → Sub (rg r (k : Int)) (rg m (k : Int))) (hr : R16 r) (hm : R16 m) : AK r m := fun k => by
 by_cases h1 : k < 0
 ·rw [FV h1, FV h1]; exact h 0 abo
 ·by_cases h2 : k.toNat < 16
  ·have := h k.toNat h2
   rwa [show ((k.toNat : Nat) : Int) = k by omega] at this
  ·rw [zm acn, zm (by rw [hm.len]; omega)]
   exact .inr ⟨Int.le_refl _, Int.le_refl _⟩
theorem ey {r : RG} (hr : R16 r) (hp : aC r = true) (k : Int) : (rg r k).1 ≤ (rg r k).2 := by
 unfold aC at hp
 rw [Bool.and_eq_true] at hp
 by_cases h : k.toNat < r.length
 ·have e : rg r k = r[k.toNat] := by unfold rg; simp [List.getD, List.getElem?_eq_getElem h]
  have := List.all_eq_true.1 hp.1 _ (List.getElem_mem h)
  rw [e]
  simpa using this
 ·rw [zm abo]; simp
theorem kQ {r : RG} (hp : aC r = true) : rg r 0 = (0, 0) := by
 unfold aC at hp
 rw [Bool.and_eq_true] at hp
 simpa using hp.2
theorem oV {r : RG} (hr : R16 r) (h : ∀ k : Nat, k < 16 → (rg r (k : Int)).1 ≤ (rg r (k : Int)).2) (h0 : rg r 0 = (0, 0)) : aC r = true := by
 unfold aC
 rw [Bool.and_eq_true]
 refine ⟨List.all_eq_true.2 fun x hx => ?_, by simp [h0]⟩
 obtain ⟨i, hi, e⟩ := List.getElem_of_mem hx
 have h1 := h i (by rw [← hr.len]; exact hi)
 have e2 : rg r (i : Int) = r[i] := by unfold rg; simp [List.getD, List.getElem?_eq_getElem hi]
 rw [e2, e] at h1
 simpa using h1
theorem qx {r m : RG} (hr : R16 r) (hm : R16 m) {k : Nat} (hk : k < 16) : rg (bF r m) (k : Int) = bR (rg r (k : Int)) (rg m (k : Int)) := by
 have h1 : k < r.length := by rw [hr.len]; exact hk
 have h2 : k < m.length := by rw [hm.len]; exact hk
 unfold rg bF
 simp [List.getD, List.getElem?_zipWith, List.getElem?_eq_getElem h1, List.getElem?_eq_getElem h2]
theorem qY {r m : RG} (hr : R16 r) (hm : R16 m) {k : Nat} (hk : k < 16) : rg (dG r m) (k : Int) = aO (rg r (k : Int)) (rg m (k : Int)) := by
 have h1 : k < r.length := by rw [hr.len]; exact hk
 have h2 : k < m.length := by rw [hm.len]; exact hk
 unfold rg dG
 simp [List.getD, List.getElem?_zipWith, List.getElem?_eq_getElem h1, List.getElem?_eq_getElem h2]
theorem xF {r m : RG} (hr : R16 r) (hm : R16 m) : AK r (bF r m) := AK.of (fun k hk => by
 rw [qx hr hm hk]
 exact (within_iff _ _).1 (Dy _ _)) hr (hr.join hm)
theorem kT {r m : RG} (hr : R16 r) (hm : R16 m) (pr : aC r = true) (pm : aC m = true) : aC (bF r m) = true := by
 refine oV (hr.join hm) (fun k hk => ?_) ?_
 ·rw [qx hr hm hk]
  have h1 := ey hr pr (k : Int)
  have h2 := ey hm pm (k : Int)
  rcases rP (rg r (k : Int)) (rg m (k : Int)) with h | h | h | ⟨_, _, h⟩ <;> first | omega | (rw [h]; simp only; omega)
 ·have := qx hr hm (k := 0) abo
  rw [show ((0 : Nat) : Int) = 0 from rfl] at this
  rw [this, kQ pr, kQ pm]
  decide
theorem Jy : ∀ k, k < 30 → (di k).BK ≤ 15 ∧ (di k).BH ≤ 15 ∧ (di k).BF ≤ 15 ∧ -131072 ≤ kf k ∧ kj k ≤ 131071 := by decide
theorem nJ {i : aZ} (h0 : 0 ≤ i.op) (hv : aU i = true) : (0 ≤ i.a ∧ i.a ≤ 15) ∧ (0 ≤ i.b ∧ i.b ≤ 15) ∧ (0 ≤ i.c ∧ i.c ≤ 15) ∧ -131072 ≤ i.aS ∧ i.aS ≤ 131071 := by
 obtain ⟨k, g1, g2, ⟨a1, a2⟩, ⟨b1, b2⟩, ⟨c1, c2⟩, i1, i2⟩ := (cU (i := i) h0).1 hv
 obtain ⟨s1, s2, s3, s4, s5⟩ := Jy k g2
 omega
def Sl (v : List Int) (r : RG) : Prop := ∀ k : Nat, k < 16 → Mem (v.getD k 0) (rg r (k : Int))
theorem Sl.sub {v : List Int} {r m : RG} (h : Sl v r) (hs : AK r m) : Sl v m := fun k hk => by
 have h1 := h k hk
 have h2 := hs (k : Int)
 unfold Mem at *
 unfold Sub at h2
 omega
end
section
open Go.RowKit
theorem jR {w : World} {b : Nat} {l h : Int} {T : TypeId} (hb : w.heap[b]? = some (.cells #[.int .i32 l, .int .i32 h] T (0, 0))) : w.cell? ⟨b, 0, none⟩ = some (.int .i32 l) ∧ w.cell? ⟨b, 1, none⟩ = some (.int .i32 h) ∧ w.frozen? ⟨b, 0, none⟩ = false ∧ w.frozen? ⟨b, 1, none⟩ = false ∧ b < w.heap.size :=
 ⟨by simp [World.cell?, hb], by simp [World.cell?, hb], by simp [World.frozen?, hb], by simp [World.frozen?, hb], (Array.getElem?_eq_some_iff.1 hb).1⟩
end
section
open Go.RowKit
theorem dN (b : Nat) (T : TypeId) : ∀ (vs : List Value) (o : Nat) (w : World) (xs : List Value), w.heap[b]? = some (.cells xs.toArray T (0, 0)) → o + vs.length ≤ xs.length → (w.setCells b o vs).heap[b]? = some (.cells (xs.take o ++ vs ++ xs.drop (o + vs.length)).toArray T (0, 0))
 | [], o, w, xs, h, hl => by simpa [World.setCells] using h
 | v :: vs, o, w, xs, h, hl => by
  rw [World.setCells]
  simp only [List.length_cons] at hl
  have h1 : (w.setCell ⟨b, o, none⟩ v).heap[b]? = some (.cells (xs.set o v).toArray T (0, 0)) := by
   rw [heap_setCell_same w b o _ T _ h]; simp
  rw [dN b T vs (o + 1) _ _ h1 abA]
  congr 2
  have e1 : (xs.set o v).take (o + 1) = xs.take o ++ [v] := by
   apply List.ext_getElem?
   intro i
   rw [List.getElem?_take, List.getElem?_set]
   by_cases hi : i < o
   ·rw [if_pos abo, if_neg abo, List.getElem?_append_left acj, List.getElem?_take, if_pos hi]
   ·by_cases hi2 : i = o
    ·subst hi2
     rw [if_pos abo, if_pos rfl, if_pos abo, List.getElem?_append_right acj, List.length_take, Nat.min_eq_left abo]
     simp
    ·rw [if_neg abo, List.getElem?_eq_none]
     rw [List.length_append, List.length_take]; simp; omega
  have e2 : (xs.set o v).drop (o + 1 + vs.length) = xs.drop (o + (v :: vs).length) := by
   apply List.ext_getElem?
   intro i
   rw [List.getElem?_drop, List.getElem?_drop, List.getElem?_set, if_neg abo, List.length_cons]
   congr 1
   omega
  rw [e1, e2]
  simp
theorem aR (b : Nat) : ∀ (vs : List Value) (o : Nat) (w : World) (k : Nat), k ≠ b → (w.setCells b o vs).heap[k]? = w.heap[k]?
 | [], o, w, k, _ => rfl
 | v :: vs, o, w, k, h => by
  rw [World.setCells, aR b vs (o + 1) _ k h, Below.heap_setCell _ _ _ _ (by show k ≠ b; exact h)]
theorem ji (b : Nat) : ∀ (vs : List Value) (o : Nat) (w : World), (w.setCells b o vs).os = w.os ∧ (w.setCells b o vs).tape = w.tape ∧ (w.setCells b o vs).output = w.output ∧ (w.setCells b o vs).heap.size = w.heap.size
 | [], o, w => ⟨rfl, rfl, rfl, rfl⟩
 | v :: vs, o, w => by
  rw [World.setCells]
  obtain ⟨h1, h2, h3, h4⟩ := ji b vs (o + 1) (w.setCell ⟨b, o, none⟩ v)
  exact ⟨h1, h2, h3, h4.trans aby⟩
theorem Fr.setCells {S : Nat → Prop} {w w' : World} {b o : Nat} (h : Fr S w w') (vs : List Value) (hp : S b ∨ w.heap.size ≤ b) : Fr S w (w'.setCells b o vs) := by
 obtain ⟨h1, h2, h3, h4⟩ := ji b vs o w'
 refine ⟨h1.trans h.os, h2.trans h.tape, h3.trans h.output, by rw [h4]; exact h.size, fun k hk hn => ?_⟩
 rw [aR b vs o w' k (by rintro rfl; rcases hp with hp | hp; exact hn hp; omega)]
 exact h.block k hk hn
theorem oT {l : List Bool} {t : Nat} (v : Bool) : (l.map Value.bool).toArray.setIfInBounds t (.bool v) = ((l.set t v).map Value.bool).toArray := by
 simp [List.map_set]
theorem A9 {l : List Int} {t : Nat} (v : Int) : (l.map (Value.int .i64)).toArray.setIfInBounds t (.int .i64 v) = ((l.set t v).map (Value.int .i64)).toArray := by
 simp [List.map_set]
section
variable {V w w' : World} {ab cb rb ib pb : Nat} {bv pv : Value} {G : List dL} {B : List AB} {val : Nat → Value} {s : AS}
theorem An.there (h : An V w ab cb rb ib pb bv pv G B val s) {t : Nat} (ht : t < B.length) : w.there ib (t * 32) 32 := fun j hj => by
 have hl : t < s.bH.length := by rw [h.kH.l2]; exact ht
 have h1 := gz h.xC
 constructor
 ·have : t * 32 + j < (jk s.bH).length := by omega
  simp [World.cell?, h.eC, List.getElem?_eq_getElem this]
 ·simp [World.frozen?, h.eC]
theorem FU (h : ∀ r ∈ s.bH, r.length = 16) {t : Nat} (ht : t < s.bH.length) {r : RG} (hr : r.length = 16) (hi : w.heap[ib]? = some (.cells (jk s.bH).toArray 56 (0, 0))) :
  (w.setCells ib (t * 32) (aa r)).heap[ib]? = some (.cells (jk (s.bH.set t r)).toArray 56 (0, 0)) := by
 have h1 := gz h
 have hc : (aa r).length = 32 := by rw [ax, hr]
 rw [dN ib _ (aa r) (t * 32) w _ hi abo, hc, xe h ht hr]
theorem An.Lp (h : An V w ab cb rb ib pb bv pv G B val s) : s.bH.length = B.length := h.kH.l2
theorem An.first (h : An V w ab cb rb ib pb bv pv G B val s) (hf : Below w.heap.size w w') {t : Nat} (ht : t < B.length) {r : RG} (hr : R16 r) (hn : s.reach.getD t false = false) :
  An V ((w'.setCell ⟨rb, t, none⟩ (.bool true)).setCells ib (t * 32) (aa r)) ab cb rb ib pb bv pv G B val (cy s t (some r)).1 ∧ Fr (uh rb ib pb) w ((w'.setCell ⟨rb, t, none⟩ (.bool true)).setCells ib (t * 32) (aa r)) := by
 obtain ⟨-, -, -, -, -, -, n7, n8, n9⟩ := h.ne
 have h' := h.below hf
 have F : Fr (uh rb ib pb) w' ((w'.setCell ⟨rb, t, none⟩ (.bool true)).setCells ib (t * 32) (aa r)) := ((Fr.refl _ _).set _ (.inl (.inl rfl))).setCells _ (.inl (.inr (.inl rfl)))
 have ha := (gW h.kH ht (some r) (fun _ e => by cases e; exact hr)).1
 unfold cy at ha ⊢
 simp only [if_pos hn] at ha ⊢
 refine ⟨h'.to F ?_ ?_ ?_ ha, (Fr.of hf).trans F⟩
 ·rw [aR _ _ _ _ _ n7, heap_setCell_same _ _ _ _ _ _ h'.dZ, oT]
 ·exact FU h'.xC (by rw [h'.Lp]; exact ht) hr.len (by rw [Below.heap_setCell _ _ _ _ (by show ib ≠ rb; exact n7.symm)]; exact h'.eC)
 ·rw [aR _ _ _ _ _ n9.symm, Below.heap_setCell _ _ _ _ (by show pb ≠ rb; exact n8.symm)]; exact h'.cP
theorem An.again (h : An V w ab cb rb ib pb bv pv G B val s) (hf : Below w.heap.size w w') {t : Nat} (ht : t < B.length) {r : RG} (hr : R16 r) (hn : s.reach.getD t false = true) (hne : bF (s.bH.getD t []) r ≠ s.bH.getD t []) :
  An V ((w'.setCells ib (t * 32) (aa (if 2 ≤ s.rep.getD t 0 then dG (s.bH.getD t []) (bF (s.bH.getD t []) r) else bF (s.bH.getD t []) r))).setCell ⟨pb, t, none⟩ (.int .i64 (s.rep.getD t 0 + 1))) ab cb rb ib pb bv pv G B val (cy s t (some r)).1 ∧ Fr (uh rb ib pb) w ((w'.setCells ib (t * 32) (aa (if 2 ≤ s.rep.getD t 0 then dG (s.bH.getD t []) (bF (s.bH.getD t []) r) else bF (s.bH.getD t []) r))).setCell ⟨pb, t, none⟩ (.int .i64 (s.rep.getD t 0 + 1))) := by
 obtain ⟨-, -, -, -, -, -, n7, n8, n9⟩ := h.ne
 have h' := h.below hf
 have hg := h.kH.get ht
 have hj := hg.join hr
 have hnew : R16 (if 2 ≤ s.rep.getD t 0 then dG (s.bH.getD t []) (bF (s.bH.getD t []) r) else bF (s.bH.getD t []) r) := by split; exact hg.qF hj; exact hj
 have F : Fr (uh rb ib pb) w' ((w'.setCells ib (t * 32) (aa (if 2 ≤ s.rep.getD t 0 then dG (s.bH.getD t []) (bF (s.bH.getD t []) r) else bF (s.bH.getD t []) r))).setCell ⟨pb, t, none⟩ (.int .i64 (s.rep.getD t 0 + 1))) := ((Fr.refl _ _).setCells _ (.inl (.inr (.inl rfl)))).set _ (.inl (.inr (.inr rfl)))
 have ha := (gW h.kH ht (some r) (fun _ e => by cases e; exact hr)).1
 unfold cy at ha ⊢
 simp only [if_neg (show ¬ s.reach.getD t false = false by rw [hn]; simp), if_neg hne] at ha ⊢
 refine ⟨h'.to F ?_ ?_ ?_ ha, (Fr.of hf).trans F⟩
 ·rw [Below.heap_setCell _ _ _ _ (by show rb ≠ pb; exact n8), aR _ _ _ _ _ n7]; exact h'.dZ
 ·rw [Below.heap_setCell _ _ _ _ (by show ib ≠ pb; exact n9)]
  exact FU h'.xC (by rw [h'.Lp]; exact ht) hnew.len h'.eC
 ·rw [heap_setCell_same _ _ _ _ _ _ ((aR _ _ _ _ _ n9.symm).trans h'.cP), A9]
end
end
section
open Go.RowKit
theorem pR (cv ev : Value) (sh lk : Int) (n : Nat) (cd : Nat → Int) (pc : Nat) (VZ : pc < n) (hd : (cx (cd pc)).2 = 0) (w : World) (T : iU w) (HW : Words w cv n cd) :
  Calls Tryz.prog 24 #[.agg #[cv, ev, .int .i64 sh, .int .i64 lk], .int .i64 (pc : Int)] w fun e w' => e = .returned (.tuple #[(aA cd (pc : Int)).val, .bool true]) ∧ Below w.heap.size w w' := by
 obtain ⟨A, cap, rfl, hc1, hc2, hc3⟩ := HW.at_
 obtain ⟨b, off, rfl, hb, hc⟩ := hc3 abo
 have hwd := HW.wd pc VZ
 have hn6 := HW.le
 have hcell := hc pc VZ
 have hcap := fX hc2
 obtain ⟨x, hx⟩ : ∃ x, cd pc = x := ⟨_, rfl⟩
 rw [hx] at hwd hcell hd
 obtain ⟨V, hV, k0, k1, bV, sV⟩ : ∃ V, (w.alloc (.cells #[.slice (some ⟨b, off, none⟩) n cap, ev, .int .i64 sh, .int .i64 lk] 25)).alloc (.cells #[.int .u8 0, .int .i64 0, .int .i64 0, .int .i64 0, .int .i64 0] 64) = V ∧ V.heap[w.heap.size]? = some (.cells #[.slice (some ⟨b, off, none⟩) n cap, ev, .int .i64 sh, .int .i64 lk] 25 (0, 0)) ∧ V.heap[w.heap.size + 1]? = some (.cells #[.int .u8 0, .int .i64 0, .int .i64 0, .int .i64 0, .int .i64 0] 64 (0, 0)) ∧ Below w.heap.size w V ∧ V.heap.size = w.heap.size + 1 + 1 := by
  refine ⟨_, rfl, ?_, bB _ _ aby, ((Below.refl _ _).alloc (Nat.le_refl _) _).alloc aby _, by simp⟩
  rw [heap_alloc_old _ _ aby]; exact heap_alloc_new _ _
 have v0 : V.cell? ⟨w.heap.size, 0, none⟩ = some (.slice (some ⟨b, off, none⟩) n cap) := by simp [World.cell?, k0]
 have l0 : w.heap.size < V.heap.size := by omega
 have lb : b < V.heap.size := by omega
 have vx : V.cell? ⟨b, off + pc, none⟩ = some (.int .u32 x) := (bV.cell (p := ⟨b, off + pc, none⟩) hb).trans hcell
 have dp : decide ((pc : Int) < 0) = false := decide_eq_false abo
 have dn : decide ((n : Int) ≤ (pc : Int)) = false := decide_eq_false abo
 have dn2 : (pc : Int) < (n : Int) := by omega
 obtain ⟨op, a, b', c, im, hi⟩ : ∃ op a b c im, (cx x).1 = ⟨op, a, b, c, im⟩ := ⟨_, _, _, _, _, rfl⟩
 have HD := acD (show Calls Tryz.prog 62 #[.int .u32 x] V fun e w' => e = .returned (.tuple #[.agg #[.int .u8 op, .int .i64 a, .int .i64 b', .int .i64 c, .int .i64 im], .int .i64 0]) ∧ Below V.heap.size V w' from by
  have := ng x hwd.1 hwd.2 V (T.below bV)
  rw [hd, hi] at this
  exact this)
 have HI := acD (show aA cd (pc : Int) = ⟨op, a, b', c, im⟩ by unfold aA; rw [show ((pc : Int)).toNat = pc by omega, hx]; exact hi)
 have BV := acD bV
 have K1 := acD k1
 have SV := acD sV
 clear hc hc3 hx hd hi bV k0 k1 sV hcell HW hc2 hb
 go_enter Tryz.func24, Tryz.ntmps24
 go_upto_region 4 with (first | (go_at_call 62; refine HD.out.mono ?_; rintro e w1 ⟨rfl, hb1⟩))
 obtain ⟨Y, hY⟩ : ∃ Y, w1.alloc (.cells #[.int .u8 op, .int .i64 a, .int .i64 b', .int .i64 c, .int .i64 im] 64) = Y := ⟨_, rfl⟩
 rw [hY]
 have bY : Below w1.heap.size w1 Y := hY ▸ (Below.refl _ _).alloc (Nat.le_refl _) _
 obtain ⟨z0, z1, z2, z3, z4, lY⟩ := aQ (show Y.heap[w1.heap.size]? = some (.cells #[.int .u8 op, .int .i64 a, .int .i64 b', .int .i64 c, .int .i64 im] 64 (0, 0)) from hY ▸ heap_alloc_new _ _)
 have Ux : Below V.heap.size V Y := hb1.trans (bY.mono hb1.size)
 have KY : Y.heap[w.heap.size + 1]? = some (.cells #[.int .u8 0, .int .i64 0, .int .i64 0, .int .i64 0, .int .i64 0] 64 (0, 0)) := (Ux.block _ ach).trans K1.out
 have lO : w.heap.size + 1 < Y.heap.size := (Array.getElem?_eq_some_iff.1 KY).1
 have Xd := acD KY
 have BY := acD (BV.out.trans (Ux.mono BV.out.size))
 clear hY bY Ux KY hb1 hV vx v0
 go_wp2_with (refine wpList_store_row rfl 64 (.tmp 4) (.tmp 27) rfl (w.heap.size + 1) #[.int .u8 op, .int .i64 a, .int .i64 b', .int .i64 c, .int .i64 im] rfl rfl 64 _ Xd.out abp rfl abt ?_)
 rw [HI.out]
 refine bodyPost_ret (results_cell_tmp (P := Tryz.prog) Tryz.results24 _ _ (w.heap.size + 1) [.int .u8 op, .int .i64 a, .int .i64 b', .int .i64 c, .int .i64 im] _ rfl (au (setRow_heap _ _ _ _ _ _ Xd.out)) Tryz.underlying64 rfl abp) rfl ⟨rfl, below_setRow BY.out abo _⟩
end
section
open Go.RowKit
theorem nZ {z : Array Value} {m k : Nat} (hk : z.size = k) (h0 : 0 < k) {xs : List Value} (hl : xs.length = m * k) (hx : ∀ i j, i < m → j < k → xs[i * k + j]? = z[j]?) : madeCells z (m * k) = xs.toArray := by
 apply Array.ext
 ·simp [madeCells, hl]
 ·intro q h1 h2
  have hq : q < m * k := by simpa [hl] using h2
  have h3 : q / k < m := (Nat.div_lt_iff_lt_mul h0).2 hq
  have h4 : q % k < k := Nat.mod_lt _ h0
  have e : q / k * k + q % k = q := by rw [Nat.mul_comm]; exact Nat.div_add_mod q k
  have h5 := hx (q / k) (q % k) h3 h4
  rw [e] at h5
  have h6 : xs[q]? = some xs[q] := List.getElem?_eq_getElem (by simpa using h2)
  rw [h6] at h5
  simp only [madeCells, Array.getElem_map, Array.getElem_range, acE, hk]
  simp only [getElem!_def, ← h5]
theorem Lm (n : Nat) : madeCells #[.bool false] (n * 1) = ((List.replicate n false).map Value.bool).toArray :=
 nZ (k := 1) rfl abr aby (fun i j hi hj => by
  have e : j = 0 := by omega
  subst e
  simp [hi])
theorem Ll (n : Nat) : madeCells #[.int .i64 0] (n * 1) = ((List.replicate n (0 : Int)).map (Value.int .i64)).toArray :=
 nZ (k := 1) rfl abr aby (fun i j hi hj => by
  have e : j = 0 := by omega
  subst e
  simp [hi])
theorem OZ (n : Nat) : madeCells #[.slice none 0 0] (n * 1) = ((List.range n).map fun _ => Value.slice none 0 0).toArray :=
 nZ (k := 1) rfl abr aby (fun i j hi hj => by
  have e : j = 0 := by omega
  subst e
  simp [hi])
theorem Lj (n : Nat) : madeCells (aa aq).toArray (n * 32) = (jk (List.replicate n aq)).toArray := by
 have h16 : ∀ r ∈ List.replicate n aq, r.length = 16 := fun r hr => by rw [(List.mem_replicate.1 hr).2]; rfl
 refine nZ (by rw [List.size_toArray, ax]; rfl) abo (by rw [gz h16]; simp) (fun i j hi hj => ?_)
 rw [iY h16 (r := aq) (by simp [hi]) j hj]
 simp
structure CM (V wr : World) (ab cb rb ib pb n : Nat) (bv pv : Value) (val : Nat → Value) (gI : Nat → List aZ) : Prop where
 aF : Below V.heap.size V wr
 aV : V.heap.size ≤ ab
 rV : V.heap.size ≤ rb
 iV : V.heap.size ≤ ib
 pV : V.heap.size ≤ pb
 head : wr.heap[ab]? = some (.cells #[bv, pv, .slice (some ⟨cb, 0, none⟩) n n, .slice (some ⟨rb, 0, none⟩) n n, .slice (some ⟨ib, 0, none⟩) n n, .slice (some ⟨pb, 0, none⟩) n n] 84 (0, 0))
 lu : wr.ownsRow V.heap.size 50 1 (.slice (some ⟨cb, 0, none⟩) n n) n ((List.range n).map fun i => val i)
 own : ∀ (i : Nat), i < n → wr.ownsRow V.heap.size 64 5 (val i) (gI i).length (eX (gI i))
 Bz : ∀ (i j : Nat), i < n → j < n → i ≠ j → ∀ q, (val i).ownBlock = some q → (val j).ownBlock ≠ some q
 dZ : wr.heap[rb]? = some (.cells ((List.replicate n false).map Value.bool).toArray 4 (0, 0))
 eC : wr.heap[ib]? = some (.cells (jk (List.replicate n aq)).toArray 56 (0, 0))
 cP : wr.heap[pb]? = some (.cells ((List.replicate n (0 : Int)).map (Value.int .i64)).toArray 3 (0, 0))
section
variable {V wr : World} {ab cb rb ib pb n : Nat} {bv pv : Value} {val : Nat → Value} {gI : Nat → List aZ}
theorem CM.lt (h : CM V wr ab cb rb ib pb n bv pv val gI) : ab < wr.heap.size ∧ cb < wr.heap.size ∧ rb < wr.heap.size ∧ ib < wr.heap.size ∧ pb < wr.heap.size :=
 ⟨ag h.head, (h.lu.lt cb rfl).2, ag h.dZ, ag h.eC, ag h.cP⟩
theorem CM.below {wr' : World} (h : CM V wr ab cb rb ib pb n bv pv val gI) (hb : Below wr.heap.size wr wr') : CM V wr' ab cb rb ib pb n bv pv val gI := by
 obtain ⟨l1, l2, l3, l4, l5⟩ := h.lt
 exact ⟨h.aF.trans (hb.mono h.aF.size), h.aV, h.rV, h.iV, h.pV, (hb.block _ l1).trans h.head, bk h.lu hb, fun i hi => bk (h.own i hi) hb, h.Bz, (hb.block _ l3).trans h.dZ, (hb.block _ l4).trans h.eC, (hb.block _ l5).trans h.cP⟩
theorem CM.cells (h : CM V wr ab cb rb ib pb n bv pv val gI) : wr.cell? ⟨ab, 2, none⟩ = some (.slice (some ⟨cb, 0, none⟩) n n) ∧ wr.cell? ⟨ab, 3, none⟩ = some (.slice (some ⟨rb, 0, none⟩) n n) ∧ wr.cell? ⟨ab, 4, none⟩ = some (.slice (some ⟨ib, 0, none⟩) n n) := by
 refine ⟨?_, ?_, ?_⟩ <;> simp [World.cell?, h.head]
theorem CM.at_ (h : CM V wr ab cb rb ib pb n bv pv val gI) {i : Nat} (hi : i < n) : wr.cell? ⟨cb, i, none⟩ = some (val i) ∧ wr.frozen? ⟨cb, i, none⟩ = false :=
 ⟨by rw [h.lu.cellAt _ abo, List.getElem?_map, List.getElem?_range hi]; rfl, h.lu.frozenAt _⟩
theorem CM.C7 (h : CM V wr ab cb rb ib pb n bv pv val gI) {i : Nat} (hi : i < n) : ∀ q, (val i).ownBlock = some q → V.heap.size ≤ q ∧ q ≠ ab ∧ q ≠ cb ∧ q ≠ rb ∧ q ≠ ib ∧ q ≠ pb := fun q hq => by
 have oi := h.own i hi
 obtain ⟨cs, hc⟩ := dW oi hq
 exact ⟨(oi.lt q hq).1, aL hc h.head abr, fun e => fB oi h.lu abr q hq acg, aL hc h.dZ abr, aL hc h.eC abr, aL hc h.cP abr⟩
theorem CM.WS (h : CM V wr ab cb rb ib pb n bv pv val gI) : ab ≠ cb ∧ rb ≠ cb ∧ ib ≠ cb ∧ pb ≠ cb := by
 obtain ⟨cs, hc⟩ := dW h.lu (q := cb) rfl
 exact ⟨aL h.head hc abr, aL h.dZ hc abr, aL h.eC hc abr, aL h.cP hc abr⟩
theorem CM.app {w2 W' : World} {i : Nat} {y : aZ} {v' : Value} (h : CM V wr ab cb rb ib pb n bv pv val gI) (hi : i < n) (hb : Below wr.heap.size wr w2) (hg : w2.grownBy W' (val i).ownBlock)
  (hown : W'.ownsRow V.heap.size 64 5 v' ((gI i).length + 1) (eX (gI i ++ [y]))) (qC : v'.ownBlock = (val i).ownBlock ∨ v'.ownBlock = some w2.heap.size) :
  CM V (W'.setCell ⟨cb, i, none⟩ v') ab cb rb ib pb n bv pv (upd val i v') (upd gI i (gI i ++ [y])) := by
 have G := grown_of hb hg
 have S := dJ W' cb i v'
 obtain ⟨l1, l2, l3, l4, l5⟩ := h.lt
 obtain ⟨c1, c2, c3, c4⟩ := h.WS
 have DV := G.size
 have T4 := h.aF.size
 have p1 := (h.lu.lt cb rfl).1
 have oi := h.own i hi
 have ob := h.C7 hi
 have same : ∀ k, k < wr.heap.size → k ≠ cb → (∀ q, (val i).ownBlock = some q → k ≠ q) → (W'.setCell ⟨cb, i, none⟩ v').heap[k]? = wr.heap[k]? := fun k hk hkc YW => by
  rw [Below.heap_setCell _ _ _ _ (by show k ≠ cb; exact hkc)]
  exact G.block k hk (fun e => YW k e.symm rfl)
 have p' : W'.ownsRow V.heap.size 50 1 (.slice (some ⟨cb, 0, none⟩) n n) n ((List.range n).map fun i => val i) := h.lu.kept G (.inr (fun e' => (ob cb e'.symm).2.2.1 rfl))
 have xx : ∀ q, v'.ownBlock = some q → q ≠ cb := fun q hq e => fB hown p' abr q hq acg
 refine ⟨?_, h.aV, h.rV, h.iV, h.pV, (same ab l1 c1 (fun q hq => (ob q hq).2.1.symm)).trans h.head, ?_, fun j hj => ?_, fun a c ha hc hac q hq => ?_, (same rb l3 c2 (fun q hq => (ob q hq).2.2.2.1.symm)).trans h.dZ, (same ib l4 c3 (fun q hq => (ob q hq).2.2.2.2.1.symm)).trans h.eC, (same pb l5 c4 (fun q hq => (ob q hq).2.2.2.2.2.symm)).trans h.cP⟩
 ·exact ((h.aF.grown G T4 (fun k hk => (ob k hk).1)).grown S abo (fun k hk => by cases hk; exact p1))
 ·rw [← rD n val hi v']
  exact (p'.stored i v').1
 ·unfold upd
  by_cases e : j = i
  ·subst e
   rw [if_pos rfl, if_pos rfl]
   rw [show (gI j ++ [y]).length = (gI j).length + 1 by simp]
   exact hown.kept S (by
    cases hv : v'.ownBlock with
    | none => exact .inl rfl
    | some q => exact .inr (fun e' => xx q hv (by simpa using e')))
  ·rw [if_neg e, if_neg e]
   refine ((h.own j hj).kept G ?_).kept S ?_
   ·cases hv : (val j).ownBlock with
    | none => exact .inl rfl
    | some q => exact .inr (fun e' => h.Bz i j hi hj (fun e2 => e e2.symm) q e'.symm hv)
   ·cases hv : (val j).ownBlock with
    | none => exact .inl rfl
    | some q =>
     refine .inr (fun e' => ?_)
     have N8 : q = cb := by simpa using e'
     exact fB (h.own j hj) h.lu abr q hv (by rw [N8]; rfl)
 ·have new : ∀ a, a < n → a ≠ i → ∀ q, v'.ownBlock = some q → (val a).ownBlock ≠ some q := fun a ha hai q hq hq2 => by
   rcases qC with h1 | h1
   ·rw [h1] at hq
    exact h.Bz i a hi ha (fun e => hai e.symm) q hq hq2
   ·rw [h1] at hq
    cases hq
    have := ((h.own a ha).lt _ hq2).2
    have := hb.size
    omega
  unfold upd at hq ⊢
  by_cases e1 : a = i
  ·rw [if_pos e1] at hq
   rw [if_neg (fun e => hac (e1.trans e.symm))]
   exact new c hc (fun e => hac (e1.trans e.symm)) q hq
  ·rw [if_neg e1] at hq
   by_cases e2 : c = i
   ·rw [if_pos e2]
    exact fun hq2 => new a ha e1 q hq2 hq
   ·rw [if_neg e2]
    exact h.Bz a c ha hc hac q hq
theorem CM.start {B : List AB} {G : List dL} (h : CM V wr ab cb rb ib pb n bv pv val gI) (hB : gh V bv G) (hl : B.length = n) (hG : G.length = n) (h0 : 0 < n) (hn : n ≤ 1000000) (gQ : ∀ (k : Nat) (x : dL) (b : AB), G[k]? = some x → B[k]? = some b → x.nx = b.nx) (hc : ∀ (k : Nat) (b : AB), B[k]? = some b → gI k = b.code) :
  An V (wr.setCell ⟨rb, 0, none⟩ (.bool true)) ab cb rb ib pb bv pv G B val (ct n) := by
 subst hl
 obtain ⟨c1, c2, c3, c4⟩ := h.WS
 have n1 := aL h.head h.dZ abr
 have n2 := aL h.dZ h.eC abr
 have n3 := aL h.dZ h.cP abr
 have S := dJ wr rb 0 (.bool true)
 refine ⟨h.aF.grown S h.aF.size (fun k hk => by cases hk; exact h.rV), hB, hG, gQ, hn, h.aV, h.rV, h.iV, h.pV, ?_, ?_, fun k b hk => ?_, ?_, ?_, ?_, qP _⟩
 ·rw [Below.heap_setCell _ _ _ _ (by show ab ≠ rb; exact n1)]; exact h.head
 ·exact h.lu.kept S (.inr (by simp [Value.ownBlock]; exact fun e => c2 e.symm))
 ·have pF := (List.getElem?_eq_some_iff.1 hk).1
  have ho := h.own k pF
  rw [hc k b hk] at ho
  refine ho.kept S ?_
  cases hv : (val k).ownBlock with
  | none => exact .inl rfl
  | some q => exact .inr (fun e' => (h.C7 pF q hv).2.2.2.1 (by simpa using e'))
 ·rw [heap_setCell_same _ _ _ _ _ _ h.dZ, oT]
  rfl
 ·rw [Below.heap_setCell _ _ _ _ (by show ib ≠ rb; exact n2.symm)]; exact h.eC
 ·rw [Below.heap_setCell _ _ _ _ (by show pb ≠ rb; exact n3.symm)]; exact h.cP
end
end
section
open Go.RowKit
def oD (w : World) (rv iv : Value) (rl : List Bool) (il : List RG) : Prop :=
 (∃ A cap, rv = .slice A rl.length cap ∧ rl.length ≤ cap ∧ cap ≤ maxLen ∧ (0 < rl.length → ∃ q off, A = some ⟨q, off, none⟩ ∧ q < w.heap.size ∧ ∀ k, k < rl.length → w.cell? ⟨q, off + k, none⟩ = some (.bool (rl.getD k false)))) ∧
 (∃ A cap, iv = .slice A il.length cap ∧ il.length ≤ cap ∧ cap ≤ maxLen ∧ (0 < il.length → ∃ q off, A = some ⟨q, off, none⟩ ∧ q < w.heap.size ∧ ∀ k, k < il.length → w.rangeAt q (off + k * 32) (aa (il.getD k []))))
theorem oD.below {w w' : World} {rv iv : Value} {rl : List Bool} {il : List RG} (h : oD w rv iv rl il) (hb : Below w.heap.size w w') : oD w' rv iv rl il := by
 obtain ⟨⟨A, cap, e1, e2, e3, e4⟩, ⟨A', cap', f1, f2, f3, f4⟩⟩ := h
 refine ⟨⟨A, cap, e1, e2, e3, fun h0 => ?_⟩, ⟨A', cap', f1, f2, f3, fun h0 => ?_⟩⟩
 ·obtain ⟨q, off, ha, hq, hc⟩ := e4 h0
  exact ⟨q, off, ha, by have := hb.size; omega, fun k hk => (hb.cell (p := ⟨q, off + k, none⟩) hq).trans (hc k hk)⟩
 ·obtain ⟨q, off, ha, hq, hc⟩ := f4 h0
  exact ⟨q, off, ha, by have := hb.size; omega, fun k hk j v hv => (hb.cell (p := ⟨q, off + k * 32 + j, none⟩) hq).trans (hc k hk j v hv)⟩
def codeFrom (cd : Nat → Int) (lo : Int) (m : Nat) : List aZ := (List.range m).map fun i : Nat => aA cd (lo + (i : Int))
theorem gm (cd : Nat → Int) (lo : Int) (m : Nat) : codeFrom cd lo (m + 1) = codeFrom cd lo m ++ [aA cd (lo + m)] := by
 unfold codeFrom
 rw [List.range_succ, List.map_append]
 rfl
theorem oz (cd : Nat → Int) (lo : Int) (a : Nat) : ∀ b, codeFrom cd lo (a + b) = codeFrom cd lo a ++ codeFrom cd (lo + a) b
 | 0 => by simp [codeFrom]
 | b + 1 => by
  rw [← Nat.add_assoc, gm, oz cd lo a b, gm, List.append_assoc]
  congr 4
  omega
theorem iX : ∀ (l l' : List aZ) (r : RG), cQ (l ++ l') r = match cQ l r with | none => none | some r' => cQ l' r'
 | [], l', r => rfl
 | i :: l, l', r => by
  simp only [List.cons_append, cQ]
  cases bT i r with
  | none => rfl
  | some r' => exact iX l l' r'
def sO (cd : Nat → Int) (G : List dL) (rl : List Bool) (il : List RG) (pc : Int) : Option RG :=
 if rl.length = G.length ∧ il.length = G.length then
  match ku G pc with
  | none => none
  | some k => if rl.getD k false = true then cQ (codeFrom cd (G.getD k ⟨0, 0, []⟩).lo (pc - (G.getD k ⟨0, 0, []⟩).lo).toNat) (il.getD k []) else none
 else none
theorem Hv {G : List dL} {pc : Int} {k : Nat} (h : ku G pc = some k) : ∃ x, G[k]? = some x ∧ x.lo ≤ pc ∧ pc < x.hi := by
 unfold ku at h
 rw [List.findIdx?_eq_some_iff_getElem] at h
 obtain ⟨hk, h1, _⟩ := h
 refine ⟨G[k], List.getElem?_eq_getElem hk, ?_⟩
 exact of_decide_eq_true (p := JV pc G[k]) h1
theorem zO {w : World} {G : Nat} {bv pv rv iv dv cv ev : Value} {sh lk : Int} : ∃ V, ((((w.alloc (.cells #[cv, ev, .int .i64 sh, .int .i64 lk] 25)).alloc (.cells #[bv, pv] 30)).alloc (.cells #[rv, iv, dv] 42)).alloc (.cells acM.toArray 56)) = V ∧ V.heap[w.heap.size]? = some (.cells #[cv, ev, .int .i64 sh, .int .i64 lk] 25 (0, 0)) ∧ V.heap[w.heap.size + 1]? = some (.cells #[bv, pv] 30 (0, 0)) ∧ V.heap[w.heap.size + 1 + 1]? = some (.cells #[rv, iv, dv] 42 (0, 0)) ∧ aH V (w.heap.size + 1 + 1 + 1) 56 aq ∧ Below w.heap.size w V ∧ V.heap.size = w.heap.size + 1 + 1 + 1 + 1 := by
 obtain ⟨V, e, h0, h1, h2, h3, hb, hs⟩ := r8 w #[cv, ev, .int .i64 sh, .int .i64 lk] #[bv, pv] #[rv, iv, dv] acM.toArray 25 30 42 56
 exact ⟨V, e, h0, h1, h2, h3, hb, by rw [← e]; simp⟩
theorem Az (cv ev bv pv rv iv dv : Value) (sh lk : Int) (n : Nat) (cd : Nat → Int) (G : List dL) (rl : List Bool) (il : List RG) (pc : Int) (w : World) (T : iU w) (HW : Words w cv n cd) (HG : gh w bv G) (HR : oD w rv iv rl il)
  (hl : ∀ r ∈ il, R16 r) (hok : ∀ x ∈ G, 0 ≤ x.lo ∧ ∀ a : Nat, x.lo ≤ (a : Int) → (a : Int) < x.hi → a < n ∧ (cx (cd a)).2 = 0 ∧ 0 ≤ (aA cd (a : Int)).op) :
  Calls Tryz.prog 21 #[.agg #[cv, ev, .int .i64 sh, .int .i64 lk], .agg #[bv, pv], .agg #[rv, iv, dv], .int .i64 pc] w fun e w' => e = .returned (cM (sO cd G rl il pc)) ∧ Below w.heap.size w w' := by
 have E9 := acD (fun (w' : World) (hb : Below w.heap.size w w') => Ev bv pv G pc w' (HG.below hb))
 have AO := acD HW
 have HT := acD T
 have HRH := acD HR
 have Ox := acD HG
 have HL := acD hl
 have qp := acD hok
 obtain ⟨RA, vG, JY, r2, r3, r4⟩ := HR.1
 obtain ⟨IA, vS, hiv, i2, i3, i4⟩ := HR.2
 have r3' := fX r3
 have Tr := fX i3
 obtain ⟨GA, cj, nG, g2, g3, g4⟩ := id HG
 have Zr := fX g3
 obtain ⟨V, hV, k0, k1, k2, kz, bV, sV⟩ := zO (w := w) (G := 0) (bv := bv) (pv := pv) (rv := rv) (iv := iv) (dv := dv) (cv := cv) (ev := ev) (sh := sh) (lk := lk)
 have a0 : V.cell? ⟨w.heap.size, 0, none⟩ = some cv := by simp [World.cell?, k0]
 have a1 : V.cell? ⟨w.heap.size, 1, none⟩ = some ev := by simp [World.cell?, k0]
 have a2 : V.cell? ⟨w.heap.size, 2, none⟩ = some (.int .i64 sh) := by simp [World.cell?, k0]
 have a3 : V.cell? ⟨w.heap.size, 3, none⟩ = some (.int .i64 lk) := by simp [World.cell?, k0]
 have b0 : V.cell? ⟨w.heap.size + 1, 0, none⟩ = some bv := by simp [World.cell?, k1]
 have b1 : V.cell? ⟨w.heap.size + 1, 1, none⟩ = some pv := by simp [World.cell?, k1]
 have c0 : V.cell? ⟨w.heap.size + 1 + 1, 0, none⟩ = some rv := by simp [World.cell?, k2]
 have c1 : V.cell? ⟨w.heap.size + 1 + 1, 1, none⟩ = some iv := by simp [World.cell?, k2]
 have l0 : w.heap.size < V.heap.size := by omega
 have l1 : w.heap.size + 1 < V.heap.size := by omega
 have l2 : w.heap.size + 1 + 1 < V.heap.size := by omega
 have KZ := acD kz
 have BV := acD bV
 have SV := acD sV
 have UD := acD kz
 obtain ⟨gn, hgn⟩ : ∃ m, G.length = m := ⟨_, rfl⟩
 obtain ⟨rn, I6⟩ : ∃ m, rl.length = m := ⟨_, rfl⟩
 obtain ⟨bH, hin⟩ : ∃ m, il.length = m := ⟨_, rfl⟩
 rw [hgn] at nG g2
 rw [I6] at JY r2
 rw [hin] at hiv i2
 subst nG JY hiv
 have oL := acD hgn
 have ud := acD I6
 have tI := acD hin
 have yH := acD r4
 have wC := acD i4
 have wD := acD g4
 clear HW T HR hl hok r4 i4 g4 HG hgn I6 hin k0 k1 k2 kz bV
 by_cases hlen : rn = gn ∧ bH = gn
 case neg =>
  have HB := acD (show sO cd G rl il pc = none by unfold sO; rw [oL.out, ud.out, tI.out, if_neg hlen])
  by_cases h1 : rn = gn
  ·have d1 : ((rn : Int) != (gn : Int)) = false := by simp; omega
   have d2 : ((bH : Int) != (gn : Int)) = true := by simp; omega
   clear hlen h1
   go_enter Tryz.func21, Tryz.ntmps21
   go_wp2_with (refine wpList_store_row rfl 56 (.tmp 8) (.tmp 32) rfl (w.heap.size + 1 + 1 + 1) acM.toArray rfl rfl 56 _ UD.out abp rfl abt ?_)
   refine bodyPost_ret (bg Tryz.results21 _ (w.heap.size + 1 + 1 + 1) ak rfl (aH.row (r := aq) KZ.out)) rfl ⟨?_, below_setRow BV.out abo _⟩
   rw [HB.out]; rfl
  ·have d1 : ((rn : Int) != (gn : Int)) = true := by simp; omega
   clear hlen h1
   go_enter Tryz.func21, Tryz.ntmps21
   go_wp2_with (refine wpList_store_row rfl 56 (.tmp 8) (.tmp 32) rfl (w.heap.size + 1 + 1 + 1) acM.toArray rfl rfl 56 _ UD.out abp rfl abt ?_)
   refine bodyPost_ret (bg Tryz.results21 _ (w.heap.size + 1 + 1 + 1) ak rfl (aH.row (r := aq) KZ.out)) rfl ⟨?_, below_setRow BV.out abo _⟩
   rw [HB.out]; rfl
 obtain ⟨e1, e2⟩ := hlen
 have HE := acD (And.intro e1 e2)
 subst e1
 subst e2
 have d1 : ((bH : Int) != (bH : Int)) = false := by simp
 have I1 := acD (show sO cd G rl il pc = match ku G pc with
  | none => none
  | some k => if rl.getD k false = true then cQ (codeFrom cd (G.getD k ⟨0, 0, []⟩).lo (pc - (G.getD k ⟨0, 0, []⟩).lo).toNat) (il.getD k []) else none by unfold sO; rw [oL.out, ud.out, tI.out, if_pos ⟨rfl, rfl⟩])
 have AX := acD (E9.out V BV.out)
 clear E9
 rcases hf : ku G pc with _ | k
 ·rw [hf] at AX I1
  simp only [Option.getD_none, Option.isSome_none] at AX
  clear hf
  go_enter Tryz.func21, Tryz.ntmps21
  go_wp2_with (first | (go_at_call 59; refine AX.out.mono ?_; rintro e w1 ⟨rfl, hb1⟩) | (refine wpList_store_row rfl 56 (.tmp 8) (.tmp 58) rfl (w.heap.size + 1 + 1 + 1) acM.toArray rfl rfl 56 _ (UD.out.keep hb1) abp rfl abt ?_))
  refine bodyPost_ret (bg Tryz.results21 _ (w.heap.size + 1 + 1 + 1) ak rfl (aH.row (r := aq) (KZ.out.keep hb1))) rfl ⟨?_, below_setRow (BV.out.trans (hb1.mono BV.out.size)) abo _⟩
  rw [I1.out]; rfl
 rw [hf] at AX I1
 simp only [Option.getD_some, Option.isSome_some] at AX I1
 obtain ⟨x, hx, hx1, hx2⟩ := Hv hf
 have pF := (List.getElem?_eq_some_iff.1 hx).1
 rw [oL.out] at pF
 rw [show G.getD k ⟨0, 0, []⟩ = x by simp [List.getD, hx]] at I1
 obtain ⟨rq, JC, rfl, Rp, rc⟩ := yH.out (by rw [ud.out]; omega)
 obtain ⟨iq, O8, rfl, Tq, ic⟩ := wC.out (by rw [tI.out]; omega)
 obtain ⟨gq, pG, rfl, Kh, gc⟩ := wD.out (by rw [oL.out]; omega)
 have Td := rc k (by rw [ud.out]; exact pF)
 have VN := ic k (by rw [tI.out]; exact pF)
 obtain ⟨WO, -⟩ := gc k x hx
 obtain ⟨rb, hrb⟩ : ∃ rb, rl.getD k false = rb := ⟨_, rfl⟩
 obtain ⟨r, hr⟩ : ∃ r, il.getD k [] = r := ⟨_, rfl⟩
 have r16 : R16 r := by
  rw [← hr]
  have V9 : k < il.length := by rw [tI.out]; exact pF
  rw [show il.getD k [] = il[k] by simp [List.getD, List.getElem?_eq_getElem V9]]
  exact HL.out _ (List.getElem_mem V9)
 rw [hrb] at Td I1
 rw [hr] at VN I1
 have dk1 : ((k : Int) < 0) = False := by simp
 have dk2 : decide ((bH : Int) ≤ (k : Int)) = false := decide_eq_false abo
 have dk3 : (k : Int) < (bH : Int) := by omega
 have WU := acD (And.intro hx1 hx2)
 have XM := acD (qp.out x (List.mem_of_getElem? hx))
 have R := acD r16
 clear hf hx rc ic gc hrb hr r16 HL yH wC wD hx1 hx2
 rcases rb with _ | _
 ·go_enter Tryz.func21, Tryz.ntmps21
  go_upto_region 5 with (go_at_call 59; refine AX.out.mono ?_; rintro e w1 ⟨rfl, hb1⟩)
  have bw1 : Below w.heap.size w w1 := BV.out.trans (hb1.mono BV.out.size)
  have q0 : w1.cell? ⟨w.heap.size + 1 + 1, 0, none⟩ = _ := (hb1.cell (p := ⟨w.heap.size + 1 + 1, 0, none⟩) l2).trans c0
  have q1 : w1.cell? ⟨rq, JC + k, none⟩ = _ := (bw1.cell (p := ⟨rq, JC + k, none⟩) Rp).trans Td
  have lq : w.heap.size + 1 + 1 < w1.heap.size := by have := hb1.size; omega
  have lr : rq < w1.heap.size := by have := bw1.size; omega
  have Nw := acD (KZ.out.keep hb1)
  have wF := acD bw1
  clear hb1 bw1 hV
  go_wp2_with (refine wpList_store_row rfl 56 (.tmp 8) (.tmp 58) rfl (w.heap.size + 1 + 1 + 1) acM.toArray rfl rfl 56 _ Nw.out abp rfl abt ?_)
  refine bodyPost_ret (bg Tryz.results21 _ (w.heap.size + 1 + 1 + 1) ak rfl (aH.row (r := aq) Nw.out)) rfl ⟨?_, below_setRow wF.out abo _⟩
  rw [I1.out]; rfl
 ·rw [if_pos rfl] at I1
  go_enter Tryz.func21, Tryz.ntmps21
  go_upto_region 5 with (go_at_call 59; refine AX.out.mono ?_; rintro e w1 ⟨rfl, hb1⟩)
  have bw1 : Below w.heap.size w w1 := BV.out.trans (hb1.mono BV.out.size)
  have q0 : w1.cell? ⟨w.heap.size + 1 + 1, 0, none⟩ = _ := (hb1.cell (p := ⟨w.heap.size + 1 + 1, 0, none⟩) l2).trans c0
  have q1 : w1.cell? ⟨rq, JC + k, none⟩ = _ := (bw1.cell (p := ⟨rq, JC + k, none⟩) Rp).trans Td
  have q2 : w1.cell? ⟨w.heap.size + 1 + 1, 1, none⟩ = _ := (hb1.cell (p := ⟨w.heap.size + 1 + 1, 1, none⟩) l2).trans c1
  have lq : w.heap.size + 1 + 1 < w1.heap.size := by have := hb1.size; omega
  have lr : rq < w1.heap.size := by have := bw1.size; omega
  have li : iq < w1.heap.size := by have := bw1.size; omega
  have Nw := acD (KZ.out.keep hb1)
  have wF := acD bw1
  have gK := acD (show w1.rangeAt iq (O8 + k * 32) (aa r) from fun j v hv => (bw1.cell (p := ⟨iq, O8 + k * 32 + j, none⟩) Tq).trans (VN j v hv))
  have V1 := acD hb1
  clear hb1 bw1 hV
  go_upto_region 8 with (first | (refine wpList_load_mid rfl _ _ rfl _ _ rfl (aa r) _ gK.out Tryz.underlying56 rfl (hi3 R.out.len) ?_) | (refine wpList_store_row rfl 56 (.tmp 13) (.tmp 63) rfl w1.heap.size (aa r).toArray rfl rfl 56 _ (heap_alloc_new _ _) (hi4 R.out.len) (hi6 R.out.len ak) (aj r) ?_))
  obtain ⟨X, hX⟩ : ∃ X, (w1.alloc (.cells acM.toArray 56)).setRow w1.heap.size (aa r).toArray = X := ⟨_, rfl⟩
  rw [hX]
  have bX : Below w1.heap.size w1 X := hX ▸ below_setRow ((Below.refl _ _).alloc (Nat.le_refl _) _) (Nat.le_refl _) _
  have kX : aH X w1.heap.size 56 r := hX ▸ aH.row (z := aq) (heap_alloc_new _ _)
  obtain ⟨b13, Ka⟩ : ∃ b13, w1.heap.size = b13 := ⟨_, rfl⟩
  have Iz := acD (show V.heap.size ≤ b13 by rw [← Ka]; exact V1.out.size)
  rw [Ka] at kX
  rw [Ka]
  have Io : Below V.heap.size V X := V1.out.trans (bX.mono V1.out.size)
  have Uw : Below w.heap.size w X := BV.out.trans (Io.mono BV.out.size)
  have x0 : X.cell? ⟨w.heap.size, 0, none⟩ = _ := (Io.cell (p := ⟨w.heap.size, 0, none⟩) l0).trans a0
  have x1 : X.cell? ⟨w.heap.size, 1, none⟩ = _ := (Io.cell (p := ⟨w.heap.size, 1, none⟩) l0).trans a1
  have x2 : X.cell? ⟨w.heap.size, 2, none⟩ = _ := (Io.cell (p := ⟨w.heap.size, 2, none⟩) l0).trans a2
  have x3 : X.cell? ⟨w.heap.size, 3, none⟩ = _ := (Io.cell (p := ⟨w.heap.size, 3, none⟩) l0).trans a3
  have y0 : X.cell? ⟨w.heap.size + 1, 0, none⟩ = _ := (Io.cell (p := ⟨w.heap.size + 1, 0, none⟩) l1).trans b0
  have y1 : X.cell? ⟨gq, pG + k * 3, none⟩ = _ := (Uw.cell (p := ⟨gq, pG + k * 3, none⟩) Kh).trans WO
  have lx0 : w.heap.size < X.heap.size := by have := Io.size; omega
  have lx1 : w.heap.size + 1 < X.heap.size := by have := Io.size; omega
  have lx2 : gq < X.heap.size := by have := Uw.size; omega
  have KX := acD kX
  have Yc := acD Io
  have Xc := acD (KZ.out.keep Io)
  obtain ⟨xlo, xJ⟩ : ∃ v, x.lo = v := ⟨_, rfl⟩
  have J3 := XM.out.1
  have hp1 := WU.out.1
  have hp2 := WU.out.2
  rw [xJ] at y1 J3 hp1 I1
  obtain ⟨ln, rfl⟩ : ∃ ln : Nat, xlo = (ln : Int) := ⟨xlo.toNat, by omega⟩
  obtain ⟨pn, rfl⟩ : ∃ pn : Nat, pc = (pn : Int) := ⟨pc.toNat, by omega⟩
  obtain ⟨mm, hmm⟩ : ∃ mm : Nat, pn = ln + mm := ⟨pn - ln, by omega⟩
  have EO := acD hmm
  have X3 := acD (show sO cd G rl il (pn : Int) = cQ (codeFrom cd (ln : Int) mm) r by rw [I1.out]; congr 2; omega)
  have TA : pn ≤ 1000000 := by
   have h1 := AO.out.le
   have := (XM.out.2 pn (by rw [xJ]; omega) abo)
   omega
  have ZA := acD (show ∀ a : Nat, ln ≤ a → a < pn → a < n ∧ (cx (cd a)).2 = 0 ∧ 0 ≤ (aA cd (a : Int)).op from fun a h1 h2 => XM.out.2 a (by rw [xJ]; omega) abo)
  clear hX bX kX Ka Io Uw q0 q1 q2 a0 a1 a2 a3 b0 WO xJ J3 hp1 hp2 hmm
  go_upto_region 9 with fail
  clear y0 y1
  go_loopw [14] (fun a14 wr => ∃ (j : Nat) (r1 : RG), j ≤ mm ∧ a14 = .int .i64 ((ln : Int) + (j : Int)) ∧ cQ (codeFrom cd (ln : Int) j) r = some r1 ∧ R16 r1 ∧ Below b13 X wr ∧ aH wr b13 56 r1) (fun a14 _ => pn - (intOf a14).toNat)
  case atStart => exact ⟨0, r, by omega, rfl, rfl, R.out, Below.refl _ _, KX.out⟩
  case round =>
   obtain ⟨j, r1, hj, rfl, hrun, hr1, hb, kr⟩ := hrel
   have IK := acD hrun
   have R1 := acD hr1
   have HB := acD hb
   have KR := acD kr
   have lsX := hb.size
   clear hrun hr1 hb kr
   by_cases hlt : j < mm
   ·have dl : decide ((ln : Int) + (j : Int) < (pn : Int)) = true := decide_eq_true acv
    obtain ⟨m1, m2, m3⟩ := ZA.out (ln + j) abo acv
    have YD : b13 < X.heap.size := KX.out.lt
    have WT : Below V.heap.size V wr := Yc.out.trans (HB.out.mono Iz.out)
    have t0 : wr.cell? ⟨w.heap.size, 0, none⟩ = _ := (HB.out.cell (p := ⟨w.heap.size, 0, none⟩) (show w.heap.size < b13 by have := Iz.out; omega)).trans x0
    have t1 : wr.cell? ⟨w.heap.size, 1, none⟩ = _ := (HB.out.cell (p := ⟨w.heap.size, 1, none⟩) (show w.heap.size < b13 by have := Iz.out; omega)).trans x1
    have t2 : wr.cell? ⟨w.heap.size, 2, none⟩ = _ := (HB.out.cell (p := ⟨w.heap.size, 2, none⟩) (show w.heap.size < b13 by have := Iz.out; omega)).trans x2
    have t3 : wr.cell? ⟨w.heap.size, 3, none⟩ = _ := (HB.out.cell (p := ⟨w.heap.size, 3, none⟩) (show w.heap.size < b13 by have := Iz.out; omega)).trans x3
    have VF : w.heap.size < wr.heap.size := by omega
    have LQ : Below w.heap.size w wr := BV.out.trans (WT.mono BV.out.size)
    obtain ⟨op, ia, ic, id, im, hi⟩ : ∃ op ia ic id im, aA cd ((ln : Int) + (j : Int)) = ⟨op, ia, ic, id, im⟩ := ⟨_, _, _, _, _, rfl⟩
    have EP := acD (show Calls Tryz.prog 24 #[.agg #[cv, ev, .int .i64 sh, .int .i64 lk], .int .i64 ((ln : Int) + (j : Int))] wr fun e w' => e = .returned (.tuple #[.agg #[.int .u8 op, .int .i64 ia, .int .i64 ic, .int .i64 id, .int .i64 im], .bool true]) ∧ Below wr.heap.size wr w' from by
     have := pR cv ev sh lk n cd (ln + j) m1 m2 wr (HT.out.below LQ) (AO.out.below LQ)
     rw [Int.natCast_add, hi] at this
     exact this)
    rw [Int.natCast_add, hi] at m3
    have HI := acD hi
    have M3 := acD m3
    have Yb := acD LQ
    have wl : IntKind.i64.wrap ((ln : Int) + (j : Int) + 1) = (ln : Int) + (j : Int) + 1 := IntWalk.i64_in _ acv
    clear m1 m2 m3 WT LQ hi
    go_upto_region 14 with (first | (go_at_call 24; refine EP.out.mono ?_; rintro e w2 ⟨rfl, hb2⟩))
    obtain ⟨Y, hY⟩ : ∃ Y, w2.alloc (.cells #[.int .u8 op, .int .i64 ia, .int .i64 ic, .int .i64 id, .int .i64 im] 64) = Y := ⟨_, rfl⟩
    rw [hY]
    have bY : Below w2.heap.size w2 Y := hY ▸ (Below.refl _ _).alloc (Nat.le_refl _) _
    obtain ⟨z0, z1, z2, z3, z4, lY⟩ := aQ (show Y.heap[w2.heap.size]? = some (.cells #[.int .u8 op, .int .i64 ia, .int .i64 ic, .int .i64 id, .int .i64 im] 64 (0, 0)) from hY ▸ heap_alloc_new _ _)
    obtain ⟨q15, MU⟩ : ∃ q, w2.heap.size = q := ⟨_, rfl⟩
    have Sb : Below wr.heap.size wr Y := hb2.trans (bY.mono hb2.size)
    rw [MU] at z0 z1 z2 z3 z4 lY
    rw [MU]
    have KY := acD (KR.out.keep Sb)
    have wj := acD KY.out.range
    have Ya := acD (HB.out.trans (Sb.mono abo))
    have NU := acD (Yb.out.trans (Sb.mono Yb.out.size))
    have nB := acD (show aH Y (w.heap.size + 1 + 1 + 1) 56 aq from (Ya.out.block _ abW).trans Xc.out)
    have j5 := acD (nK op ia ic id im M3.out r1 R1.out Y (HT.out.below NU.out))
    have YC : b13 < Y.heap.size := KY.out.lt
    have lYz : w.heap.size + 1 + 1 + 1 < Y.heap.size := nB.out.lt
    clear hY bY Sb MU hb2 t0 t1 t2 t3 VF
    have HST := acD (show cQ (codeFrom cd (ln : Int) (j + 1)) r = bT ⟨op, ia, ic, id, im⟩ r1 by
     rw [gm, iX, IK.out]
     have e : aA cd ((ln : Int) + (j : Int)) = ⟨op, ia, ic, id, im⟩ := by rw [← HI.out]
     rw [e]
     simp only [cQ]
     cases bT ⟨op, ia, ic, id, im⟩ r1 <;> rfl)
    have ZT := acD (show cQ (codeFrom cd (ln : Int) (j + 1)) r = none → cQ (codeFrom cd (ln : Int) mm) r = none from fun hn => by
     rw [show mm = (j + 1) + (mm - (j + 1)) by omega, oz, iX, hn])
    rcases ho : bT ⟨op, ia, ic, id, im⟩ r1 with _ | r2
    ·rw [ho] at j5
     have HN := acD (show sO cd G rl il (pn : Int) = none by rw [X3.out]; exact ZT.out (by rw [HST.out, ho]))
     clear ho
     go_wp2_with (first | (refine wpList_load_mid rfl _ _ rfl _ _ rfl (aa r1) _ wj.out Tryz.underlying56 rfl (hi3 R1.out.len) ?_) | (go_at_call 12; refine j5.out.mono ?_; rintro e w4 ⟨rfl, hb4⟩; unfold cM) | (refine wpList_store_row rfl 56 (.tmp 13) (.tmp 88) rfl b13 (aa aq).toArray rfl rfl 56 _ (KY.out.keep hb4) (hi4 ak) (hi6 ak R1.out.len) (aj aq) ?_) | (refine wpList_store_row rfl 56 (.tmp 8) (.tmp 92) rfl (w.heap.size + 1 + 1 + 1) acM.toArray rfl rfl 56 _ ((setRow_other _ _ _ _ abW).trans (nB.out.keep hb4)) abp rfl abt ?_))
     refine bodyPost_ret (bg Tryz.results21 _ (w.heap.size + 1 + 1 + 1) ak rfl (aH.row (r := aq) (z := aq) ((setRow_other _ _ _ _ abW).trans (nB.out.keep hb4)))) rfl ⟨?_, ?_⟩
     ·rw [HN.out]; rfl
     ·exact below_setRow (below_setRow (NU.out.trans (hb4.mono NU.out.size)) abW _) abo _
    ·rw [ho] at j5
     have HN := acD (show cQ (codeFrom cd (ln : Int) (j + 1)) r = some r2 by rw [HST.out, ho])
     have R2 := acD (gT M3.out R1.out ho)
     clear ho
     go_wp2_with (first | (refine wpList_load_mid rfl _ _ rfl _ _ rfl (aa r1) _ wj.out Tryz.underlying56 rfl (hi3 R1.out.len) ?_) | (go_at_call 12; refine j5.out.mono ?_; rintro e w4 ⟨rfl, hb4⟩; unfold cM) | (refine wpList_store_row rfl 56 (.tmp 13) (.tmp 88) rfl b13 (aa r2).toArray rfl rfl 56 _ (KY.out.keep hb4) (hi4 R2.out.len) (hi6 R2.out.len R1.out.len) (aj r2) ?_))
     go_roundw
     case rel => exact ⟨j + 1, r2, by omega, by first | rfl | (congr 1; omega) | go_num, HN.out, R2.out, below_setRow (Ya.out.trans (hb4.mono abo)) (Nat.le_refl _) _, aH.row (KY.out.keep hb4)⟩
     case measure => simp [intOf]; have := EO.out; omega
   ·obtain rfl : j = mm := by omega
    have dl : decide ((ln : Int) + (j : Int) < (pn : Int)) = false := decide_eq_false acv
    have HN := acD (show sO cd G rl il (pn : Int) = some r1 by rw [X3.out, IK.out])
    have wj := acD KR.out.range
    have Qx := acD (show aH wr (w.heap.size + 1 + 1 + 1) 56 aq from ((HB.out.block _ abW).trans Xc.out))
    go_wp2_with (first | (refine wpList_load_mid rfl _ _ rfl _ _ rfl (aa r1) _ wj.out Tryz.underlying56 rfl (hi3 R1.out.len) ?_) | (refine wpList_store_row rfl 56 (.tmp 8) (.tmp 93) rfl (w.heap.size + 1 + 1 + 1) (aa r1).toArray rfl rfl 56 _ Qx.out (hi4 R1.out.len) (hi6 R1.out.len ak) (aj r1) ?_))
    refine bodyPost_ret (bg Tryz.results21 _ (w.heap.size + 1 + 1 + 1) R1.out.len rfl (aH.row Qx.out)) rfl ⟨?_, ?_⟩
    ·rw [HN.out]; rfl
    ·exact below_setRow (BV.out.trans ((Yc.out.trans (HB.out.mono Iz.out)).mono BV.out.size)) abo _
end
section
open Go.RowKit
theorem nj (b : AB) (n : Nat) (r : RG) : dO b n 0 r = [] := by unfold dO; cases cQ b.code r <;> simp
theorem sD {b : AB} {n k : Nat} {r : RG} (h : cQ b.code r = none) (hk : k < b.nx.length) : dO b n (k + 1) r = dO b n k r ++ [((n : Int), b.nx.getD k 0)] := by
 unfold dO
 rw [h]
 simp only
 rw [List.take_add_one, List.map_append, List.getElem?_eq_getElem hk]
 simp [List.getD, List.getElem?_eq_getElem hk]
theorem sA {b : AB} {n k : Nat} {r bI : RG} (h : cQ b.code r = some bI) : dO b n (k + 1) r = dO b n k r ++ (if (dK b.last b.nx.length k bI).isNone = true then [((n : Int), b.nx.getD k 0)] else []) := by
 unfold dO
 rw [h]
 simp only
 rw [List.range_succ, List.filter_append, List.map_append]
 congr 1
 cases he : (dK b.last b.nx.length k bI).isNone <;> simp only [List.filter_cons, List.filter_nil, he] <;> simp
theorem ni (B : List AB) (s : AS) (n : Nat) : cZ B s (n + 1) = cZ B s n ++ (if s.reach.getD n false = true then dO (B.getD n ⟨[], []⟩) n (B.getD n ⟨[], []⟩).nx.length (s.bH.getD n []) else []) := by
 unfold cZ
 rw [List.range_succ, List.flatMap_append]
 simp
theorem mh (b : AB) (n k : Nat) (r : RG) : (dO b n k r).length ≤ k := by
 unfold dO
 cases cQ b.code r with
 | none => simp; omega
 | some bI =>
  simp only [List.length_map]
  exact Nat.le_trans (List.length_filter_le _ _) aby
theorem lW {B : List AB} {s : AS} (h : ∀ (k : Nat) (b : AB), B[k]? = some b → b.nx.length ≤ 1000) : ∀ n, (cZ B s n).length ≤ 1000 * n
 | 0 => by simp [cZ]
 | n + 1 => by
  rw [ni, List.length_append]
  have ih := lW (s := s) h n
  have h1 : (if s.reach.getD n false = true then dO (B.getD n ⟨[], []⟩) n (B.getD n ⟨[], []⟩).nx.length (s.bH.getD n []) else []).length ≤ 1000 := by
   split
   ·refine Nat.le_trans (mh _ _ _ _) ?_
    cases hb : B[n]? with
    | none => simp [List.getD, hb]
    | some b => rw [show B.getD n ⟨[], []⟩ = b by simp [List.getD, hb]]; exact h n b hb
   ·simp
  omega
structure DM (Z wr : World) (b15 rb ib n : Nat) (dv : Value) (L : List (Int × Int)) : Prop where
 aF : Below Z.heap.size Z wr
 ge : Z.heap.size ≤ b15
 head : wr.heap[b15]? = some (.cells #[.slice (some ⟨rb, 0, none⟩) n n, .slice (some ⟨ib, 0, none⟩) n n, dv] 42 (0, 0))
 row : wr.ownsRow Z.heap.size 89 2 dv L.length (vI L)
section
variable {Z wr : World} {b15 rb ib n : Nat} {dv : Value} {L : List (Int × Int)}
theorem DM.below {wr' : World} (h : DM Z wr b15 rb ib n dv L) (hb : Below wr.heap.size wr wr') : DM Z wr' b15 rb ib n dv L :=
 ⟨h.aF.trans (hb.mono h.aF.size), h.ge, (hb.block _ (ag h.head)).trans h.head, bk h.row hb⟩
theorem DM.cell (h : DM Z wr b15 rb ib n dv L) : wr.cell? ⟨b15, 2, none⟩ = some dv ∧ wr.frozen? ⟨b15, 2, none⟩ = false ∧ b15 < wr.heap.size := by
 refine ⟨by simp [World.cell?, h.head], by simp [World.frozen?, h.head], ag h.head⟩
theorem DM.C7 (h : DM Z wr b15 rb ib n dv L) : some b15 ≠ dv.ownBlock := fun e => by
 obtain ⟨cs, hc⟩ := dW h.row e.symm
 exact aL hc h.head abr rfl
theorem DM.app {w2 W' : World} {y : Int × Int} {v' : Value} (h : DM Z wr b15 rb ib n dv L) (hb : Below wr.heap.size wr w2) (hg : w2.grownBy W' dv.ownBlock)
  (hown : W'.ownsRow Z.heap.size 89 2 v' (L.length + 1) (vI (L ++ [y]))) :
  DM Z (W'.setCell ⟨b15, 2, none⟩ v') b15 rb ib n v' (L ++ [y]) ∧ ∀ (k : Nat) (cs : Array Value) (T : TypeId), wr.heap[k]? = some (.cells cs T (0, 0)) → T ≠ 89 → T ≠ 42 → (W'.setCell ⟨b15, 2, none⟩ v').heap[k]? = some (.cells cs T (0, 0)) := by
 have G := grown_of hb hg
 have S := dJ W' b15 2 v'
 have hq : ∀ q, dv.ownBlock = some q → Z.heap.size ≤ q := fun q hq => (h.row.lt q hq).1
 have h15 : W'.heap[b15]? = some (.cells #[.slice (some ⟨rb, 0, none⟩) n n, .slice (some ⟨ib, 0, none⟩) n n, dv] 42 (0, 0)) := (G.block b15 (ag h.head) (fun e => h.C7 e)).trans h.head
 refine ⟨⟨(h.aF.grown G h.aF.size hq).grown S (by have := G.size; have := h.aF.size; omega) (fun k hk => by cases hk; exact h.ge), h.ge, ?_, ?_⟩, fun k cs T hk h1 h2 => ?_⟩
 ·rw [heap_setCell_same _ _ _ _ _ _ h15]
  rfl
 ·rw [show (L ++ [y]).length = L.length + 1 by simp]
  refine hown.kept S ?_
  cases hv : v'.ownBlock with
  | none => exact .inl rfl
  | some q =>
   refine .inr (fun e' => ?_)
   obtain ⟨cs, hc⟩ := dW hown hv
   have e2 : q = b15 := by simpa using e'
   exact aL hc h15 abr e2
 ·rw [Below.heap_setCell _ _ _ _ (by show k ≠ b15; exact aL hk h.head h2), G.block k (ag hk) (fun e => by
   obtain ⟨cs', hc⟩ := dW h.row e.symm
   exact aL hk hc h1 rfl)]
  exact hk
end
end
end Go.Proofs.YtebklpnkcicpjaaGreatDoor
