/-
  What is proved here: parts aTr3, aAf, aMono, aAd, aAn2, aBf, aAm, aBe, aDm.
-/
import Derived.Test.YtebklpnkcicpjaaGreatDoorYa
import Derived.Test.YtebklpnkcicpjaaGreatDoorYh
import Derived.Test.YtebklpnkcicpjaaGreatDoorYd
import Derived.Test.YtebklpnkcicpjaaGreatDoorYg
import Derived.Test.YtebklpnkcicpjaaGreatDoorYe
import Derived.Test.YtebklpnkcicpjaaGreatDoorYc
import Derived.Laws.MakeOwn
namespace Go.Proofs.YtebklpnkcicpjaaGreatDoor
set_option linter.unusedVariables false
set_option linter.unusedSimpArgs false
set_option maxRecDepth 100000
set_option maxHeartbeats 8000000
section
open Go.RowKit
theorem nZ : ∀ k, k < 30 → (cQ k).Bc ≤ 15 ∧ (cQ k).Bb ≤ 15 ∧ (cQ k).Ba ≤ 15 ∧ -131072 ≤ ji k ∧ jk k ≤ 131071 := by decide
theorem iH (op a b c im : Int) (h0 : 0 ≤ op) (r : RG) (hr : R16 r) (w : World) (T : fM w) :
  Calls Tryz.prog 12 #[.agg #[.int .u8 op, .int .i64 a, .int .i64 b, .int .i64 c, .int .i64 im], .agg (aa r).toArray] w fun e w' => e = .returned (cE (bQ ⟨op, a, b, c, im⟩ r)) ∧ Below w.heap.size w w' := by
 by_cases hvp : aL ⟨op, a, b, c, im⟩ = true ∧ bk r = true
 case neg =>
  refine (tK op a b c im h0 r hr w T (by
   cases h1 : aL ⟨op, a, b, c, im⟩ <;> cases h2 : bk r <;> simp_all)).mono fun e w' ⟨q, hb⟩ => ⟨q.trans ?_, hb⟩
  unfold bQ
  rw [if_neg hvp]
 obtain ⟨hv, hp⟩ := hvp
 obtain ⟨k, g1, g2, ⟨a1, a2⟩, ⟨b1, b2⟩, ⟨c1, c2⟩, i1, i2⟩ := (dy (i := ⟨op, a, b, c, im⟩) h0).1 hv
 obtain ⟨s1, s2, s3, s4, s5⟩ := nZ k g2
 simp only at g1 a1 a2 b1 b2 c1 c2 i1 i2
 obtain ⟨an, rfl⟩ : ∃ n : Nat, a = (n : Int) := ⟨a.toNat, by omega⟩
 obtain ⟨bn, rfl⟩ : ∃ n : Nat, b = (n : Int) := ⟨b.toNat, by omega⟩
 obtain ⟨cn, rfl⟩ : ∃ n : Nat, c = (n : Int) := ⟨c.toNat, by omega⟩
 exact rX op an bn cn im TX TX TX TX h0 TX r hr w T hv hp
end
section
open Go.RowKit
theorem hi3 {r : RG} (hr : r.length = 16) : (Tryz.prog.info? 56).map (·.size) = some (aa r).length := by rw [az, hr]; kernel_rfl
theorem hi4 {r : RG} (hr : r.length = 16) : (Tryz.prog.info? 56).map (·.size) = some (aa r).toArray.size := by rw [List.size_toArray, az, hr]; kernel_rfl
theorem hi6 {r z : RG} (hr : r.length = 16) (hz : z.length = 16) : (aa z).toArray.size = (aa r).toArray.size := by rw [List.size_toArray, List.size_toArray, az, az, hr, hz]
theorem ag : ak.length = 16 := rfl
theorem aC.row {w : World} {b : Nat} {T : TypeId} {z r : RG} (h : aC w b T z) : aC (w.setRow b (aa r).toArray) b T r := setRow_heap _ _ _ _ _ _ h
theorem aP {w : World} {fn : Func} {a u : Tmp} (h : fn.results = #[.cell a 56, .tmp u]) (tmps : Array Value) (b : Nat) {r : RG} (hr : r.length = 16) (ha : tmps.getD a undef = .pointer (some ⟨b, 0, none⟩)) (hb : aC w b 56 r) :
  (results fn tmps).run Tryz.prog w = .ok (.tuple #[.agg (aa r).toArray, tmps.getD u undef]) w :=
 results_cell_tmp (P := Tryz.prog) h tmps w b (aa r) _ ha hb.range Tryz.underlying56 rfl (hi3 hr)
theorem ints_at {w : World} {v : Value} {l : List Int} (h : Ints w v l) : ∃ A cap, v = .slice A l.length cap ∧ l.length ≤ cap ∧ cap ≤ maxLen := by
 obtain ⟨A, cap, h1, h2, h3, _⟩ := h
 exact ⟨A, cap, h1, h2, h3⟩
theorem eZ {n : Nat} (h : n ≤ maxLen) : n ≤ 2 ^ 63 - 1 := by unfold maxLen at h; exact h
theorem rM {V w : World} {ab cb rb ib pb : Nat} {bv pv : Value} {G : List ew} {B : List AB} {val : Nat → Value} {s : AS} (h : An V w ab cb rb ib pb bv pv G B val s) {k : Nat} {b : AB} (hk : B[k]? = some b) (hne : b.code ≠ []) (Ad : ∀ i ∈ b.code, 0 ≤ i.op) (T : fM w) :
  Calls Tryz.prog 26 #[.pointer (some ⟨ab, 0, none⟩), .int .i64 (k : Int)] w fun e w' => e = .returned (cE (dJ b.code (s.cJ.getD k []))) ∧ Below w.heap.size w w' := by
 have mV := (List.getElem?_eq_some_iff.1 hk).1
 have vu := h.lB
 obtain ⟨r, hr⟩ : ∃ r, s.cJ.getD k [] = r := ⟨_, rfl⟩
 have r16 : R16 r := hr ▸ h.ou.get mV
 obtain ⟨V0, gP⟩ : ∃ V0, w.alloc (.cells Va.toArray 56) = V0 := ⟨_, rfl⟩
 have b0 : Below w.heap.size w V0 := gP ▸ (Below.refl _ _).alloc (Nat.le_refl _) _
 have s0 : V0.heap.size = w.heap.size + 1 := by rw [← gP]; simp
 have kz : aC V0 w.heap.size 56 ak := gP ▸ heap_alloc_new _ _
 have h0 := h.below b0
 obtain ⟨l1, l2, l3, l4, l5⟩ := h0.lt
 obtain ⟨-, c2, -, c4, -⟩ := h0.cells
 have hrg := h0.lZ mV
 rw [hr] at hrg
 have fR := UZ hrg
 have dk : (k : Int) < (B.length : Int) := by omega
 obtain ⟨n, hn⟩ : ∃ n, B.length = n := ⟨_, rfl⟩
 rw [hn] at c2 c4 dk vu
 have H0 := UZ h0
 have HW := UZ h
 have HR := UZ hr
 have Og := UZ Ad
 have R := UZ r16
 have B0 := UZ b0
 have S0 := UZ s0
 have KZ := UZ kz
 have xU := UZ hne
 have HK := UZ hk
 have HT := UZ T
 obtain ⟨q, cap, hval, fH, Dm, Ji, Dr⟩ : ∃ q cap, val k = .slice (some ⟨q, 0, none⟩) b.code.length cap ∧ b.code.length ≤ cap ∧ cap ≤ 2 ^ 63 - 1 ∧ q < w.heap.size ∧ ∀ j i, b.code[j]? = some i →
   w.cell? ⟨q, j * 5, none⟩ = some (.int .u8 i.op) ∧ w.cell? ⟨q, j * 5 + 1, none⟩ = some (.int .i64 i.a) ∧ w.cell? ⟨q, j * 5 + 2, none⟩ = some (.int .i64 i.b) ∧ w.cell? ⟨q, j * 5 + 3, none⟩ = some (.int .i64 i.c) ∧ w.cell? ⟨q, j * 5 + 4, none⟩ = some (.int .i64 i.aR) := by
  rcases (h.code hk).2 with ⟨_, e⟩ | ⟨q, cap, e1, e2, e3, e4, e5⟩
  ·exact absurd e hne
  ·exact ⟨q, cap, e1, e2, eZ e3, e4, e5⟩
 have CC := UZ Dr
 obtain ⟨m, hm⟩ : ∃ m, b.code.length = m := ⟨_, rfl⟩
 have x2 : V0.cell? ⟨cb, k, none⟩ = some (.slice (some ⟨q, 0, none⟩) m cap) := by rw [← hm, ← hval]; exact (h0.code hk).1
 have HM := UZ hm
 rw [hm] at fH
 clear h0 h hr Ad r16 b0 s0 kz hne hk T hrg hn hval Dr hm mV
 go_enter Tryz.func26, Tryz.ntmps26
 go_upto_region 2 with (first | (refine wpList_load_mid rfl _ _ rfl _ _ rfl (aa r) _ fR.out Tryz.underlying56 rfl (hi3 R.out.len) ?_) | (refine wpList_store_row rfl 56 (.tmp 6) (.tmp 16) rfl V0.heap.size (aa r).toArray rfl rfl 56 _ (heap_alloc_new _ _) (hi4 R.out.len) (hi6 R.out.len ag) (aj r) ?_))
 obtain ⟨X, hX⟩ : ∃ X, (V0.alloc (.cells Va.toArray 56)).setRow V0.heap.size (aa r).toArray = X := ⟨_, rfl⟩
 have hA : aC (V0.alloc (.cells Va.toArray 56)) V0.heap.size 56 ak := heap_alloc_new _ _
 have bX : Below V0.heap.size V0 X := hX ▸ below_setRow ((Below.refl _ _).alloc (Nat.le_refl _) _) (Nat.le_refl _) _
 have kX : aC X V0.heap.size 56 r := hX ▸ hA.row
 rw [hX]
 clear gP
 have NJ := H0.out.below bX
 obtain ⟨y1, y2, y3, y4, y5⟩ := NJ.lt
 have e2 := NJ.cells.2.1
 have f2 : X.cell? ⟨cb, k, none⟩ = some (.slice (some ⟨q, 0, none⟩) m cap) := (bX.cell (p := ⟨cb, k, none⟩) l2).trans x2
 have BX := UZ bX
 have KX := UZ kX
 have O5 : B.length = n := by
  have := c2.symm.trans H0.out.cells.2.1
  simp at this
  omega
 rw [O5] at e2
 clear hX hA bX kX NJ c2 c4 x2 O5
 go_upto_region 3 with fail
 go_loopw [7, 25] (fun a7 a25 wr => ∃ (j : Nat) (r1 : RG), j ≤ m ∧ a25 = .int .i64 (j : Int) ∧ a7 = .bool true ∧ dJ (b.code.drop j) r1 = dJ b.code r ∧ R16 r1 ∧ Below V0.heap.size V0 wr ∧ aC wr V0.heap.size 56 r1) (fun _ a25 _ => m - (intOf a25).toNat)
 case atStart => exact ⟨0, r, by omega, rfl, rfl, by simp, R.out, BX.out, KX.out⟩
 case round =>
  obtain ⟨j, r1, hj, rfl, rfl, hrun, hr1, hb, kr⟩ := hrel
  have DT := UZ hrun
  have R1 := UZ hr1
  have HB := UZ hb
  have KR := UZ kr
  clear hrun hr1 hb kr
  have hsz : V0.heap.size < wr.heap.size := KR.out.lt
  by_cases hlt : j < m
  ·have dl : decide ((j : Int) < (m : Int)) = true := decide_eq_true TX
   obtain ⟨i, hi⟩ : ∃ i, b.code[j]? = some i := ⟨_, List.getElem?_eq_getElem (by rw [HM.out]; exact hlt)⟩
   obtain ⟨i0, i1, i2, i3, i4⟩ := CC.out j i hi
   have Ra : q < V0.heap.size := by have := S0.out; omega
   have bq := fun o => (HB.out.cell (p := ⟨q, o, none⟩) Ra).trans (B0.out.cell (p := ⟨q, o, none⟩) Ji)
   have j0 := (bq _).trans i0
   have j1 := (bq _).trans i1
   have j2 := (bq _).trans i2
   have j3 := (bq _).trans i3
   have j4 := (bq _).trans i4
   have qL := UZ (Og.out i (List.mem_of_getElem? hi))
   have HST := UZ (show dJ (i :: b.code.drop (j + 1)) r1 = dJ b.code r by
    have hl : j < b.code.length := by rw [HM.out]; exact hlt
    have e1 : b.code[j] = i := Option.some.inj ((List.getElem?_eq_getElem hl).symm.trans hi)
    have e2 : b.code.drop j = i :: b.code.drop (j + 1) := by rw [List.drop_eq_getElem_cons hl, e1]
    rw [← DT.out, e2])
   obtain ⟨op, ia, ic, id, im⟩ := i
   simp only at j0 j1 j2 j3 j4
   clear i0 i1 i2 i3 i4 hi bq
   have lq : q < wr.heap.size := by omega
   go_upto_region 5 with fail
   obtain ⟨Y, hY⟩ : ∃ Y, wr.alloc (.cells #[.int .u8 op, .int .i64 ia, .int .i64 ic, .int .i64 id, .int .i64 im] 64) = Y := ⟨_, rfl⟩
   rw [hY]
   have bY : Below wr.heap.size wr Y := hY ▸ (Below.refl _ _).alloc (Nat.le_refl _) _
   obtain ⟨z0, z1, z2, z3, z4, lY⟩ := aG (show Y.heap[wr.heap.size]? = some (.cells #[.int .u8 op, .int .i64 ia, .int .i64 ic, .int .i64 id, .int .i64 im] 64 (0, 0)) from hY ▸ heap_alloc_new _ _)
   have KY := UZ (KR.out.keep bY)
   have sS := UZ KY.out.range
   have IY := UZ (B0.out.trans ((HB.out.trans (bY.mono TX)).mono UD))
   have kT := UZ (show aC Y w.heap.size 56 ak from (((HB.out.trans (bY.mono TX)).block _ UD).trans KZ.out))
   have jc := UZ (iH op ia ic id im qL.out r1 R1.out Y (HT.out.below IY.out))
   have Jy := UZ (HB.out.trans (bY.mono TX))
   have lV : V0.heap.size < Y.heap.size := KY.out.lt
   have lw : w.heap.size < Y.heap.size := kT.out.lt
   clear hY bY j0 j1 j2 j3 j4
   rcases ho : bQ ⟨op, ia, ic, id, im⟩ r1 with _ | r2
   ·rw [ho] at jc
    have HN := UZ (show dJ b.code r = none by rw [← HST.out]; simp only [dJ, ho])
    clear ho
    go_wp2_with (first | (refine wpList_load_mid rfl _ _ rfl _ _ rfl (aa r1) _ sS.out Tryz.underlying56 rfl (hi3 R1.out.len) ?_) | (go_at_call 12; refine jc.out.mono ?_; rintro e w1 ⟨rfl, hb1⟩; unfold cE) | (refine wpList_store_row rfl 56 (.tmp 6) (.tmp 33) rfl V0.heap.size (aa ak).toArray rfl rfl 56 _ (KY.out.keep hb1) (hi4 ag) (hi6 ag R1.out.len) (aj ak) ?_) | (refine wpList_store_row rfl 56 (.tmp 4) (.tmp 37) rfl w.heap.size Va.toArray rfl rfl 56 _ ((setRow_other _ _ _ _ UD).trans (kT.out.keep hb1)) TY rfl T2 ?_))
    refine bodyPost_ret (aP Tryz.results26 _ w.heap.size ag rfl (aC.row (r := ak) (z := ak) ((setRow_other _ _ _ _ UD).trans (kT.out.keep hb1)))) rfl ⟨?_, ?_⟩
    ·rw [HR.out, HN.out]; rfl
    ·exact below_setRow (below_setRow (IY.out.trans (hb1.mono IY.out.size)) UD _) (Nat.le_refl _) _
   ·rw [ho] at jc
    have HN := UZ (show dJ (b.code.drop (j + 1)) r2 = dJ b.code r by rw [← HST.out]; simp only [dJ, ho])
    have R2 := UZ (gR qL.out R1.out ho)
    clear ho
    go_wp2_with (first | (refine wpList_load_mid rfl _ _ rfl _ _ rfl (aa r1) _ sS.out Tryz.underlying56 rfl (hi3 R1.out.len) ?_) | (go_at_call 12; refine jc.out.mono ?_; rintro e w1 ⟨rfl, hb1⟩; unfold cE) | (refine wpList_store_row rfl 56 (.tmp 6) (.tmp 33) rfl V0.heap.size (aa r2).toArray rfl rfl 56 _ (KY.out.keep hb1) (hi4 R2.out.len) (hi6 R2.out.len R1.out.len) (aj r2) ?_))
    go_roundw
    case rel => exact ⟨j + 1, r2, by omega, by go_num, by first | rfl | trivial, HN.out, R2.out, below_setRow (Jy.out.trans (hb1.mono TX)) (Nat.le_refl _) _, aC.row (KY.out.keep hb1)⟩
    case measure => simp [intOf]; omega
  ·obtain rfl : j = m := by omega
   have dl : decide ((j : Int) < (j : Int)) = false := by simp
   have HN := UZ (show dJ b.code r = some r1 by rw [← DT.out, ← HM.out, List.drop_length]; rfl)
   have sS := UZ KR.out.range
   have K5 := UZ (show aC wr w.heap.size 56 ak from ((HB.out.block _ UD).trans KZ.out))
   go_wp2_with (first | (refine wpList_load_mid rfl _ _ rfl _ _ rfl (aa r1) _ sS.out Tryz.underlying56 rfl (hi3 R1.out.len) ?_) | (refine wpList_store_row rfl 56 (.tmp 4) (.tmp 39) rfl w.heap.size (aa r1).toArray rfl rfl 56 _ K5.out (hi4 R1.out.len) (hi6 R1.out.len ag) (aj r1) ?_))
   refine bodyPost_ret (aP Tryz.results26 _ w.heap.size R1.out.len rfl (aC.row K5.out)) rfl ⟨?_, ?_⟩
   ·rw [HR.out, HN.out]; rfl
   ·exact below_setRow (B0.out.trans (HB.out.mono B0.out.size)) (Nat.le_refl _) _
end
section
open Go.RowKit
def xR (r m : RG) : Prop := ∀ k : Int, Sub (rg r k) (rg m k)
theorem B5 {r : RG} {k : Int} (h : r.length ≤ k.toNat) : rg r k = (0, 0) := by
 unfold rg
 simp [List.getD, List.getElem?_eq_none h]
theorem tZ {r : RG} {k : Int} {x : Int × Int} (h0 : 0 ≤ k) (hl : k.toNat < r.length) (j : Int) (hj : 0 ≤ j) : rg (aO r k x) j = if k ≠ 0 ∧ j = k then x else rg r j := by
 unfold aO
 by_cases e : k = 0
 ·rw [if_pos e, if_neg TX]
 ·rw [if_neg e]
  unfold rg
  by_cases e2 : j = k
  ·subst e2
   rw [if_pos ⟨e, rfl⟩]
   simp [List.getD, hl]
  ·rw [if_neg TX]
   have : k.toNat ≠ j.toNat := by omega
   simp [List.getD, List.getElem?_set, this]
theorem B6 {r : RG} {k : Int} (h : k < 0) : rg r k = rg r 0 := by
 unfold rg
 rw [show k.toNat = 0 by omega, show (0 : Int).toNat = 0 from rfl]
theorem xR.of {r m : RG} (h : ∀ k : Nat, k < 16 → Sub (rg r (k : Int)) (rg m (k : Int))) (hr : R16 r) (hm : R16 m) : xR r m := fun k => by
 by_cases h1 : k < 0
 ·rw [B6 h1, B6 h1]; exact h 0 TX
 ·by_cases h2 : k.toNat < 16
  ·have := h k.toNat h2
   rwa [show ((k.toNat : Nat) : Int) = k by omega] at this
  ·rw [B5 (by rw [hr.len]; omega), B5 (by rw [hm.len]; omega)]
   exact .inr ⟨Int.le_refl _, Int.le_refl _⟩
theorem xY {r m : RG} (hr : R16 r) (hm : R16 m) {k : Nat} (hk : k < 16) : rg (b7 r m) (k : Int) = bR (rg r (k : Int)) (rg m (k : Int)) := by
 have h1 : k < r.length := by rw [hr.len]; exact hk
 have h2 : k < m.length := by rw [hm.len]; exact hk
 unfold rg b7
 simp [List.getD, List.getElem?_zipWith, List.getElem?_eq_getElem h1, List.getElem?_eq_getElem h2]
theorem tY {r m : RG} (hr : R16 r) (hm : R16 m) {k : Nat} (hk : k < 16) : rg (dM r m) (k : Int) = aJ (rg r (k : Int)) (rg m (k : Int)) := by
 have h1 : k < r.length := by rw [hr.len]; exact hk
 have h2 : k < m.length := by rw [hm.len]; exact hk
 unfold rg dM
 simp [List.getD, List.getElem?_zipWith, List.getElem?_eq_getElem h1, List.getElem?_eq_getElem h2]
theorem uz {r m : RG} (hr : R16 r) (hm : R16 m) : xR r (b7 r m) := xR.of (fun k hk => by
 rw [xY hr hm hk]
 exact (within_iff _ _).1 (Aa _ _)) hr (hr.join hm)
theorem Ey : ∀ k, k < 30 → (cQ k).Bc ≤ 15 ∧ (cQ k).Bb ≤ 15 ∧ (cQ k).Ba ≤ 15 ∧ -131072 ≤ ji k ∧ jk k ≤ 131071 := by decide
theorem gQ {i : bB} (h0 : 0 ≤ i.op) (hv : aL i = true) : (0 ≤ i.a ∧ i.a ≤ 15) ∧ (0 ≤ i.b ∧ i.b ≤ 15) ∧ (0 ≤ i.c ∧ i.c ≤ 15) ∧ -131072 ≤ i.aR ∧ i.aR ≤ 131071 := by
 obtain ⟨k, g1, g2, ⟨a1, a2⟩, ⟨b1, b2⟩, ⟨c1, c2⟩, i1, i2⟩ := (dy (i := i) h0).1 hv
 obtain ⟨s1, s2, s3, s4, s5⟩ := Ey k g2
 omega
def Mi (v : List Int) (r : RG) : Prop := ∀ k : Nat, k < 16 → Mem (v.getD k 0) (rg r (k : Int))
theorem Mi.sub {v : List Int} {r m : RG} (h : Mi v r) (hs : xR r m) : Mi v m := fun k hk => by
 have h1 := h k hk
 have h2 := hs (k : Int)
 unfold Mem at *
 unfold Sub at h2
 omega
end
section
open Go.RowKit
theorem lF (n : Int) (w : World) : Calls Tryz.prog 50 #[.int .i64 n] w fun e w' => e = .returned (.int .i32 (cj n)) ∧ w = w' := by
 have HN := UZ (show min (max n (-2147483648)) 2147483647 = cj n by
  unfold cj
  (repeat' split) <;> omega)
 go_enter Tryz.func50, Tryz.ntmps50
 go_wp2_with fail
 all_goals
  go_ret
  refine ⟨?_, by first | rfl | trivial⟩
  rw [← HN.out]
  rfl
theorem dA {w : World} {b : Nat} {l h : Int} {T : TypeId} (hb : w.heap[b]? = some (.cells #[.int .i32 l, .int .i32 h] T (0, 0))) : w.cell? ⟨b, 0, none⟩ = some (.int .i32 l) ∧ w.cell? ⟨b, 1, none⟩ = some (.int .i32 h) ∧ w.frozen? ⟨b, 0, none⟩ = false ∧ w.frozen? ⟨b, 1, none⟩ = false ∧ b < w.heap.size :=
 ⟨by simp [World.cell?, hb], by simp [World.cell?, hb], by simp [World.frozen?, hb], by simp [World.frozen?, hb], (Array.getElem?_eq_some_iff.1 hb).1⟩
theorem xL (op a b c im : Int) (h0 : 0 ≤ op) (hop : op ≠ 18 ∧ op ≠ 19 ∧ op ≠ 20 ∧ op ≠ 21) (r : RG) (hr : R16 r) (w : World) (T : fM w) :
  Calls Tryz.prog 17 #[.agg #[.int .u8 op, .int .i64 a, .int .i64 b, .int .i64 c, .int .i64 im], .agg (aa r).toArray] w fun e w' => e = .returned (.agg #[.int .i32 1, .int .i32 0]) ∧ Below w.heap.size w w' := by
 have e1 : (op == 18) = false := by rw [beq_eq_false_iff_ne]; exact hop.1
 have e2 : (op == 19) = false := by rw [beq_eq_false_iff_ne]; exact hop.2.1
 have e3 : (op == 20) = false := by rw [beq_eq_false_iff_ne]; exact hop.2.2.1
 have e4 : (op == 21) = false := by rw [beq_eq_false_iff_ne]; exact hop.2.2.2
 clear hop
 obtain ⟨V, hV, k0, k1, k2, bV, sV⟩ := aW w #[.int .u8 op, .int .i64 a, .int .i64 b, .int .i64 c, .int .i64 im] (aa r).toArray #[.int .i32 0, .int .i32 0] 64 56 54
 obtain ⟨a0, a1, a2, a3, a4, lV⟩ := aG k0
 obtain ⟨o0, o1, o2, o3, lO⟩ := dA k2
 have K1 := UZ (show aC V (w.heap.size + 1) 56 r from k1)
 have K2 := UZ k2
 have BV := UZ bV
 have dI := UZ (Calls.ext (cG ⟨op, a, b, c, im⟩ h0 V (T.below bV)))
 have rR := UZ (fun x : Ext V => Calls.au (x := x) (av x.w))
 have vE := UZ hr
 clear k0 k1 k2 bV hr
 have vF := UZ (Calls.ext (av V))
 go_enter Tryz.func17, Tryz.ntmps17
 go_upto_region 1 with fail
 clear hV
 go_wp2_with (first | (go_at_call 49; refine vF.out.mono ?_; rintro e w' ⟨rfl, y, rfl⟩) | (refine wpList_store_row rfl 54 (.tmp 4) (.tmp 9) rfl (w.heap.size + 1 + 1) #[.int .i32 1, .int .i32 0] rfl rfl 54 _ ((Ext.h _).block _ lO |>.trans K2.out) TY rfl T2 ?_))
 refine bodyPost_ret (aX (P := Tryz.prog) Tryz.results17 _ _ (w.heap.size + 1 + 1) [.int .i32 1, .int .i32 0] _ rfl (aq (setRow_heap _ _ _ _ _ _ ((Ext.h _).block _ lO |>.trans K2.out))) Tryz.underlying54 rfl TY) rfl ⟨rfl, below_setRow (BV.out.trans ((Ext.h _).mono BV.out.size)) TX _⟩
theorem xP (a b c im : Int) (r : RG) (hr : R16 r) (w : World) (T : fM w) :
  Calls Tryz.prog 17 #[.agg #[.int .u8 18, .int .i64 a, .int .i64 b, .int .i64 c, .int .i64 im], .agg (aa r).toArray] w fun e w' => e = .returned (.agg #[.int .i32 (b8 ⟨18, a, b, c, im⟩ r).1, .int .i32 (b8 ⟨18, a, b, c, im⟩ r).2]) ∧ Below w.heap.size w w' := by
 have h0 : (0 : Int) ≤ 18 := by omega
 obtain ⟨V, hV, k0, k1, k2, bV, sV⟩ := aW w #[.int .u8 18, .int .i64 a, .int .i64 b, .int .i64 c, .int .i64 im] (aa r).toArray #[.int .i32 0, .int .i32 0] 64 56 54
 obtain ⟨a0, a1, a2, a3, a4, lV⟩ := aG k0
 obtain ⟨o0, o1, o2, o3, lO⟩ := dA k2
 have K1 := UZ (show aC V (w.heap.size + 1) 56 r from k1)
 have K2 := UZ k2
 have BV := UZ bV
 have dI := UZ (Calls.ext (cG ⟨18, a, b, c, im⟩ h0 V (T.below bV)))
 have rR := UZ (fun x : Ext V => Calls.au (x := x) (av x.w))
 have vE := UZ hr
 clear k0 k1 k2 bV hr
 have vF := UZ (fun x : Ext V => Calls.au (x := x) (av x.w))
 rcases hv : aL ⟨18, a, b, c, im⟩ with _ | _
 ·rw [hv] at dI
  have HAD := UZ (show b8 ⟨18, a, b, c, im⟩ r = (1, 0) by unfold b8; rw [if_neg (by rw [hv]; simp)])
  clear hv
  go_enter Tryz.func17, Tryz.ntmps17
  go_upto_region 1 with fail
  clear hV
  go_wp2_with (first | (go_at_call 32; refine dI.out.mono ?_; rintro e w' ⟨rfl, y, rfl⟩) | (go_at_call 49; refine (vF.out _).mono ?_; rintro e w' ⟨rfl, y2, rfl⟩) | (refine wpList_store_row rfl 54 (.tmp 4) (.tmp 25) rfl (w.heap.size + 1 + 1) #[.int .i32 1, .int .i32 0] rfl rfl 54 _ ((Ext.h _).block _ lO |>.trans K2.out) TY rfl T2 ?_))
  rw [HAD.out]
  refine bodyPost_ret (aX (P := Tryz.prog) Tryz.results17 _ _ (w.heap.size + 1 + 1) [.int .i32 1, .int .i32 0] _ rfl (aq (setRow_heap _ _ _ _ _ _ ((Ext.h _).block _ lO |>.trans K2.out))) Tryz.underlying54 rfl TY) rfl ⟨rfl, below_setRow (BV.out.trans ((Ext.h _).mono BV.out.size)) TX _⟩
 ·rw [hv] at dI
  obtain ⟨-, ⟨b1, b2⟩, -, i1, i2⟩ := gQ h0 hv
  simp only at b1 b2 i1 i2
  obtain ⟨bn, rfl⟩ : ∃ n : Nat, b = (n : Int) := ⟨b.toNat, by omega⟩
  have hb : bn < 16 := by omega
  obtain ⟨xl, hxl⟩ : ∃ v, (rg r (bn : Int)).1 = v := ⟨_, rfl⟩
  obtain ⟨xh, jx⟩ : ∃ v, (rg r (bn : Int)).2 = v := ⟨_, rfl⟩
  have r4 : V.cell? ⟨w.heap.size + 1, bn * 2, none⟩ = some (.int .i32 xl) := by rw [← hxl]; exact K1.out.lo Uq
  have r5 : V.cell? ⟨w.heap.size + 1, bn * 2 + 1, none⟩ = some (.int .i32 xh) := by rw [← jx]; exact K1.out.hi Uq
  have hw := vE.out.at_ (bn : Int)
  rw [hxl, jx] at hw
  have ib : (bn : Int) < 16 := by omega
  have lR : w.heap.size + 1 < V.heap.size := by omega
  have rQ := UZ (fun x : Ext V => Calls.au (x := x) (af xl xh x.w))
  by_cases he : xh < xl
  ·have d := decide_eq_true he
   have HAD := UZ (show b8 ⟨18, a, bn, c, im⟩ r = (1, 0) by
    unfold b8
    rw [if_neg (by
     rintro ⟨_, _, h⟩
     unfold emp at h
     rw [show rg r ((⟨18, a, (bn : Int), c, im⟩ : bB)).b = rg r (bn : Int) from rfl, hxl, jx] at h
     simp at h
     omega)])
   clear hv hxl jx he
   go_enter Tryz.func17, Tryz.ntmps17
   go_upto_region 1 with fail
   clear hV
   go_wp2_with (first | (go_at_call 32; refine dI.out.mono ?_; rintro e w' ⟨rfl, y, rfl⟩) | (go_at_call 39; refine (rQ.out _).mono ?_; rintro e w' ⟨rfl, y3, rfl⟩) | (go_at_call 49; refine (vF.out _).mono ?_; rintro e w' ⟨rfl, y2, rfl⟩) | (refine wpList_store_row rfl 54 (.tmp 4) (.tmp 25) rfl (w.heap.size + 1 + 1) #[.int .i32 1, .int .i32 0] rfl rfl 54 _ ((Ext.h _).block _ lO |>.trans K2.out) TY rfl T2 ?_))
   rw [HAD.out]
   refine bodyPost_ret (aX (P := Tryz.prog) Tryz.results17 _ _ (w.heap.size + 1 + 1) [.int .i32 1, .int .i32 0] _ rfl (aq (setRow_heap _ _ _ _ _ _ ((Ext.h _).block _ lO |>.trans K2.out))) Tryz.underlying54 rfl TY) rfl ⟨rfl, below_setRow (BV.out.trans ((Ext.h _).mono BV.out.size)) TX _⟩
  ·have d := decide_eq_false he
   have HAD := UZ (show b8 ⟨18, a, bn, c, im⟩ r = (cj (xl + im), cj (xh + im)) by
    unfold b8
    rw [if_pos ⟨by simp, hv, by
     unfold emp
     rw [show rg r ((⟨18, a, (bn : Int), c, im⟩ : bB)).b = rg r (bn : Int) from rfl, hxl, jx]
     simpa using he⟩]
    show (cj ((rg r (bn : Int)).1 + im), cj ((rg r (bn : Int)).2 + im)) = _
    rw [hxl, jx])
   unfold aK at hw
   have w1 : IntKind.i64.wrap (xl + im) = xl + im := IntWalk.i64_in _ TX
   have w2 : IntKind.i64.wrap (xh + im) = xh + im := IntWalk.i64_in _ TX
   have Nx : ∀ (args : Array Value) (w : World), (callFunc 50 args).run Tryz.prog w = .ok (.enter 50 args) w := fun _ _ => by kernel_rfl
   have xU := UZ lF
   clear hv hxl jx he
   go_enter Tryz.func17, Tryz.ntmps17
   go_upto_region 1 with fail
   clear hV
   go_upto_region 11 with (first | (go_at_call 32; refine dI.out.mono ?_; rintro e w' ⟨rfl, y, rfl⟩) | (go_at_call 39; refine (rQ.out _).mono ?_; rintro e w' ⟨rfl, y3, rfl⟩))
   refine aT 21 TY TY ?_
   simp only [U8, List.take_zero, U9, List.drop_zero]
   repeat (go_big_quiet_step (exact Calls.bO (xU.out _ _)))
   refine wpQuiet_nil ?_
   rintro _ ⟨x1, rfl⟩
   go_wp2_with (refine wpList_store_row rfl 54 (.tmp 4) (.tmp 48) rfl (w.heap.size + 1 + 1) #[.int .i32 (cj (xl + im)), .int .i32 (cj (xh + im))] rfl rfl 54 _ ((Ext.h _).block _ lO |>.trans K2.out) TY rfl T2 ?_)
   rw [HAD.out]
   refine bodyPost_ret (aX (P := Tryz.prog) Tryz.results17 _ _ (w.heap.size + 1 + 1) [.int .i32 (cj (xl + im)), .int .i32 (cj (xh + im))] _ rfl (aq (setRow_heap _ _ _ _ _ _ ((Ext.h _).block _ lO |>.trans K2.out))) Tryz.underlying54 rfl TY) rfl ⟨rfl, below_setRow (BV.out.trans ((Ext.h _).mono BV.out.size)) TX _⟩
theorem xO (a b c im : Int) (r : RG) (hr : R16 r) (w : World) (T : fM w) :
  Calls Tryz.prog 17 #[.agg #[.int .u8 19, .int .i64 a, .int .i64 b, .int .i64 c, .int .i64 im], .agg (aa r).toArray] w fun e w' => e = .returned (.agg #[.int .i32 (b8 ⟨19, a, b, c, im⟩ r).1, .int .i32 (b8 ⟨19, a, b, c, im⟩ r).2]) ∧ Below w.heap.size w w' := by
 have h0 : (0 : Int) ≤ 19 := by omega
 obtain ⟨V, hV, k0, k1, k2, bV, sV⟩ := aW w #[.int .u8 19, .int .i64 a, .int .i64 b, .int .i64 c, .int .i64 im] (aa r).toArray #[.int .i32 0, .int .i32 0] 64 56 54
 obtain ⟨a0, a1, a2, a3, a4, lV⟩ := aG k0
 obtain ⟨o0, o1, o2, o3, lO⟩ := dA k2
 have K1 := UZ (show aC V (w.heap.size + 1) 56 r from k1)
 have K2 := UZ k2
 have BV := UZ bV
 have dI := UZ (Calls.ext (cG ⟨19, a, b, c, im⟩ h0 V (T.below bV)))
 have rR := UZ (fun x : Ext V => Calls.au (x := x) (av x.w))
 have vE := UZ hr
 clear k0 k1 k2 bV hr
 have vF := UZ (fun x : Ext V => Calls.au (x := x) (av x.w))
 rcases hv : aL ⟨19, a, b, c, im⟩ with _ | _
 ·rw [hv] at dI
  have HAD := UZ (show b8 ⟨19, a, b, c, im⟩ r = (1, 0) by unfold b8; rw [if_neg (by rw [hv]; simp)])
  clear hv
  go_enter Tryz.func17, Tryz.ntmps17
  go_upto_region 1 with fail
  clear hV
  go_wp2_with (first | (go_at_call 32; refine dI.out.mono ?_; rintro e w' ⟨rfl, y, rfl⟩) | (go_at_call 49; refine (vF.out _).mono ?_; rintro e w' ⟨rfl, y2, rfl⟩) | (refine wpList_store_row rfl 54 (.tmp 4) (.tmp 25) rfl (w.heap.size + 1 + 1) #[.int .i32 1, .int .i32 0] rfl rfl 54 _ ((Ext.h _).block _ lO |>.trans K2.out) TY rfl T2 ?_))
  rw [HAD.out]
  refine bodyPost_ret (aX (P := Tryz.prog) Tryz.results17 _ _ (w.heap.size + 1 + 1) [.int .i32 1, .int .i32 0] _ rfl (aq (setRow_heap _ _ _ _ _ _ ((Ext.h _).block _ lO |>.trans K2.out))) Tryz.underlying54 rfl TY) rfl ⟨rfl, below_setRow (BV.out.trans ((Ext.h _).mono BV.out.size)) TX _⟩
 ·rw [hv] at dI
  obtain ⟨-, ⟨b1, b2⟩, -, i1, i2⟩ := gQ h0 hv
  simp only at b1 b2 i1 i2
  obtain ⟨bn, rfl⟩ : ∃ n : Nat, b = (n : Int) := ⟨b.toNat, by omega⟩
  have hb : bn < 16 := by omega
  obtain ⟨xl, hxl⟩ : ∃ v, (rg r (bn : Int)).1 = v := ⟨_, rfl⟩
  obtain ⟨xh, jx⟩ : ∃ v, (rg r (bn : Int)).2 = v := ⟨_, rfl⟩
  have r4 : V.cell? ⟨w.heap.size + 1, bn * 2, none⟩ = some (.int .i32 xl) := by rw [← hxl]; exact K1.out.lo Uq
  have r5 : V.cell? ⟨w.heap.size + 1, bn * 2 + 1, none⟩ = some (.int .i32 xh) := by rw [← jx]; exact K1.out.hi Uq
  have hw := vE.out.at_ (bn : Int)
  rw [hxl, jx] at hw
  have ib : (bn : Int) < 16 := by omega
  have lR : w.heap.size + 1 < V.heap.size := by omega
  have rQ := UZ (fun x : Ext V => Calls.au (x := x) (af xl xh x.w))
  by_cases he : xh < xl
  ·have d := decide_eq_true he
   have HAD := UZ (show b8 ⟨19, a, bn, c, im⟩ r = (1, 0) by
    unfold b8
    rw [if_neg (by
     rintro ⟨_, _, h⟩
     unfold emp at h
     rw [show rg r ((⟨19, a, (bn : Int), c, im⟩ : bB)).b = rg r (bn : Int) from rfl, hxl, jx] at h
     simp at h
     omega)])
   clear hv hxl jx he
   go_enter Tryz.func17, Tryz.ntmps17
   go_upto_region 1 with fail
   clear hV
   go_wp2_with (first | (go_at_call 32; refine dI.out.mono ?_; rintro e w' ⟨rfl, y, rfl⟩) | (go_at_call 39; refine (rQ.out _).mono ?_; rintro e w' ⟨rfl, y3, rfl⟩) | (go_at_call 49; refine (vF.out _).mono ?_; rintro e w' ⟨rfl, y2, rfl⟩) | (refine wpList_store_row rfl 54 (.tmp 4) (.tmp 25) rfl (w.heap.size + 1 + 1) #[.int .i32 1, .int .i32 0] rfl rfl 54 _ ((Ext.h _).block _ lO |>.trans K2.out) TY rfl T2 ?_))
   rw [HAD.out]
   refine bodyPost_ret (aX (P := Tryz.prog) Tryz.results17 _ _ (w.heap.size + 1 + 1) [.int .i32 1, .int .i32 0] _ rfl (aq (setRow_heap _ _ _ _ _ _ ((Ext.h _).block _ lO |>.trans K2.out))) Tryz.underlying54 rfl TY) rfl ⟨rfl, below_setRow (BV.out.trans ((Ext.h _).mono BV.out.size)) TX _⟩
  ·have d := decide_eq_false he
   have HAD := UZ (show b8 ⟨19, a, bn, c, im⟩ r = (cj (xl + im), cj (xh + im)) by
    unfold b8
    rw [if_pos ⟨by simp, hv, by
     unfold emp
     rw [show rg r ((⟨19, a, (bn : Int), c, im⟩ : bB)).b = rg r (bn : Int) from rfl, hxl, jx]
     simpa using he⟩]
    show (cj ((rg r (bn : Int)).1 + im), cj ((rg r (bn : Int)).2 + im)) = _
    rw [hxl, jx])
   unfold aK at hw
   have w1 : IntKind.i64.wrap (xl + im) = xl + im := IntWalk.i64_in _ TX
   have w2 : IntKind.i64.wrap (xh + im) = xh + im := IntWalk.i64_in _ TX
   have Nx : ∀ (args : Array Value) (w : World), (callFunc 50 args).run Tryz.prog w = .ok (.enter 50 args) w := fun _ _ => by kernel_rfl
   have xU := UZ lF
   clear hv hxl jx he
   go_enter Tryz.func17, Tryz.ntmps17
   go_upto_region 1 with fail
   clear hV
   go_upto_region 11 with (first | (go_at_call 32; refine dI.out.mono ?_; rintro e w' ⟨rfl, y, rfl⟩) | (go_at_call 39; refine (rQ.out _).mono ?_; rintro e w' ⟨rfl, y3, rfl⟩))
   refine aT 21 TY TY ?_
   simp only [U8, List.take_zero, U9, List.drop_zero]
   repeat (go_big_quiet_step (exact Calls.bO (xU.out _ _)))
   refine wpQuiet_nil ?_
   rintro _ ⟨x1, rfl⟩
   go_wp2_with (refine wpList_store_row rfl 54 (.tmp 4) (.tmp 48) rfl (w.heap.size + 1 + 1) #[.int .i32 (cj (xl + im)), .int .i32 (cj (xh + im))] rfl rfl 54 _ ((Ext.h _).block _ lO |>.trans K2.out) TY rfl T2 ?_)
   rw [HAD.out]
   refine bodyPost_ret (aX (P := Tryz.prog) Tryz.results17 _ _ (w.heap.size + 1 + 1) [.int .i32 (cj (xl + im)), .int .i32 (cj (xh + im))] _ rfl (aq (setRow_heap _ _ _ _ _ _ ((Ext.h _).block _ lO |>.trans K2.out))) Tryz.underlying54 rfl TY) rfl ⟨rfl, below_setRow (BV.out.trans ((Ext.h _).mono BV.out.size)) TX _⟩
theorem xN (a b c im : Int) (r : RG) (hr : R16 r) (w : World) (T : fM w) :
  Calls Tryz.prog 17 #[.agg #[.int .u8 20, .int .i64 a, .int .i64 b, .int .i64 c, .int .i64 im], .agg (aa r).toArray] w fun e w' => e = .returned (.agg #[.int .i32 (b8 ⟨20, a, b, c, im⟩ r).1, .int .i32 (b8 ⟨20, a, b, c, im⟩ r).2]) ∧ Below w.heap.size w w' := by
 have h0 : (0 : Int) ≤ 20 := by omega
 obtain ⟨V, hV, k0, k1, k2, bV, sV⟩ := aW w #[.int .u8 20, .int .i64 a, .int .i64 b, .int .i64 c, .int .i64 im] (aa r).toArray #[.int .i32 0, .int .i32 0] 64 56 54
 obtain ⟨a0, a1, a2, a3, a4, lV⟩ := aG k0
 obtain ⟨o0, o1, o2, o3, lO⟩ := dA k2
 have K1 := UZ (show aC V (w.heap.size + 1) 56 r from k1)
 have K2 := UZ k2
 have BV := UZ bV
 have dI := UZ (Calls.ext (cG ⟨20, a, b, c, im⟩ h0 V (T.below bV)))
 have rR := UZ (fun x : Ext V => Calls.au (x := x) (av x.w))
 have vE := UZ hr
 clear k0 k1 k2 bV hr
 have vF := UZ (fun x : Ext V => Calls.au (x := x) (av x.w))
 rcases hv : aL ⟨20, a, b, c, im⟩ with _ | _
 ·rw [hv] at dI
  have HAD := UZ (show b8 ⟨20, a, b, c, im⟩ r = (1, 0) by unfold b8; rw [if_neg (by rw [hv]; simp)])
  clear hv
  go_enter Tryz.func17, Tryz.ntmps17
  go_upto_region 1 with fail
  clear hV
  go_wp2_with (first | (go_at_call 32; refine dI.out.mono ?_; rintro e w' ⟨rfl, y, rfl⟩) | (go_at_call 49; refine (vF.out _).mono ?_; rintro e w' ⟨rfl, y2, rfl⟩) | (refine wpList_store_row rfl 54 (.tmp 4) (.tmp 25) rfl (w.heap.size + 1 + 1) #[.int .i32 1, .int .i32 0] rfl rfl 54 _ ((Ext.h _).block _ lO |>.trans K2.out) TY rfl T2 ?_))
  rw [HAD.out]
  refine bodyPost_ret (aX (P := Tryz.prog) Tryz.results17 _ _ (w.heap.size + 1 + 1) [.int .i32 1, .int .i32 0] _ rfl (aq (setRow_heap _ _ _ _ _ _ ((Ext.h _).block _ lO |>.trans K2.out))) Tryz.underlying54 rfl TY) rfl ⟨rfl, below_setRow (BV.out.trans ((Ext.h _).mono BV.out.size)) TX _⟩
 ·rw [hv] at dI
  obtain ⟨-, ⟨b1, b2⟩, -, i1, i2⟩ := gQ h0 hv
  simp only at b1 b2 i1 i2
  obtain ⟨bn, rfl⟩ : ∃ n : Nat, b = (n : Int) := ⟨b.toNat, by omega⟩
  have hb : bn < 16 := by omega
  obtain ⟨xl, hxl⟩ : ∃ v, (rg r (bn : Int)).1 = v := ⟨_, rfl⟩
  obtain ⟨xh, jx⟩ : ∃ v, (rg r (bn : Int)).2 = v := ⟨_, rfl⟩
  have r4 : V.cell? ⟨w.heap.size + 1, bn * 2, none⟩ = some (.int .i32 xl) := by rw [← hxl]; exact K1.out.lo Uq
  have r5 : V.cell? ⟨w.heap.size + 1, bn * 2 + 1, none⟩ = some (.int .i32 xh) := by rw [← jx]; exact K1.out.hi Uq
  have hw := vE.out.at_ (bn : Int)
  rw [hxl, jx] at hw
  have ib : (bn : Int) < 16 := by omega
  have lR : w.heap.size + 1 < V.heap.size := by omega
  have rQ := UZ (fun x : Ext V => Calls.au (x := x) (af xl xh x.w))
  by_cases he : xh < xl
  ·have d := decide_eq_true he
   have HAD := UZ (show b8 ⟨20, a, bn, c, im⟩ r = (1, 0) by
    unfold b8
    rw [if_neg (by
     rintro ⟨_, _, h⟩
     unfold emp at h
     rw [show rg r ((⟨20, a, (bn : Int), c, im⟩ : bB)).b = rg r (bn : Int) from rfl, hxl, jx] at h
     simp at h
     omega)])
   clear hv hxl jx he
   go_enter Tryz.func17, Tryz.ntmps17
   go_upto_region 1 with fail
   clear hV
   go_wp2_with (first | (go_at_call 32; refine dI.out.mono ?_; rintro e w' ⟨rfl, y, rfl⟩) | (go_at_call 39; refine (rQ.out _).mono ?_; rintro e w' ⟨rfl, y3, rfl⟩) | (go_at_call 49; refine (vF.out _).mono ?_; rintro e w' ⟨rfl, y2, rfl⟩) | (refine wpList_store_row rfl 54 (.tmp 4) (.tmp 25) rfl (w.heap.size + 1 + 1) #[.int .i32 1, .int .i32 0] rfl rfl 54 _ ((Ext.h _).block _ lO |>.trans K2.out) TY rfl T2 ?_))
   rw [HAD.out]
   refine bodyPost_ret (aX (P := Tryz.prog) Tryz.results17 _ _ (w.heap.size + 1 + 1) [.int .i32 1, .int .i32 0] _ rfl (aq (setRow_heap _ _ _ _ _ _ ((Ext.h _).block _ lO |>.trans K2.out))) Tryz.underlying54 rfl TY) rfl ⟨rfl, below_setRow (BV.out.trans ((Ext.h _).mono BV.out.size)) TX _⟩
  ·have d := decide_eq_false he
   have HAD := UZ (show b8 ⟨20, a, bn, c, im⟩ r = (cj (xl + im), cj (xh + im)) by
    unfold b8
    rw [if_pos ⟨by simp, hv, by
     unfold emp
     rw [show rg r ((⟨20, a, (bn : Int), c, im⟩ : bB)).b = rg r (bn : Int) from rfl, hxl, jx]
     simpa using he⟩]
    show (cj ((rg r (bn : Int)).1 + im), cj ((rg r (bn : Int)).2 + im)) = _
    rw [hxl, jx])
   unfold aK at hw
   have w1 : IntKind.i64.wrap (xl + im) = xl + im := IntWalk.i64_in _ TX
   have w2 : IntKind.i64.wrap (xh + im) = xh + im := IntWalk.i64_in _ TX
   have Nx : ∀ (args : Array Value) (w : World), (callFunc 50 args).run Tryz.prog w = .ok (.enter 50 args) w := fun _ _ => by kernel_rfl
   have xU := UZ lF
   clear hv hxl jx he
   go_enter Tryz.func17, Tryz.ntmps17
   go_upto_region 1 with fail
   clear hV
   go_upto_region 11 with (first | (go_at_call 32; refine dI.out.mono ?_; rintro e w' ⟨rfl, y, rfl⟩) | (go_at_call 39; refine (rQ.out _).mono ?_; rintro e w' ⟨rfl, y3, rfl⟩))
   refine aT 21 TY TY ?_
   simp only [U8, List.take_zero, U9, List.drop_zero]
   repeat (go_big_quiet_step (exact Calls.bO (xU.out _ _)))
   refine wpQuiet_nil ?_
   rintro _ ⟨x1, rfl⟩
   go_wp2_with (refine wpList_store_row rfl 54 (.tmp 4) (.tmp 48) rfl (w.heap.size + 1 + 1) #[.int .i32 (cj (xl + im)), .int .i32 (cj (xh + im))] rfl rfl 54 _ ((Ext.h _).block _ lO |>.trans K2.out) TY rfl T2 ?_)
   rw [HAD.out]
   refine bodyPost_ret (aX (P := Tryz.prog) Tryz.results17 _ _ (w.heap.size + 1 + 1) [.int .i32 (cj (xl + im)), .int .i32 (cj (xh + im))] _ rfl (aq (setRow_heap _ _ _ _ _ _ ((Ext.h _).block _ lO |>.trans K2.out))) Tryz.underlying54 rfl TY) rfl ⟨rfl, below_setRow (BV.out.trans ((Ext.h _).mono BV.out.size)) TX _⟩
theorem xM (a b c im : Int) (r : RG) (hr : R16 r) (w : World) (T : fM w) :
  Calls Tryz.prog 17 #[.agg #[.int .u8 21, .int .i64 a, .int .i64 b, .int .i64 c, .int .i64 im], .agg (aa r).toArray] w fun e w' => e = .returned (.agg #[.int .i32 (b8 ⟨21, a, b, c, im⟩ r).1, .int .i32 (b8 ⟨21, a, b, c, im⟩ r).2]) ∧ Below w.heap.size w w' := by
 have h0 : (0 : Int) ≤ 21 := by omega
 obtain ⟨V, hV, k0, k1, k2, bV, sV⟩ := aW w #[.int .u8 21, .int .i64 a, .int .i64 b, .int .i64 c, .int .i64 im] (aa r).toArray #[.int .i32 0, .int .i32 0] 64 56 54
 obtain ⟨a0, a1, a2, a3, a4, lV⟩ := aG k0
 obtain ⟨o0, o1, o2, o3, lO⟩ := dA k2
 have K1 := UZ (show aC V (w.heap.size + 1) 56 r from k1)
 have K2 := UZ k2
 have BV := UZ bV
 have dI := UZ (Calls.ext (cG ⟨21, a, b, c, im⟩ h0 V (T.below bV)))
 have rR := UZ (fun x : Ext V => Calls.au (x := x) (av x.w))
 have vE := UZ hr
 clear k0 k1 k2 bV hr
 have vF := UZ (fun x : Ext V => Calls.au (x := x) (av x.w))
 rcases hv : aL ⟨21, a, b, c, im⟩ with _ | _
 ·rw [hv] at dI
  have HAD := UZ (show b8 ⟨21, a, b, c, im⟩ r = (1, 0) by unfold b8; rw [if_neg (by rw [hv]; simp)])
  clear hv
  go_enter Tryz.func17, Tryz.ntmps17
  go_upto_region 1 with fail
  clear hV
  go_wp2_with (first | (go_at_call 32; refine dI.out.mono ?_; rintro e w' ⟨rfl, y, rfl⟩) | (go_at_call 49; refine (vF.out _).mono ?_; rintro e w' ⟨rfl, y2, rfl⟩) | (refine wpList_store_row rfl 54 (.tmp 4) (.tmp 25) rfl (w.heap.size + 1 + 1) #[.int .i32 1, .int .i32 0] rfl rfl 54 _ ((Ext.h _).block _ lO |>.trans K2.out) TY rfl T2 ?_))
  rw [HAD.out]
  refine bodyPost_ret (aX (P := Tryz.prog) Tryz.results17 _ _ (w.heap.size + 1 + 1) [.int .i32 1, .int .i32 0] _ rfl (aq (setRow_heap _ _ _ _ _ _ ((Ext.h _).block _ lO |>.trans K2.out))) Tryz.underlying54 rfl TY) rfl ⟨rfl, below_setRow (BV.out.trans ((Ext.h _).mono BV.out.size)) TX _⟩
 ·rw [hv] at dI
  obtain ⟨-, ⟨b1, b2⟩, -, i1, i2⟩ := gQ h0 hv
  simp only at b1 b2 i1 i2
  obtain ⟨bn, rfl⟩ : ∃ n : Nat, b = (n : Int) := ⟨b.toNat, by omega⟩
  have hb : bn < 16 := by omega
  obtain ⟨xl, hxl⟩ : ∃ v, (rg r (bn : Int)).1 = v := ⟨_, rfl⟩
  obtain ⟨xh, jx⟩ : ∃ v, (rg r (bn : Int)).2 = v := ⟨_, rfl⟩
  have r4 : V.cell? ⟨w.heap.size + 1, bn * 2, none⟩ = some (.int .i32 xl) := by rw [← hxl]; exact K1.out.lo Uq
  have r5 : V.cell? ⟨w.heap.size + 1, bn * 2 + 1, none⟩ = some (.int .i32 xh) := by rw [← jx]; exact K1.out.hi Uq
  have hw := vE.out.at_ (bn : Int)
  rw [hxl, jx] at hw
  have ib : (bn : Int) < 16 := by omega
  have lR : w.heap.size + 1 < V.heap.size := by omega
  have rQ := UZ (fun x : Ext V => Calls.au (x := x) (af xl xh x.w))
  by_cases he : xh < xl
  ·have d := decide_eq_true he
   have HAD := UZ (show b8 ⟨21, a, bn, c, im⟩ r = (1, 0) by
    unfold b8
    rw [if_neg (by
     rintro ⟨_, _, h⟩
     unfold emp at h
     rw [show rg r ((⟨21, a, (bn : Int), c, im⟩ : bB)).b = rg r (bn : Int) from rfl, hxl, jx] at h
     simp at h
     omega)])
   clear hv hxl jx he
   go_enter Tryz.func17, Tryz.ntmps17
   go_upto_region 1 with fail
   clear hV
   go_wp2_with (first | (go_at_call 32; refine dI.out.mono ?_; rintro e w' ⟨rfl, y, rfl⟩) | (go_at_call 39; refine (rQ.out _).mono ?_; rintro e w' ⟨rfl, y3, rfl⟩) | (go_at_call 49; refine (vF.out _).mono ?_; rintro e w' ⟨rfl, y2, rfl⟩) | (refine wpList_store_row rfl 54 (.tmp 4) (.tmp 25) rfl (w.heap.size + 1 + 1) #[.int .i32 1, .int .i32 0] rfl rfl 54 _ ((Ext.h _).block _ lO |>.trans K2.out) TY rfl T2 ?_))
   rw [HAD.out]
   refine bodyPost_ret (aX (P := Tryz.prog) Tryz.results17 _ _ (w.heap.size + 1 + 1) [.int .i32 1, .int .i32 0] _ rfl (aq (setRow_heap _ _ _ _ _ _ ((Ext.h _).block _ lO |>.trans K2.out))) Tryz.underlying54 rfl TY) rfl ⟨rfl, below_setRow (BV.out.trans ((Ext.h _).mono BV.out.size)) TX _⟩
  ·have d := decide_eq_false he
   have HAD := UZ (show b8 ⟨21, a, bn, c, im⟩ r = (cj (xl + im), cj (xh + im)) by
    unfold b8
    rw [if_pos ⟨by simp, hv, by
     unfold emp
     rw [show rg r ((⟨21, a, (bn : Int), c, im⟩ : bB)).b = rg r (bn : Int) from rfl, hxl, jx]
     simpa using he⟩]
    show (cj ((rg r (bn : Int)).1 + im), cj ((rg r (bn : Int)).2 + im)) = _
    rw [hxl, jx])
   unfold aK at hw
   have w1 : IntKind.i64.wrap (xl + im) = xl + im := IntWalk.i64_in _ TX
   have w2 : IntKind.i64.wrap (xh + im) = xh + im := IntWalk.i64_in _ TX
   have Nx : ∀ (args : Array Value) (w : World), (callFunc 50 args).run Tryz.prog w = .ok (.enter 50 args) w := fun _ _ => by kernel_rfl
   have xU := UZ lF
   clear hv hxl jx he
   go_enter Tryz.func17, Tryz.ntmps17
   go_upto_region 1 with fail
   clear hV
   go_upto_region 11 with (first | (go_at_call 32; refine dI.out.mono ?_; rintro e w' ⟨rfl, y, rfl⟩) | (go_at_call 39; refine (rQ.out _).mono ?_; rintro e w' ⟨rfl, y3, rfl⟩))
   refine aT 21 TY TY ?_
   simp only [U8, List.take_zero, U9, List.drop_zero]
   repeat (go_big_quiet_step (exact Calls.bO (xU.out _ _)))
   refine wpQuiet_nil ?_
   rintro _ ⟨x1, rfl⟩
   go_wp2_with (refine wpList_store_row rfl 54 (.tmp 4) (.tmp 48) rfl (w.heap.size + 1 + 1) #[.int .i32 (cj (xl + im)), .int .i32 (cj (xh + im))] rfl rfl 54 _ ((Ext.h _).block _ lO |>.trans K2.out) TY rfl T2 ?_)
   rw [HAD.out]
   refine bodyPost_ret (aX (P := Tryz.prog) Tryz.results17 _ _ (w.heap.size + 1 + 1) [.int .i32 (cj (xl + im)), .int .i32 (cj (xh + im))] _ rfl (aq (setRow_heap _ _ _ _ _ _ ((Ext.h _).block _ lO |>.trans K2.out))) Tryz.underlying54 rfl TY) rfl ⟨rfl, below_setRow (BV.out.trans ((Ext.h _).mono BV.out.size)) TX _⟩
theorem vh (op a b c im : Int) (h0 : 0 ≤ op) (r : RG) (hr : R16 r) (w : World) (T : fM w) :
  Calls Tryz.prog 17 #[.agg #[.int .u8 op, .int .i64 a, .int .i64 b, .int .i64 c, .int .i64 im], .agg (aa r).toArray] w fun e w' => e = .returned (.agg #[.int .i32 (b8 ⟨op, a, b, c, im⟩ r).1, .int .i32 (b8 ⟨op, a, b, c, im⟩ r).2]) ∧ Below w.heap.size w w' := by
 by_cases h : op = 18 ∨ op = 19 ∨ op = 20 ∨ op = 21
 ·rcases h with rfl | rfl | rfl | rfl
  ·exact xP a b c im r hr w T
  ·exact xO a b c im r hr w T
  ·exact xN a b c im r hr w T
  ·exact xM a b c im r hr w T
 ·have e : b8 ⟨op, a, b, c, im⟩ r = (1, 0) := by unfold b8; rw [if_neg (fun hh => h hh.1)]
  rw [e]
  exact xL op a b c im h0 TX r hr w T
end
section
open Go.RowKit
theorem eO (b : Nat) (T : TypeId) : ∀ (vs : List Value) (o : Nat) (w : World) (xs : List Value), w.heap[b]? = some (.cells xs.toArray T (0, 0)) → o + vs.length ≤ xs.length → (w.setCells b o vs).heap[b]? = some (.cells (xs.take o ++ vs ++ xs.drop (o + vs.length)).toArray T (0, 0))
 | [], o, w, xs, h, hl => by simpa [World.setCells] using h
 | v :: vs, o, w, xs, h, hl => by
  rw [World.setCells]
  simp only [List.length_cons] at hl
  have h1 : (w.setCell ⟨b, o, none⟩ v).heap[b]? = some (.cells (xs.set o v).toArray T (0, 0)) := by
   rw [heap_setCell_same w b o _ T _ h]; simp
  rw [eO b T vs (o + 1) _ _ h1 T9]
  congr 2
  have e1 : (xs.set o v).take (o + 1) = xs.take o ++ [v] := by
   apply List.ext_getElem?
   intro i
   rw [List.getElem?_take, List.getElem?_set]
   by_cases hi : i < o
   ·rw [if_pos TX, if_neg TX, List.getElem?_append_left UK, List.getElem?_take, if_pos hi]
   ·by_cases hi2 : i = o
    ·subst hi2
     rw [if_pos TX, if_pos rfl, if_pos TX, List.getElem?_append_right UK, List.length_take, Nat.min_eq_left TX]
     simp
    ·rw [if_neg TX, List.getElem?_eq_none]
     rw [List.length_append, List.length_take]; simp; omega
  have e2 : (xs.set o v).drop (o + 1 + vs.length) = xs.drop (o + (v :: vs).length) := by
   apply List.ext_getElem?
   intro i
   rw [List.getElem?_drop, List.getElem?_drop, List.getElem?_set, if_neg TX, List.length_cons]
   congr 1
   omega
  rw [e1, e2]
  simp
theorem cg (b : Nat) : ∀ (vs : List Value) (o : Nat) (w : World) (k : Nat), k ≠ b → (w.setCells b o vs).heap[k]? = w.heap[k]?
 | [], o, w, k, _ => rfl
 | v :: vs, o, w, k, h => by
  rw [World.setCells, cg b vs (o + 1) _ k h, Below.heap_setCell _ _ _ _ (by show k ≠ b; exact h)]
theorem gK (b : Nat) : ∀ (vs : List Value) (o : Nat) (w : World), (w.setCells b o vs).os = w.os ∧ (w.setCells b o vs).tape = w.tape ∧ (w.setCells b o vs).output = w.output ∧ (w.setCells b o vs).heap.size = w.heap.size
 | [], o, w => ⟨rfl, rfl, rfl, rfl⟩
 | v :: vs, o, w => by
  rw [World.setCells]
  obtain ⟨h1, h2, h3, h4⟩ := gK b vs (o + 1) (w.setCell ⟨b, o, none⟩ v)
  exact ⟨h1, h2, h3, h4.trans T4⟩
theorem Fr.setCells {S : Nat → Prop} {w w' : World} {b o : Nat} (h : Fr S w w') (vs : List Value) (hp : S b ∨ w.heap.size ≤ b) : Fr S w (w'.setCells b o vs) := by
 obtain ⟨h1, h2, h3, h4⟩ := gK b vs o w'
 refine ⟨h1.trans h.os, h2.trans h.tape, h3.trans h.output, by rw [h4]; exact h.size, fun k hk hn => ?_⟩
 rw [cg b vs o w' k (by rintro rfl; rcases hp with hp | hp; exact hn hp; omega)]
 exact h.block k hk hn
theorem qR {l : List Bool} {t : Nat} (v : Bool) : (l.map Value.bool).toArray.setIfInBounds t (.bool v) = ((l.set t v).map Value.bool).toArray := by
 simp [List.map_set]
theorem EE {l : List Int} {t : Nat} (v : Int) : (l.map (Value.int .i64)).toArray.setIfInBounds t (.int .i64 v) = ((l.set t v).map (Value.int .i64)).toArray := by
 simp [List.map_set]
section
variable {V w w' : World} {ab cb rb ib pb : Nat} {bv pv : Value} {G : List ew} {B : List AB} {val : Nat → Value} {s : AS}
theorem An.there (h : An V w ab cb rb ib pb bv pv G B val s) {t : Nat} (ht : t < B.length) : w.there ib (t * 32) 32 := fun j hj => by
 have hl : t < s.cJ.length := by rw [h.ou.l2]; exact ht
 have h1 := gT h.uw
 constructor
 ·have : t * 32 + j < (jY s.cJ).length := by omega
  simp [World.cell?, h.ir, List.getElem?_eq_getElem this]
 ·simp [World.frozen?, h.ir]
theorem BR (h : ∀ r ∈ s.cJ, r.length = 16) {t : Nat} (ht : t < s.cJ.length) {r : RG} (hr : r.length = 16) (hi : w.heap[ib]? = some (.cells (jY s.cJ).toArray 56 (0, 0))) :
  (w.setCells ib (t * 32) (aa r)).heap[ib]? = some (.cells (jY (s.cJ.set t r)).toArray 56 (0, 0)) := by
 have h1 := gT h
 have hc : (aa r).length = 32 := by rw [az, hr]
 rw [eO ib _ (aa r) (t * 32) w _ hi TX, hc, BS h ht hr]
theorem An.Gd (h : An V w ab cb rb ib pb bv pv G B val s) : s.cJ.length = B.length := h.ou.l2
theorem An.first (h : An V w ab cb rb ib pb bv pv G B val s) (hf : Below w.heap.size w w') {t : Nat} (ht : t < B.length) {r : RG} (hr : R16 r) (hn : s.reach.getD t false = false) :
  An V ((w'.setCell ⟨rb, t, none⟩ (.bool true)).setCells ib (t * 32) (aa r)) ab cb rb ib pb bv pv G B val (dO s t (some r)).1 ∧ Fr (A6 rb ib pb) w ((w'.setCell ⟨rb, t, none⟩ (.bool true)).setCells ib (t * 32) (aa r)) := by
 obtain ⟨-, -, -, -, -, -, n7, n8, n9⟩ := h.ne
 have h' := h.below hf
 have F : Fr (A6 rb ib pb) w' ((w'.setCell ⟨rb, t, none⟩ (.bool true)).setCells ib (t * 32) (aa r)) := ((Fr.refl _ _).set _ (.inl (.inl rfl))).setCells _ (.inl (.inr (.inl rfl)))
 have ha := (jK h.ou ht (some r) (fun _ e => by cases e; exact hr)).1
 unfold dO at ha ⊢
 simp only [if_pos hn] at ha ⊢
 refine ⟨h'.to F ?_ ?_ ?_ ha, (Fr.of hf).trans F⟩
 ·rw [cg _ _ _ _ _ n7, heap_setCell_same _ _ _ _ _ _ h'.gv, qR]
 ·exact BR h'.uw (by rw [h'.Gd]; exact ht) hr.len (by rw [Below.heap_setCell _ _ _ _ (by show ib ≠ rb; exact n7.symm)]; exact h'.ir)
 ·rw [cg _ _ _ _ _ n9.symm, Below.heap_setCell _ _ _ _ (by show pb ≠ rb; exact n8.symm)]; exact h'.dD
theorem An.again (h : An V w ab cb rb ib pb bv pv G B val s) (hf : Below w.heap.size w w') {t : Nat} (ht : t < B.length) {r : RG} (hr : R16 r) (hn : s.reach.getD t false = true) (hne : b7 (s.cJ.getD t []) r ≠ s.cJ.getD t []) :
  An V ((w'.setCells ib (t * 32) (aa (if 2 ≤ s.rep.getD t 0 then dM (s.cJ.getD t []) (b7 (s.cJ.getD t []) r) else b7 (s.cJ.getD t []) r))).setCell ⟨pb, t, none⟩ (.int .i64 (s.rep.getD t 0 + 1))) ab cb rb ib pb bv pv G B val (dO s t (some r)).1 ∧ Fr (A6 rb ib pb) w ((w'.setCells ib (t * 32) (aa (if 2 ≤ s.rep.getD t 0 then dM (s.cJ.getD t []) (b7 (s.cJ.getD t []) r) else b7 (s.cJ.getD t []) r))).setCell ⟨pb, t, none⟩ (.int .i64 (s.rep.getD t 0 + 1))) := by
 obtain ⟨-, -, -, -, -, -, n7, n8, n9⟩ := h.ne
 have h' := h.below hf
 have hg := h.ou.get ht
 have hj := hg.join hr
 have hnew : R16 (if 2 ≤ s.rep.getD t 0 then dM (s.cJ.getD t []) (b7 (s.cJ.getD t []) r) else b7 (s.cJ.getD t []) r) := by split; exact hg.tI hj; exact hj
 have F : Fr (A6 rb ib pb) w' ((w'.setCells ib (t * 32) (aa (if 2 ≤ s.rep.getD t 0 then dM (s.cJ.getD t []) (b7 (s.cJ.getD t []) r) else b7 (s.cJ.getD t []) r))).setCell ⟨pb, t, none⟩ (.int .i64 (s.rep.getD t 0 + 1))) := ((Fr.refl _ _).setCells _ (.inl (.inr (.inl rfl)))).set _ (.inl (.inr (.inr rfl)))
 have ha := (jK h.ou ht (some r) (fun _ e => by cases e; exact hr)).1
 unfold dO at ha ⊢
 simp only [if_neg (show ¬ s.reach.getD t false = false by rw [hn]; simp), if_neg hne] at ha ⊢
 refine ⟨h'.to F ?_ ?_ ?_ ha, (Fr.of hf).trans F⟩
 ·rw [Below.heap_setCell _ _ _ _ (by show rb ≠ pb; exact n8), cg _ _ _ _ _ n7]; exact h'.gv
 ·rw [Below.heap_setCell _ _ _ _ (by show ib ≠ pb; exact n9)]
  exact BR h'.uw (by rw [h'.Gd]; exact ht) hnew.len h'.ir
 ·rw [heap_setCell_same _ _ _ _ _ _ ((cg _ _ _ _ _ n9.symm).trans h'.dD), EE]
end
end
section
open Go.RowKit
theorem nu (cv ev : Value) (sh lk : Int) (n : Nat) (cd : Nat → Int) (pc : Nat) (O3 : pc < n) (hd : (cZ (cd pc)).2 = 0) (w : World) (T : fM w) (HW : Words w cv n cd) :
  Calls Tryz.prog 24 #[.agg #[cv, ev, .int .i64 sh, .int .i64 lk], .int .i64 (pc : Int)] w fun e w' => e = .returned (.tuple #[(aF cd (pc : Int)).val, .bool true]) ∧ Below w.heap.size w w' := by
 obtain ⟨A, cap, rfl, hc1, hc2, hc3⟩ := HW.at_
 obtain ⟨b, off, rfl, hb, hc⟩ := hc3 TX
 have hwd := HW.wd pc O3
 have hn6 := HW.le
 have hcell := hc pc O3
 have hcap := eZ hc2
 obtain ⟨x, hx⟩ : ∃ x, cd pc = x := ⟨_, rfl⟩
 rw [hx] at hwd hcell hd
 obtain ⟨V, hV, k0, k1, bV, sV⟩ : ∃ V, (w.alloc (.cells #[.slice (some ⟨b, off, none⟩) n cap, ev, .int .i64 sh, .int .i64 lk] 25)).alloc (.cells #[.int .u8 0, .int .i64 0, .int .i64 0, .int .i64 0, .int .i64 0] 64) = V ∧ V.heap[w.heap.size]? = some (.cells #[.slice (some ⟨b, off, none⟩) n cap, ev, .int .i64 sh, .int .i64 lk] 25 (0, 0)) ∧ V.heap[w.heap.size + 1]? = some (.cells #[.int .u8 0, .int .i64 0, .int .i64 0, .int .i64 0, .int .i64 0] 64 (0, 0)) ∧ Below w.heap.size w V ∧ V.heap.size = w.heap.size + 1 + 1 := by
  refine ⟨_, rfl, ?_, bg _ _ T4, ((Below.refl _ _).alloc (Nat.le_refl _) _).alloc T4 _, by simp⟩
  rw [heap_alloc_old _ _ T4]; exact heap_alloc_new _ _
 have v0 : V.cell? ⟨w.heap.size, 0, none⟩ = some (.slice (some ⟨b, off, none⟩) n cap) := by simp [World.cell?, k0]
 have l0 : w.heap.size < V.heap.size := by omega
 have lb : b < V.heap.size := by omega
 have vx : V.cell? ⟨b, off + pc, none⟩ = some (.int .u32 x) := (bV.cell (p := ⟨b, off + pc, none⟩) hb).trans hcell
 have dp : decide ((pc : Int) < 0) = false := decide_eq_false TX
 have dn : decide ((n : Int) ≤ (pc : Int)) = false := decide_eq_false TX
 have dn2 : (pc : Int) < (n : Int) := by omega
 obtain ⟨op, a, b', c, im, hi⟩ : ∃ op a b c im, (cZ x).1 = ⟨op, a, b, c, im⟩ := ⟨_, _, _, _, _, rfl⟩
 have HD := UZ (show Calls Tryz.prog 62 #[.int .u32 x] V fun e w' => e = .returned (.tuple #[.agg #[.int .u8 op, .int .i64 a, .int .i64 b', .int .i64 c, .int .i64 im], .int .i64 0]) ∧ Below V.heap.size V w' from by
  have := kQ x hwd.1 hwd.2 V (T.below bV)
  rw [hd, hi] at this
  exact this)
 have HI := UZ (show aF cd (pc : Int) = ⟨op, a, b', c, im⟩ by unfold aF; rw [show ((pc : Int)).toNat = pc by omega, hx]; exact hi)
 have BV := UZ bV
 have K1 := UZ k1
 have SV := UZ sV
 clear hc hc3 hx hd hi bV k0 k1 sV hcell HW hc2 hb
 go_enter Tryz.func24, Tryz.ntmps24
 go_upto_region 4 with (first | (go_at_call 62; refine HD.out.mono ?_; rintro e w1 ⟨rfl, hb1⟩))
 obtain ⟨Y, hY⟩ : ∃ Y, w1.alloc (.cells #[.int .u8 op, .int .i64 a, .int .i64 b', .int .i64 c, .int .i64 im] 64) = Y := ⟨_, rfl⟩
 rw [hY]
 have bY : Below w1.heap.size w1 Y := hY ▸ (Below.refl _ _).alloc (Nat.le_refl _) _
 obtain ⟨z0, z1, z2, z3, z4, lY⟩ := aG (show Y.heap[w1.heap.size]? = some (.cells #[.int .u8 op, .int .i64 a, .int .i64 b', .int .i64 c, .int .i64 im] 64 (0, 0)) from hY ▸ heap_alloc_new _ _)
 have N4 : Below V.heap.size V Y := hb1.trans (bY.mono hb1.size)
 have KY : Y.heap[w.heap.size + 1]? = some (.cells #[.int .u8 0, .int .i64 0, .int .i64 0, .int .i64 0, .int .i64 0] 64 (0, 0)) := (N4.block _ (by have := SV.out; omega)).trans K1.out
 have lO : w.heap.size + 1 < Y.heap.size := (Array.getElem?_eq_some_iff.1 KY).1
 have Qd := UZ KY
 have BY := UZ (BV.out.trans (N4.mono BV.out.size))
 clear hY bY N4 KY hb1 hV vx v0
 go_wp2_with (refine wpList_store_row rfl 64 (.tmp 4) (.tmp 27) rfl (w.heap.size + 1) #[.int .u8 op, .int .i64 a, .int .i64 b', .int .i64 c, .int .i64 im] rfl rfl 64 _ Qd.out TY rfl T2 ?_)
 rw [HI.out]
 refine bodyPost_ret (results_cell_tmp (P := Tryz.prog) Tryz.results24 _ _ (w.heap.size + 1) [.int .u8 op, .int .i64 a, .int .i64 b', .int .i64 c, .int .i64 im] _ rfl (aq (setRow_heap _ _ _ _ _ _ Qd.out)) Tryz.underlying64 rfl TY) rfl ⟨rfl, below_setRow BY.out TX _⟩
end
section
open Go.RowKit
theorem lJ {z : Array Value} {m k : Nat} (hk : z.size = k) (h0 : 0 < k) {xs : List Value} (hl : xs.length = m * k) (hx : ∀ i j, i < m → j < k → xs[i * k + j]? = z[j]?) : madeCells z (m * k) = xs.toArray := by
 apply Array.ext
 ·simp [madeCells, hl]
 ·intro q h1 h2
  have hq : q < m * k := by simpa [hl] using h2
  have h3 : q / k < m := (Nat.div_lt_iff_lt_mul h0).2 hq
  have h4 : q % k < k := Nat.mod_lt _ h0
  have e : q / k * k + q % k = q := by rw [Nat.mul_comm]; exact Nat.div_add_mod q k
  have h5 := hx (q / k) (q % k) h3 h4
  rw [e] at h5
  have h6 : xs[q]? = some xs[q] := List.getElem?_eq_getElem (by simpa using h2)
  rw [h6] at h5
  simp only [madeCells, Array.getElem_map, Array.getElem_range, U0, hk]
  simp only [getElem!_def, ← h5]
theorem JQ (n : Nat) : madeCells #[.bool false] (n * 1) = ((List.replicate n false).map Value.bool).toArray :=
 lJ (k := 1) rfl T1 T4 (fun i j hi hj => by
  have e : j = 0 := by omega
  subst e
  simp [hi])
theorem JP (n : Nat) : madeCells #[.int .i64 0] (n * 1) = ((List.replicate n (0 : Int)).map (Value.int .i64)).toArray :=
 lJ (k := 1) rfl T1 T4 (fun i j hi hj => by
  have e : j = 0 := by omega
  subst e
  simp [hi])
theorem JN (n : Nat) : madeCells #[.slice none 0 0] (n * 1) = ((List.range n).map fun _ => Value.slice none 0 0).toArray :=
 lJ (k := 1) rfl T1 T4 (fun i j hi hj => by
  have e : j = 0 := by omega
  subst e
  simp [hi])
theorem JO (n : Nat) : madeCells (aa ak).toArray (n * 32) = (jY (List.replicate n ak)).toArray := by
 have h16 : ∀ r ∈ List.replicate n ak, r.length = 16 := fun r hr => by rw [(List.mem_replicate.1 hr).2]; rfl
 refine lJ (by rw [List.size_toArray, az]; rfl) TX (by rw [gT h16]; simp) (fun i j hi hj => ?_)
 rw [jL h16 (r := ak) (by simp [hi]) j hj]
 simp
structure CM (V wr : World) (ab cb rb ib pb n : Nat) (bv pv : Value) (val : Nat → Value) (fL : Nat → List bB) : Prop where
 aB : Below V.heap.size V wr
 aV : V.heap.size ≤ ab
 rV : V.heap.size ≤ rb
 iV : V.heap.size ≤ ib
 pV : V.heap.size ≤ pb
 head : wr.heap[ab]? = some (.cells #[bv, pv, .slice (some ⟨cb, 0, none⟩) n n, .slice (some ⟨rb, 0, none⟩) n n, .slice (some ⟨ib, 0, none⟩) n n, .slice (some ⟨pb, 0, none⟩) n n] 84 (0, 0))
 jC : wr.ownsRow V.heap.size 50 1 (.slice (some ⟨cb, 0, none⟩) n n) n ((List.range n).map fun i => val i)
 own : ∀ (i : Nat), i < n → wr.ownsRow V.heap.size 64 5 (val i) (fL i).length (dZ (fL i))
 yg : ∀ (i j : Nat), i < n → j < n → i ≠ j → ∀ q, (val i).ownBlock = some q → (val j).ownBlock ≠ some q
 gv : wr.heap[rb]? = some (.cells ((List.replicate n false).map Value.bool).toArray 4 (0, 0))
 ir : wr.heap[ib]? = some (.cells (jY (List.replicate n ak)).toArray 56 (0, 0))
 dD : wr.heap[pb]? = some (.cells ((List.replicate n (0 : Int)).map (Value.int .i64)).toArray 3 (0, 0))
section
variable {V wr : World} {ab cb rb ib pb n : Nat} {bv pv : Value} {val : Nat → Value} {fL : Nat → List bB}
theorem CM.lt (h : CM V wr ab cb rb ib pb n bv pv val fL) : ab < wr.heap.size ∧ cb < wr.heap.size ∧ rb < wr.heap.size ∧ ib < wr.heap.size ∧ pb < wr.heap.size :=
 ⟨ax h.head, (h.jC.lt cb rfl).2, ax h.gv, ax h.ir, ax h.dD⟩
theorem CM.below {wr' : World} (h : CM V wr ab cb rb ib pb n bv pv val fL) (hb : Below wr.heap.size wr wr') : CM V wr' ab cb rb ib pb n bv pv val fL := by
 obtain ⟨l1, l2, l3, l4, l5⟩ := h.lt
 exact ⟨h.aB.trans (hb.mono h.aB.size), h.aV, h.rV, h.iV, h.pV, (hb.block _ l1).trans h.head, bF h.jC hb, fun i hi => bF (h.own i hi) hb, h.yg, (hb.block _ l3).trans h.gv, (hb.block _ l4).trans h.ir, (hb.block _ l5).trans h.dD⟩
theorem CM.cells (h : CM V wr ab cb rb ib pb n bv pv val fL) : wr.cell? ⟨ab, 2, none⟩ = some (.slice (some ⟨cb, 0, none⟩) n n) ∧ wr.cell? ⟨ab, 3, none⟩ = some (.slice (some ⟨rb, 0, none⟩) n n) ∧ wr.cell? ⟨ab, 4, none⟩ = some (.slice (some ⟨ib, 0, none⟩) n n) := by
 refine ⟨?_, ?_, ?_⟩ <;> simp [World.cell?, h.head]
theorem CM.at_ (h : CM V wr ab cb rb ib pb n bv pv val fL) {i : Nat} (hi : i < n) : wr.cell? ⟨cb, i, none⟩ = some (val i) ∧ wr.frozen? ⟨cb, i, none⟩ = false :=
 ⟨by rw [h.jC.cellAt _ TX, List.getElem?_map, List.getElem?_range hi]; rfl, h.jC.frozenAt _⟩
theorem CM.Eb (h : CM V wr ab cb rb ib pb n bv pv val fL) {i : Nat} (hi : i < n) : ∀ q, (val i).ownBlock = some q → V.heap.size ≤ q ∧ q ≠ ab ∧ q ≠ cb ∧ q ≠ rb ∧ q ≠ ib ∧ q ≠ pb := fun q hq => by
 have oi := h.own i hi
 obtain ⟨cs, hc⟩ := eU oi hq
 exact ⟨(oi.lt q hq).1, bK hc h.head T1, fun e => eI oi h.jC T1 q hq UI, bK hc h.gv T1, bK hc h.ir T1, bK hc h.dD T1⟩
theorem CM.PZ (h : CM V wr ab cb rb ib pb n bv pv val fL) : ab ≠ cb ∧ rb ≠ cb ∧ ib ≠ cb ∧ pb ≠ cb := by
 obtain ⟨cs, hc⟩ := eU h.jC (q := cb) rfl
 exact ⟨bK h.head hc T1, bK h.gv hc T1, bK h.ir hc T1, bK h.dD hc T1⟩
theorem CM.app {w2 W' : World} {i : Nat} {y : bB} {v' : Value} (h : CM V wr ab cb rb ib pb n bv pv val fL) (hi : i < n) (hb : Below wr.heap.size wr w2) (hg : w2.grownBy W' (val i).ownBlock)
  (hown : W'.ownsRow V.heap.size 64 5 v' ((fL i).length + 1) (dZ (fL i ++ [y]))) (rD : v'.ownBlock = (val i).ownBlock ∨ v'.ownBlock = some w2.heap.size) :
  CM V (W'.setCell ⟨cb, i, none⟩ v') ab cb rb ib pb n bv pv (upd val i v') (upd fL i (fL i ++ [y])) := by
 have G := grown_of hb hg
 have S := dB W' cb i v'
 obtain ⟨l1, l2, l3, l4, l5⟩ := h.lt
 obtain ⟨c1, c2, c3, c4⟩ := h.PZ
 have Ag := G.size
 have NG := h.aB.size
 have p1 := (h.jC.lt cb rfl).1
 have oi := h.own i hi
 have ob := h.Eb hi
 have same : ∀ k, k < wr.heap.size → k ≠ cb → (∀ q, (val i).ownBlock = some q → k ≠ q) → (W'.setCell ⟨cb, i, none⟩ v').heap[k]? = wr.heap[k]? := fun k hk hkc Rw => by
  rw [Below.heap_setCell _ _ _ _ (by show k ≠ cb; exact hkc)]
  exact G.block k hk (fun e => Rw k e.symm rfl)
 have p' : W'.ownsRow V.heap.size 50 1 (.slice (some ⟨cb, 0, none⟩) n n) n ((List.range n).map fun i => val i) := h.jC.kept G (.inr (fun e' => (ob cb e'.symm).2.2.1 rfl))
 have uo : ∀ q, v'.ownBlock = some q → q ≠ cb := fun q hq e => eI hown p' T1 q hq UI
 refine ⟨?_, h.aV, h.rV, h.iV, h.pV, (same ab l1 c1 (fun q hq => (ob q hq).2.1.symm)).trans h.head, ?_, fun j hj => ?_, fun a c ha hc hac q hq => ?_, (same rb l3 c2 (fun q hq => (ob q hq).2.2.2.1.symm)).trans h.gv, (same ib l4 c3 (fun q hq => (ob q hq).2.2.2.2.1.symm)).trans h.ir, (same pb l5 c4 (fun q hq => (ob q hq).2.2.2.2.2.symm)).trans h.dD⟩
 ·exact ((h.aB.grown G NG (fun k hk => (ob k hk).1)).grown S TX (fun k hk => by cases hk; exact p1))
 ·rw [← oV n val hi v']
  exact (p'.stored i v').1
 ·unfold upd
  by_cases e : j = i
  ·subst e
   rw [if_pos rfl, if_pos rfl]
   rw [show (fL j ++ [y]).length = (fL j).length + 1 by simp]
   exact hown.kept S (by
    cases hv : v'.ownBlock with
    | none => exact .inl rfl
    | some q => exact .inr (fun e' => uo q hv (by simpa using e')))
  ·rw [if_neg e, if_neg e]
   refine ((h.own j hj).kept G ?_).kept S ?_
   ·cases hv : (val j).ownBlock with
    | none => exact .inl rfl
    | some q => exact .inr (fun e' => h.yg i j hi hj (fun e2 => e e2.symm) q e'.symm hv)
   ·cases hv : (val j).ownBlock with
    | none => exact .inl rfl
    | some q =>
     refine .inr (fun e' => ?_)
     have I8 : q = cb := by simpa using e'
     exact eI (h.own j hj) h.jC T1 q hv (by rw [I8]; rfl)
 ·have new : ∀ a, a < n → a ≠ i → ∀ q, v'.ownBlock = some q → (val a).ownBlock ≠ some q := fun a ha hai q hq hq2 => by
   rcases rD with h1 | h1
   ·rw [h1] at hq
    exact h.yg i a hi ha (fun e => hai e.symm) q hq hq2
   ·rw [h1] at hq
    cases hq
    have := ((h.own a ha).lt _ hq2).2
    have := hb.size
    omega
  unfold upd at hq ⊢
  by_cases e1 : a = i
  ·rw [if_pos e1] at hq
   rw [if_neg (fun e => hac (e1.trans e.symm))]
   exact new c hc (fun e => hac (e1.trans e.symm)) q hq
  ·rw [if_neg e1] at hq
   by_cases e2 : c = i
   ·rw [if_pos e2]
    exact fun hq2 => new a ha e1 q hq2 hq
   ·rw [if_neg e2]
    exact h.yg a c ha hc hac q hq
theorem CM.start {B : List AB} {G : List ew} (h : CM V wr ab cb rb ib pb n bv pv val fL) (hB : jH V bv G) (hl : B.length = n) (hG : G.length = n) (h0 : 0 < n) (hn : n ≤ 1000000) (gy : ∀ (k : Nat) (x : ew) (b : AB), G[k]? = some x → B[k]? = some b → x.nx = b.nx) (hc : ∀ (k : Nat) (b : AB), B[k]? = some b → fL k = b.code) :
  An V (wr.setCell ⟨rb, 0, none⟩ (.bool true)) ab cb rb ib pb bv pv G B val (cX n) := by
 subst hl
 obtain ⟨c1, c2, c3, c4⟩ := h.PZ
 have n1 := bK h.head h.gv T1
 have n2 := bK h.gv h.ir T1
 have n3 := bK h.gv h.dD T1
 have S := dB wr rb 0 (.bool true)
 refine ⟨h.aB.grown S h.aB.size (fun k hk => by cases hk; exact h.rV), hB, hG, gy, hn, h.aV, h.rV, h.iV, h.pV, ?_, ?_, fun k b hk => ?_, ?_, ?_, ?_, vR _⟩
 ·rw [Below.heap_setCell _ _ _ _ (by show ab ≠ rb; exact n1)]; exact h.head
 ·exact h.jC.kept S (.inr (by simp [Value.ownBlock]; exact fun e => c2 e.symm))
 ·have mV := (List.getElem?_eq_some_iff.1 hk).1
  have ho := h.own k mV
  rw [hc k b hk] at ho
  refine ho.kept S ?_
  cases hv : (val k).ownBlock with
  | none => exact .inl rfl
  | some q => exact .inr (fun e' => (h.Eb mV q hv).2.2.2.1 (by simpa using e'))
 ·rw [heap_setCell_same _ _ _ _ _ _ h.gv, qR]
  rfl
 ·rw [Below.heap_setCell _ _ _ _ (by show ib ≠ rb; exact n2.symm)]; exact h.ir
 ·rw [Below.heap_setCell _ _ _ _ (by show pb ≠ rb; exact n3.symm)]; exact h.dD
end
end
section
open Go.RowKit
def mD (w : World) (rv iv : Value) (rl : List Bool) (il : List RG) : Prop :=
 (∃ A cap, rv = .slice A rl.length cap ∧ rl.length ≤ cap ∧ cap ≤ maxLen ∧ (0 < rl.length → ∃ q off, A = some ⟨q, off, none⟩ ∧ q < w.heap.size ∧ ∀ k, k < rl.length → w.cell? ⟨q, off + k, none⟩ = some (.bool (rl.getD k false)))) ∧
 (∃ A cap, iv = .slice A il.length cap ∧ il.length ≤ cap ∧ cap ≤ maxLen ∧ (0 < il.length → ∃ q off, A = some ⟨q, off, none⟩ ∧ q < w.heap.size ∧ ∀ k, k < il.length → w.rangeAt q (off + k * 32) (aa (il.getD k []))))
theorem mD.below {w w' : World} {rv iv : Value} {rl : List Bool} {il : List RG} (h : mD w rv iv rl il) (hb : Below w.heap.size w w') : mD w' rv iv rl il := by
 obtain ⟨⟨A, cap, e1, e2, e3, e4⟩, ⟨A', cap', f1, f2, f3, f4⟩⟩ := h
 refine ⟨⟨A, cap, e1, e2, e3, fun h0 => ?_⟩, ⟨A', cap', f1, f2, f3, fun h0 => ?_⟩⟩
 ·obtain ⟨q, off, ha, hq, hc⟩ := e4 h0
  exact ⟨q, off, ha, by have := hb.size; omega, fun k hk => (hb.cell (p := ⟨q, off + k, none⟩) hq).trans (hc k hk)⟩
 ·obtain ⟨q, off, ha, hq, hc⟩ := f4 h0
  exact ⟨q, off, ha, by have := hb.size; omega, fun k hk j v hv => (hb.cell (p := ⟨q, off + k * 32 + j, none⟩) hq).trans (hc k hk j v hv)⟩
def codeFrom (cd : Nat → Int) (lo : Int) (m : Nat) : List bB := (List.range m).map fun i : Nat => aF cd (lo + (i : Int))
theorem fo (cd : Nat → Int) (lo : Int) (m : Nat) : codeFrom cd lo (m + 1) = codeFrom cd lo m ++ [aF cd (lo + m)] := by
 unfold codeFrom
 rw [List.range_succ, List.map_append]
 rfl
theorem mz (cd : Nat → Int) (lo : Int) (a : Nat) : ∀ b, codeFrom cd lo (a + b) = codeFrom cd lo a ++ codeFrom cd (lo + a) b
 | 0 => by simp [codeFrom]
 | b + 1 => by
  rw [← Nat.add_assoc, fo, mz cd lo a b, fo, List.append_assoc]
  congr 4
  omega
theorem jt : ∀ (l l' : List bB) (r : RG), dJ (l ++ l') r = match dJ l r with | none => none | some r' => dJ l' r'
 | [], l', r => rfl
 | i :: l, l', r => by
  simp only [List.cons_append, dJ]
  cases bQ i r with
  | none => rfl
  | some r' => exact jt l l' r'
def pY (cd : Nat → Int) (G : List ew) (rl : List Bool) (il : List RG) (pc : Int) : Option RG :=
 if rl.length = G.length ∧ il.length = G.length then
  match jl G pc with
  | none => none
  | some k => if rl.getD k false = true then dJ (codeFrom cd (G.getD k ⟨0, 0, []⟩).lo (pc - (G.getD k ⟨0, 0, []⟩).lo).toNat) (il.getD k []) else none
 else none
theorem Df {G : List ew} {pc : Int} {k : Nat} (h : jl G pc = some k) : ∃ x, G[k]? = some x ∧ x.lo ≤ pc ∧ pc < x.hi := by
 unfold jl at h
 rw [List.findIdx?_eq_some_iff_getElem] at h
 obtain ⟨hk, h1, _⟩ := h
 refine ⟨G[k], List.getElem?_eq_getElem hk, ?_⟩
 exact of_decide_eq_true (p := ES pc G[k]) h1
theorem wO {w : World} {G : Nat} {bv pv rv iv dv cv ev : Value} {sh lk : Int} : ∃ V, ((((w.alloc (.cells #[cv, ev, .int .i64 sh, .int .i64 lk] 25)).alloc (.cells #[bv, pv] 30)).alloc (.cells #[rv, iv, dv] 42)).alloc (.cells Va.toArray 56)) = V ∧ V.heap[w.heap.size]? = some (.cells #[cv, ev, .int .i64 sh, .int .i64 lk] 25 (0, 0)) ∧ V.heap[w.heap.size + 1]? = some (.cells #[bv, pv] 30 (0, 0)) ∧ V.heap[w.heap.size + 1 + 1]? = some (.cells #[rv, iv, dv] 42 (0, 0)) ∧ aC V (w.heap.size + 1 + 1 + 1) 56 ak ∧ Below w.heap.size w V ∧ V.heap.size = w.heap.size + 1 + 1 + 1 + 1 := by
 obtain ⟨V, e, h0, h1, h2, h3, hb, hs⟩ := pJ w #[cv, ev, .int .i64 sh, .int .i64 lk] #[bv, pv] #[rv, iv, dv] Va.toArray 25 30 42 56
 exact ⟨V, e, h0, h1, h2, h3, hb, by rw [← e]; simp⟩
theorem xG (cv ev bv pv rv iv dv : Value) (sh lk : Int) (n : Nat) (cd : Nat → Int) (G : List ew) (rl : List Bool) (il : List RG) (pc : Int) (w : World) (T : fM w) (HW : Words w cv n cd) (HG : jH w bv G) (HR : mD w rv iv rl il)
  (hl : ∀ r ∈ il, R16 r) (hok : ∀ x ∈ G, 0 ≤ x.lo ∧ ∀ a : Nat, x.lo ≤ (a : Int) → (a : Int) < x.hi → a < n ∧ (cZ (cd a)).2 = 0 ∧ 0 ≤ (aF cd (a : Int)).op) :
  Calls Tryz.prog 21 #[.agg #[cv, ev, .int .i64 sh, .int .i64 lk], .agg #[bv, pv], .agg #[rv, iv, dv], .int .i64 pc] w fun e w' => e = .returned (cE (pY cd G rl il pc)) ∧ Below w.heap.size w w' := by
 have Bj := UZ (fun (w' : World) (hb : Below w.heap.size w w') => AK bv pv G pc w' (HG.below hb))
 have DN := UZ HW
 have HT := UZ T
 have TV := UZ HR
 have Js := UZ HG
 have HL := UZ hl
 have rP := UZ hok
 obtain ⟨RA, Cc, I7, r2, r3, r4⟩ := HR.1
 obtain ⟨IA, CS, hiv, i2, i3, i4⟩ := HR.2
 have Tm := eZ r3
 have MV := eZ i3
 obtain ⟨GA, cN, nN, g2, g3, g4⟩ := id HG
 have Sa := eZ g3
 obtain ⟨V, hV, k0, k1, k2, kz, bV, sV⟩ := wO (w := w) (G := 0) (bv := bv) (pv := pv) (rv := rv) (iv := iv) (dv := dv) (cv := cv) (ev := ev) (sh := sh) (lk := lk)
 have a0 : V.cell? ⟨w.heap.size, 0, none⟩ = some cv := by simp [World.cell?, k0]
 have a1 : V.cell? ⟨w.heap.size, 1, none⟩ = some ev := by simp [World.cell?, k0]
 have a2 : V.cell? ⟨w.heap.size, 2, none⟩ = some (.int .i64 sh) := by simp [World.cell?, k0]
 have a3 : V.cell? ⟨w.heap.size, 3, none⟩ = some (.int .i64 lk) := by simp [World.cell?, k0]
 have b0 : V.cell? ⟨w.heap.size + 1, 0, none⟩ = some bv := by simp [World.cell?, k1]
 have b1 : V.cell? ⟨w.heap.size + 1, 1, none⟩ = some pv := by simp [World.cell?, k1]
 have c0 : V.cell? ⟨w.heap.size + 1 + 1, 0, none⟩ = some rv := by simp [World.cell?, k2]
 have c1 : V.cell? ⟨w.heap.size + 1 + 1, 1, none⟩ = some iv := by simp [World.cell?, k2]
 have l0 : w.heap.size < V.heap.size := by omega
 have l1 : w.heap.size + 1 < V.heap.size := by omega
 have l2 : w.heap.size + 1 + 1 < V.heap.size := by omega
 have KZ := UZ kz
 have BV := UZ bV
 have SV := UZ sV
 have N9 := UZ kz
 obtain ⟨gn, hgn⟩ : ∃ m, G.length = m := ⟨_, rfl⟩
 obtain ⟨rn, Na⟩ : ∃ m, rl.length = m := ⟨_, rfl⟩
 obtain ⟨cJ, hin⟩ : ∃ m, il.length = m := ⟨_, rfl⟩
 rw [hgn] at nN g2
 rw [Na] at I7 r2
 rw [hin] at hiv i2
 subst nN I7 hiv
 have Bh := UZ hgn
 have GL := UZ Na
 have tv := UZ hin
 have vB := UZ r4
 have Bg := UZ i4
 have Lt := UZ g4
 clear HW T HR hl hok r4 i4 g4 HG hgn Na hin k0 k1 k2 kz bV
 by_cases hlen : rn = gn ∧ cJ = gn
 case neg =>
  have HB := UZ (show pY cd G rl il pc = none by unfold pY; rw [Bh.out, GL.out, tv.out, if_neg hlen])
  by_cases h1 : rn = gn
  ·have d1 : ((rn : Int) != (gn : Int)) = false := by simp; omega
   have d2 : ((cJ : Int) != (gn : Int)) = true := by simp; omega
   clear hlen h1
   go_enter Tryz.func21, Tryz.ntmps21
   go_wp2_with (refine wpList_store_row rfl 56 (.tmp 8) (.tmp 32) rfl (w.heap.size + 1 + 1 + 1) Va.toArray rfl rfl 56 _ N9.out TY rfl T2 ?_)
   refine bodyPost_ret (aP Tryz.results21 _ (w.heap.size + 1 + 1 + 1) ag rfl (aC.row (r := ak) KZ.out)) rfl ⟨?_, below_setRow BV.out TX _⟩
   rw [HB.out]; rfl
  ·have d1 : ((rn : Int) != (gn : Int)) = true := by simp; omega
   clear hlen h1
   go_enter Tryz.func21, Tryz.ntmps21
   go_wp2_with (refine wpList_store_row rfl 56 (.tmp 8) (.tmp 32) rfl (w.heap.size + 1 + 1 + 1) Va.toArray rfl rfl 56 _ N9.out TY rfl T2 ?_)
   refine bodyPost_ret (aP Tryz.results21 _ (w.heap.size + 1 + 1 + 1) ag rfl (aC.row (r := ak) KZ.out)) rfl ⟨?_, below_setRow BV.out TX _⟩
   rw [HB.out]; rfl
 obtain ⟨e1, e2⟩ := hlen
 have HE := UZ (And.intro e1 e2)
 subst e1
 subst e2
 have d1 : ((cJ : Int) != (cJ : Int)) = false := by simp
 have D6 := UZ (show pY cd G rl il pc = match jl G pc with
  | none => none
  | some k => if rl.getD k false = true then dJ (codeFrom cd (G.getD k ⟨0, 0, []⟩).lo (pc - (G.getD k ⟨0, 0, []⟩).lo).toNat) (il.getD k []) else none by unfold pY; rw [Bh.out, GL.out, tv.out, if_pos ⟨rfl, rfl⟩])
 have xV := UZ (Bj.out V BV.out)
 clear Bj
 rcases hf : jl G pc with _ | k
 ·rw [hf] at xV D6
  simp only [Option.getD_none, Option.isSome_none] at xV
  clear hf
  go_enter Tryz.func21, Tryz.ntmps21
  go_wp2_with (first | (go_at_call 59; refine xV.out.mono ?_; rintro e w1 ⟨rfl, hb1⟩) | (refine wpList_store_row rfl 56 (.tmp 8) (.tmp 58) rfl (w.heap.size + 1 + 1 + 1) Va.toArray rfl rfl 56 _ (N9.out.keep hb1) TY rfl T2 ?_))
  refine bodyPost_ret (aP Tryz.results21 _ (w.heap.size + 1 + 1 + 1) ag rfl (aC.row (r := ak) (KZ.out.keep hb1))) rfl ⟨?_, below_setRow (BV.out.trans (hb1.mono BV.out.size)) TX _⟩
  rw [D6.out]; rfl
 rw [hf] at xV D6
 simp only [Option.getD_some, Option.isSome_some] at xV D6
 obtain ⟨x, hx, hx1, hx2⟩ := Df hf
 have mV := (List.getElem?_eq_some_iff.1 hx).1
 rw [Bh.out] at mV
 rw [show G.getD k ⟨0, 0, []⟩ = x by simp [List.getD, hx]] at D6
 obtain ⟨rq, EB, rfl, OI, rc⟩ := vB.out (by rw [GL.out]; omega)
 obtain ⟨iq, JV, rfl, Ri, ic⟩ := Bg.out (by rw [tv.out]; omega)
 obtain ⟨gq, mW, rfl, Fu, gc⟩ := Lt.out (by rw [Bh.out]; omega)
 have MM := rc k (by rw [GL.out]; exact mV)
 have OU := ic k (by rw [tv.out]; exact mV)
 obtain ⟨PX, -⟩ := gc k x hx
 obtain ⟨rb, hrb⟩ : ∃ rb, rl.getD k false = rb := ⟨_, rfl⟩
 obtain ⟨r, hr⟩ : ∃ r, il.getD k [] = r := ⟨_, rfl⟩
 have r16 : R16 r := by
  rw [← hr]
  have O8 : k < il.length := by rw [tv.out]; exact mV
  rw [show il.getD k [] = il[k] by simp [List.getD, List.getElem?_eq_getElem O8]]
  exact HL.out _ (List.getElem_mem O8)
 rw [hrb] at MM D6
 rw [hr] at OU D6
 have dk1 : ((k : Int) < 0) = False := by simp
 have dk2 : decide ((cJ : Int) ≤ (k : Int)) = false := decide_eq_false TX
 have dk3 : (k : Int) < (cJ : Int) := by omega
 have P5 := UZ (And.intro hx1 hx2)
 have XM := UZ (rP.out x (List.mem_of_getElem? hx))
 have R := UZ r16
 clear hf hx rc ic gc hrb hr r16 HL vB Bg Lt hx1 hx2
 rcases rb with _ | _
 ·go_enter Tryz.func21, Tryz.ntmps21
  go_upto_region 5 with (go_at_call 59; refine xV.out.mono ?_; rintro e w1 ⟨rfl, hb1⟩)
  have bw1 : Below w.heap.size w w1 := BV.out.trans (hb1.mono BV.out.size)
  have q0 : w1.cell? ⟨w.heap.size + 1 + 1, 0, none⟩ = _ := (hb1.cell (p := ⟨w.heap.size + 1 + 1, 0, none⟩) l2).trans c0
  have q1 : w1.cell? ⟨rq, EB + k, none⟩ = _ := (bw1.cell (p := ⟨rq, EB + k, none⟩) OI).trans MM
  have lq : w.heap.size + 1 + 1 < w1.heap.size := by have := hb1.size; omega
  have lr : rq < w1.heap.size := by have := bw1.size; omega
  have IE := UZ (KZ.out.keep hb1)
  have A4 := UZ bw1
  clear hb1 bw1 hV
  go_wp2_with (refine wpList_store_row rfl 56 (.tmp 8) (.tmp 58) rfl (w.heap.size + 1 + 1 + 1) Va.toArray rfl rfl 56 _ IE.out TY rfl T2 ?_)
  refine bodyPost_ret (aP Tryz.results21 _ (w.heap.size + 1 + 1 + 1) ag rfl (aC.row (r := ak) IE.out)) rfl ⟨?_, below_setRow A4.out TX _⟩
  rw [D6.out]; rfl
 ·rw [if_pos rfl] at D6
  go_enter Tryz.func21, Tryz.ntmps21
  go_upto_region 5 with (go_at_call 59; refine xV.out.mono ?_; rintro e w1 ⟨rfl, hb1⟩)
  have bw1 : Below w.heap.size w w1 := BV.out.trans (hb1.mono BV.out.size)
  have q0 : w1.cell? ⟨w.heap.size + 1 + 1, 0, none⟩ = _ := (hb1.cell (p := ⟨w.heap.size + 1 + 1, 0, none⟩) l2).trans c0
  have q1 : w1.cell? ⟨rq, EB + k, none⟩ = _ := (bw1.cell (p := ⟨rq, EB + k, none⟩) OI).trans MM
  have q2 : w1.cell? ⟨w.heap.size + 1 + 1, 1, none⟩ = _ := (hb1.cell (p := ⟨w.heap.size + 1 + 1, 1, none⟩) l2).trans c1
  have lq : w.heap.size + 1 + 1 < w1.heap.size := by have := hb1.size; omega
  have lr : rq < w1.heap.size := by have := bw1.size; omega
  have li : iq < w1.heap.size := by have := bw1.size; omega
  have IE := UZ (KZ.out.keep hb1)
  have A4 := UZ bw1
  have fR := UZ (show w1.rangeAt iq (JV + k * 32) (aa r) from fun j v hv => (bw1.cell (p := ⟨iq, JV + k * 32 + j, none⟩) Ri).trans (OU j v hv))
  have V1 := UZ hb1
  clear hb1 bw1 hV
  go_upto_region 8 with (first | (refine wpList_load_mid rfl _ _ rfl _ _ rfl (aa r) _ fR.out Tryz.underlying56 rfl (hi3 R.out.len) ?_) | (refine wpList_store_row rfl 56 (.tmp 13) (.tmp 63) rfl w1.heap.size (aa r).toArray rfl rfl 56 _ (heap_alloc_new _ _) (hi4 R.out.len) (hi6 R.out.len ag) (aj r) ?_))
  obtain ⟨X, hX⟩ : ∃ X, (w1.alloc (.cells Va.toArray 56)).setRow w1.heap.size (aa r).toArray = X := ⟨_, rfl⟩
  rw [hX]
  have bX : Below w1.heap.size w1 X := hX ▸ below_setRow ((Below.refl _ _).alloc (Nat.le_refl _) _) (Nat.le_refl _) _
  have kX : aC X w1.heap.size 56 r := hX ▸ aC.row (z := ak) (heap_alloc_new _ _)
  obtain ⟨b13, Fi⟩ : ∃ b13, w1.heap.size = b13 := ⟨_, rfl⟩
  have DD := UZ (show V.heap.size ≤ b13 by rw [← Fi]; exact V1.out.size)
  rw [Fi] at kX
  rw [Fi]
  have Dw : Below V.heap.size V X := V1.out.trans (bX.mono V1.out.size)
  have N3 : Below w.heap.size w X := BV.out.trans (Dw.mono BV.out.size)
  have x0 : X.cell? ⟨w.heap.size, 0, none⟩ = _ := (Dw.cell (p := ⟨w.heap.size, 0, none⟩) l0).trans a0
  have x1 : X.cell? ⟨w.heap.size, 1, none⟩ = _ := (Dw.cell (p := ⟨w.heap.size, 1, none⟩) l0).trans a1
  have x2 : X.cell? ⟨w.heap.size, 2, none⟩ = _ := (Dw.cell (p := ⟨w.heap.size, 2, none⟩) l0).trans a2
  have x3 : X.cell? ⟨w.heap.size, 3, none⟩ = _ := (Dw.cell (p := ⟨w.heap.size, 3, none⟩) l0).trans a3
  have y0 : X.cell? ⟨w.heap.size + 1, 0, none⟩ = _ := (Dw.cell (p := ⟨w.heap.size + 1, 0, none⟩) l1).trans b0
  have y1 : X.cell? ⟨gq, mW + k * 3, none⟩ = _ := (N3.cell (p := ⟨gq, mW + k * 3, none⟩) Fu).trans PX
  have lx0 : w.heap.size < X.heap.size := by have := Dw.size; omega
  have lx1 : w.heap.size + 1 < X.heap.size := by have := Dw.size; omega
  have lx2 : gq < X.heap.size := by have := N3.size; omega
  have KX := UZ kX
  have Q1 := UZ Dw
  have Qc := UZ (KZ.out.keep Dw)
  obtain ⟨xlo, uG⟩ : ∃ v, x.lo = v := ⟨_, rfl⟩
  have E8 := XM.out.1
  have hp1 := P5.out.1
  have hp2 := P5.out.2
  rw [uG] at y1 E8 hp1 D6
  obtain ⟨ln, rfl⟩ : ∃ ln : Nat, xlo = (ln : Int) := ⟨xlo.toNat, by omega⟩
  obtain ⟨pn, rfl⟩ : ∃ pn : Nat, pc = (pn : Int) := ⟨pc.toNat, by omega⟩
  obtain ⟨mm, hmm⟩ : ∃ mm : Nat, pn = ln + mm := ⟨pn - ln, by omega⟩
  have Li := UZ hmm
  have QW := UZ (show pY cd G rl il (pn : Int) = dJ (codeFrom cd (ln : Int) mm) r by rw [D6.out]; congr 2; omega)
  have TE : pn ≤ 1000000 := by
   have h1 := DN.out.le
   have := (XM.out.2 pn (by rw [uG]; omega) TX)
   omega
  have Sj := UZ (show ∀ a : Nat, ln ≤ a → a < pn → a < n ∧ (cZ (cd a)).2 = 0 ∧ 0 ≤ (aF cd (a : Int)).op from fun a h1 h2 => XM.out.2 a (by rw [uG]; omega) TX)
  clear hX bX kX Fi Dw N3 q0 q1 q2 a0 a1 a2 a3 b0 PX uG E8 hp1 hp2 hmm
  go_upto_region 9 with fail
  clear y0 y1
  go_loopw [14] (fun a14 wr => ∃ (j : Nat) (r1 : RG), j ≤ mm ∧ a14 = .int .i64 ((ln : Int) + (j : Int)) ∧ dJ (codeFrom cd (ln : Int) j) r = some r1 ∧ R16 r1 ∧ Below b13 X wr ∧ aC wr b13 56 r1) (fun a14 _ => pn - (intOf a14).toNat)
  case atStart => exact ⟨0, r, by omega, rfl, rfl, R.out, Below.refl _ _, KX.out⟩
  case round =>
   obtain ⟨j, r1, hj, rfl, hrun, hr1, hb, kr⟩ := hrel
   have DT := UZ hrun
   have R1 := UZ hr1
   have HB := UZ hb
   have KR := UZ kr
   have Tp := hb.size
   clear hrun hr1 hb kr
   by_cases hlt : j < mm
   ·have dl : decide ((ln : Int) + (j : Int) < (pn : Int)) = true := decide_eq_true UR
    obtain ⟨m1, m2, m3⟩ := Sj.out (ln + j) TX UR
    have Re : b13 < X.heap.size := KX.out.lt
    have P0 : Below V.heap.size V wr := Q1.out.trans (HB.out.mono DD.out)
    have t0 : wr.cell? ⟨w.heap.size, 0, none⟩ = _ := (HB.out.cell (p := ⟨w.heap.size, 0, none⟩) (show w.heap.size < b13 by have := DD.out; omega)).trans x0
    have t1 : wr.cell? ⟨w.heap.size, 1, none⟩ = _ := (HB.out.cell (p := ⟨w.heap.size, 1, none⟩) (show w.heap.size < b13 by have := DD.out; omega)).trans x1
    have t2 : wr.cell? ⟨w.heap.size, 2, none⟩ = _ := (HB.out.cell (p := ⟨w.heap.size, 2, none⟩) (show w.heap.size < b13 by have := DD.out; omega)).trans x2
    have t3 : wr.cell? ⟨w.heap.size, 3, none⟩ = _ := (HB.out.cell (p := ⟨w.heap.size, 3, none⟩) (show w.heap.size < b13 by have := DD.out; omega)).trans x3
    have OM : w.heap.size < wr.heap.size := by omega
    have Gv : Below w.heap.size w wr := BV.out.trans (P0.mono BV.out.size)
    obtain ⟨op, ia, ic, id, im, hi⟩ : ∃ op ia ic id im, aF cd ((ln : Int) + (j : Int)) = ⟨op, ia, ic, id, im⟩ := ⟨_, _, _, _, _, rfl⟩
    have AZ := UZ (show Calls Tryz.prog 24 #[.agg #[cv, ev, .int .i64 sh, .int .i64 lk], .int .i64 ((ln : Int) + (j : Int))] wr fun e w' => e = .returned (.tuple #[.agg #[.int .u8 op, .int .i64 ia, .int .i64 ic, .int .i64 id, .int .i64 im], .bool true]) ∧ Below wr.heap.size wr w' from by
     have := nu cv ev sh lk n cd (ln + j) m1 m2 wr (HT.out.below Gv) (DN.out.below Gv)
     rw [Int.natCast_add, hi] at this
     exact this)
    rw [Int.natCast_add, hi] at m3
    have HI := UZ hi
    have M3 := UZ m3
    have Q0 := UZ Gv
    have wl : IntKind.i64.wrap ((ln : Int) + (j : Int) + 1) = (ln : Int) + (j : Int) + 1 := IntWalk.i64_in _ UR
    clear m1 m2 m3 P0 Gv hi
    go_upto_region 14 with (first | (go_at_call 24; refine AZ.out.mono ?_; rintro e w2 ⟨rfl, hb2⟩))
    obtain ⟨Y, hY⟩ : ∃ Y, w2.alloc (.cells #[.int .u8 op, .int .i64 ia, .int .i64 ic, .int .i64 id, .int .i64 im] 64) = Y := ⟨_, rfl⟩
    rw [hY]
    have bY : Below w2.heap.size w2 Y := hY ▸ (Below.refl _ _).alloc (Nat.le_refl _) _
    obtain ⟨z0, z1, z2, z3, z4, lY⟩ := aG (show Y.heap[w2.heap.size]? = some (.cells #[.int .u8 op, .int .i64 ia, .int .i64 ic, .int .i64 id, .int .i64 im] 64 (0, 0)) from hY ▸ heap_alloc_new _ _)
    obtain ⟨q15, Hy⟩ : ∃ q, w2.heap.size = q := ⟨_, rfl⟩
    have Mc : Below wr.heap.size wr Y := hb2.trans (bY.mono hb2.size)
    rw [Hy] at z0 z1 z2 z3 z4 lY
    rw [Hy]
    have KY := UZ (KR.out.keep Mc)
    have sS := UZ KY.out.range
    have QZ := UZ (HB.out.trans (Mc.mono TX))
    have IY := UZ (Q0.out.trans (Mc.mono Q0.out.size))
    have kT := UZ (show aC Y (w.heap.size + 1 + 1 + 1) 56 ak from (QZ.out.block _ Uu).trans Qc.out)
    have jc := UZ (iH op ia ic id im M3.out r1 R1.out Y (HT.out.below IY.out))
    have Rc : b13 < Y.heap.size := KY.out.lt
    have Tr : w.heap.size + 1 + 1 + 1 < Y.heap.size := kT.out.lt
    clear hY bY Mc Hy hb2 t0 t1 t2 t3 OM
    have HST := UZ (show dJ (codeFrom cd (ln : Int) (j + 1)) r = bQ ⟨op, ia, ic, id, im⟩ r1 by
     rw [fo, jt, DT.out]
     have e : aF cd ((ln : Int) + (j : Int)) = ⟨op, ia, ic, id, im⟩ := by rw [← HI.out]
     rw [e]
     simp only [dJ]
     cases bQ ⟨op, ia, ic, id, im⟩ r1 <;> rfl)
    have SD := UZ (show dJ (codeFrom cd (ln : Int) (j + 1)) r = none → dJ (codeFrom cd (ln : Int) mm) r = none from fun hn => by
     rw [show mm = (j + 1) + (mm - (j + 1)) by omega, mz, jt, hn])
    rcases ho : bQ ⟨op, ia, ic, id, im⟩ r1 with _ | r2
    ·rw [ho] at jc
     have HN := UZ (show pY cd G rl il (pn : Int) = none by rw [QW.out]; exact SD.out (by rw [HST.out, ho]))
     clear ho
     go_wp2_with (first | (refine wpList_load_mid rfl _ _ rfl _ _ rfl (aa r1) _ sS.out Tryz.underlying56 rfl (hi3 R1.out.len) ?_) | (go_at_call 12; refine jc.out.mono ?_; rintro e w4 ⟨rfl, hb4⟩; unfold cE) | (refine wpList_store_row rfl 56 (.tmp 13) (.tmp 88) rfl b13 (aa ak).toArray rfl rfl 56 _ (KY.out.keep hb4) (hi4 ag) (hi6 ag R1.out.len) (aj ak) ?_) | (refine wpList_store_row rfl 56 (.tmp 8) (.tmp 92) rfl (w.heap.size + 1 + 1 + 1) Va.toArray rfl rfl 56 _ ((setRow_other _ _ _ _ Uu).trans (kT.out.keep hb4)) TY rfl T2 ?_))
     refine bodyPost_ret (aP Tryz.results21 _ (w.heap.size + 1 + 1 + 1) ag rfl (aC.row (r := ak) (z := ak) ((setRow_other _ _ _ _ Uu).trans (kT.out.keep hb4)))) rfl ⟨?_, ?_⟩
     ·rw [HN.out]; rfl
     ·exact below_setRow (below_setRow (IY.out.trans (hb4.mono IY.out.size)) Uu _) TX _
    ·rw [ho] at jc
     have HN := UZ (show dJ (codeFrom cd (ln : Int) (j + 1)) r = some r2 by rw [HST.out, ho])
     have R2 := UZ (gR M3.out R1.out ho)
     clear ho
     go_wp2_with (first | (refine wpList_load_mid rfl _ _ rfl _ _ rfl (aa r1) _ sS.out Tryz.underlying56 rfl (hi3 R1.out.len) ?_) | (go_at_call 12; refine jc.out.mono ?_; rintro e w4 ⟨rfl, hb4⟩; unfold cE) | (refine wpList_store_row rfl 56 (.tmp 13) (.tmp 88) rfl b13 (aa r2).toArray rfl rfl 56 _ (KY.out.keep hb4) (hi4 R2.out.len) (hi6 R2.out.len R1.out.len) (aj r2) ?_))
     go_roundw
     case rel => exact ⟨j + 1, r2, by omega, by first | rfl | (congr 1; omega) | go_num, HN.out, R2.out, below_setRow (QZ.out.trans (hb4.mono TX)) (Nat.le_refl _) _, aC.row (KY.out.keep hb4)⟩
     case measure => simp [intOf]; have := Li.out; omega
   ·obtain rfl : j = mm := by omega
    have dl : decide ((ln : Int) + (j : Int) < (pn : Int)) = false := decide_eq_false UR
    have HN := UZ (show pY cd G rl il (pn : Int) = some r1 by rw [QW.out, DT.out])
    have sS := UZ KR.out.range
    have K5 := UZ (show aC wr (w.heap.size + 1 + 1 + 1) 56 ak from ((HB.out.block _ Uu).trans Qc.out))
    go_wp2_with (first | (refine wpList_load_mid rfl _ _ rfl _ _ rfl (aa r1) _ sS.out Tryz.underlying56 rfl (hi3 R1.out.len) ?_) | (refine wpList_store_row rfl 56 (.tmp 8) (.tmp 93) rfl (w.heap.size + 1 + 1 + 1) (aa r1).toArray rfl rfl 56 _ K5.out (hi4 R1.out.len) (hi6 R1.out.len ag) (aj r1) ?_))
    refine bodyPost_ret (aP Tryz.results21 _ (w.heap.size + 1 + 1 + 1) R1.out.len rfl (aC.row K5.out)) rfl ⟨?_, ?_⟩
    ·rw [HN.out]; rfl
    ·exact below_setRow (BV.out.trans ((Q1.out.trans (HB.out.mono DD.out)).mono BV.out.size)) TX _
end
section
open Go.RowKit
theorem pP (b : AB) (n : Nat) (r : RG) : eG b n 0 r = [] := by unfold eG; cases dJ b.code r <;> simp
theorem xA {b : AB} {n k : Nat} {r : RG} (h : dJ b.code r = none) (hk : k < b.nx.length) : eG b n (k + 1) r = eG b n k r ++ [((n : Int), b.nx.getD k 0)] := by
 unfold eG
 rw [h]
 simp only
 rw [List.take_add_one, List.map_append, List.getElem?_eq_getElem hk]
 simp [List.getD, List.getElem?_eq_getElem hk]
theorem xz {b : AB} {n k : Nat} {r bM : RG} (h : dJ b.code r = some bM) : eG b n (k + 1) r = eG b n k r ++ (if (dL b.last b.nx.length k bM).isNone = true then [((n : Int), b.nx.getD k 0)] else []) := by
 unfold eG
 rw [h]
 simp only
 rw [List.range_succ, List.filter_append, List.map_append]
 congr 1
 cases he : (dL b.last b.nx.length k bM).isNone <;> simp only [List.filter_cons, List.filter_nil, he] <;> simp
theorem pO (B : List AB) (s : AS) (n : Nat) : eE B s (n + 1) = eE B s n ++ (if s.reach.getD n false = true then eG (B.getD n ⟨[], []⟩) n (B.getD n ⟨[], []⟩).nx.length (s.cJ.getD n []) else []) := by
 unfold eE
 rw [List.range_succ, List.flatMap_append]
 simp
theorem mY (b : AB) (n k : Nat) (r : RG) : (eG b n k r).length ≤ k := by
 unfold eG
 cases dJ b.code r with
 | none => simp; omega
 | some bM =>
  simp only [List.length_map]
  exact Nat.le_trans (List.length_filter_le _ _) T4
theorem rI {B : List AB} {s : AS} (h : ∀ (k : Nat) (b : AB), B[k]? = some b → b.nx.length ≤ 1000) : ∀ n, (eE B s n).length ≤ 1000 * n
 | 0 => by simp [eE]
 | n + 1 => by
  rw [pO, List.length_append]
  have ih := rI (s := s) h n
  have h1 : (if s.reach.getD n false = true then eG (B.getD n ⟨[], []⟩) n (B.getD n ⟨[], []⟩).nx.length (s.cJ.getD n []) else []).length ≤ 1000 := by
   split
   ·refine Nat.le_trans (mY _ _ _ _) ?_
    cases hb : B[n]? with
    | none => simp [List.getD, hb]
    | some b => rw [show B.getD n ⟨[], []⟩ = b by simp [List.getD, hb]]; exact h n b hb
   ·simp
  omega
structure DM (Z wr : World) (b15 rb ib n : Nat) (dv : Value) (L : List (Int × Int)) : Prop where
 aB : Below Z.heap.size Z wr
 ge : Z.heap.size ≤ b15
 head : wr.heap[b15]? = some (.cells #[.slice (some ⟨rb, 0, none⟩) n n, .slice (some ⟨ib, 0, none⟩) n n, dv] 42 (0, 0))
 row : wr.ownsRow Z.heap.size 89 2 dv L.length (wD L)
section
variable {Z wr : World} {b15 rb ib n : Nat} {dv : Value} {L : List (Int × Int)}
theorem DM.below {wr' : World} (h : DM Z wr b15 rb ib n dv L) (hb : Below wr.heap.size wr wr') : DM Z wr' b15 rb ib n dv L :=
 ⟨h.aB.trans (hb.mono h.aB.size), h.ge, (hb.block _ (ax h.head)).trans h.head, bF h.row hb⟩
theorem DM.cell (h : DM Z wr b15 rb ib n dv L) : wr.cell? ⟨b15, 2, none⟩ = some dv ∧ wr.frozen? ⟨b15, 2, none⟩ = false ∧ b15 < wr.heap.size := by
 refine ⟨by simp [World.cell?, h.head], by simp [World.frozen?, h.head], ax h.head⟩
theorem DM.Eb (h : DM Z wr b15 rb ib n dv L) : some b15 ≠ dv.ownBlock := fun e => by
 obtain ⟨cs, hc⟩ := eU h.row e.symm
 exact bK hc h.head T1 rfl
theorem DM.app {w2 W' : World} {y : Int × Int} {v' : Value} (h : DM Z wr b15 rb ib n dv L) (hb : Below wr.heap.size wr w2) (hg : w2.grownBy W' dv.ownBlock)
  (hown : W'.ownsRow Z.heap.size 89 2 v' (L.length + 1) (wD (L ++ [y]))) :
  DM Z (W'.setCell ⟨b15, 2, none⟩ v') b15 rb ib n v' (L ++ [y]) ∧ ∀ (k : Nat) (cs : Array Value) (T : TypeId), wr.heap[k]? = some (.cells cs T (0, 0)) → T ≠ 89 → T ≠ 42 → (W'.setCell ⟨b15, 2, none⟩ v').heap[k]? = some (.cells cs T (0, 0)) := by
 have G := grown_of hb hg
 have S := dB W' b15 2 v'
 have hq : ∀ q, dv.ownBlock = some q → Z.heap.size ≤ q := fun q hq => (h.row.lt q hq).1
 have h15 : W'.heap[b15]? = some (.cells #[.slice (some ⟨rb, 0, none⟩) n n, .slice (some ⟨ib, 0, none⟩) n n, dv] 42 (0, 0)) := (G.block b15 (ax h.head) (fun e => h.Eb e)).trans h.head
 refine ⟨⟨(h.aB.grown G h.aB.size hq).grown S (by have := G.size; have := h.aB.size; omega) (fun k hk => by cases hk; exact h.ge), h.ge, ?_, ?_⟩, fun k cs T hk h1 h2 => ?_⟩
 ·rw [heap_setCell_same _ _ _ _ _ _ h15]
  rfl
 ·rw [show (L ++ [y]).length = L.length + 1 by simp]
  refine hown.kept S ?_
  cases hv : v'.ownBlock with
  | none => exact .inl rfl
  | some q =>
   refine .inr (fun e' => ?_)
   obtain ⟨cs, hc⟩ := eU hown hv
   have e2 : q = b15 := by simpa using e'
   exact bK hc h15 T1 e2
 ·rw [Below.heap_setCell _ _ _ _ (by show k ≠ b15; exact bK hk h.head h2), G.block k (ax hk) (fun e => by
   obtain ⟨cs', hc⟩ := eU h.row e.symm
   exact bK hk hc h1 rfl)]
  exact hk
end
end
end Go.Proofs.YtebklpnkcicpjaaGreatDoor
