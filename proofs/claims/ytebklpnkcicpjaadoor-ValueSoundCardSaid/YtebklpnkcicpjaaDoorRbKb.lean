/-
 What is proved here: what prepare returns.
-/
import Derived.Test.YtebklpnkcicpjaaDoorRbKd
import Derived.Deep.RegionWith
import Derived.Deep.RegionHeld3
import Derived.Deep.DeepCutAuto
namespace Go.Proofs.YtebklpnkcicpjaaDoor
open Go.RowKit
set_option linter.unusedVariables false
set_option linter.unusedSimpArgs false

theorem wrap32_word' (v : Int) : W32 (wrap32 v) := by unfold W32 wrap32; omega
theorem i32_bits' (op : BinOp) (a b : Int) : bits op .i32 a b = wrap32 ((match op with
  | .and => BitVec.ofInt 32 a &&& BitVec.ofInt 32 b
  | .or => BitVec.ofInt 32 a ||| BitVec.ofInt 32 b
  | .xor => BitVec.ofInt 32 a ^^^ BitVec.ofInt 32 b
  | _ => BitVec.ofInt 32 a &&& ~~~(BitVec.ofInt 32 b)).toNat : Nat) := by
 have w : ∀ n : Int, IntKind.i32.wrap n = wrap32 n := fun n => by rw [IntKind.wrap_i32, wrap32]
 rw [← w]
 cases op <;> rfl
theorem bits_word' (op : BinOp) (a b : Int) : W32 (bits op .i32 a b) := by rw [i32_bits']; exact wrap32_word' _
theorem i32w (n : Int) : IntKind.i32.wrap n = wrap32 n := by rw [IntKind.wrap_i32, wrap32]
theorem tmod_word {x y : Int} (h : W32 x) : W32 (x.tmod y) := by
 unfold W32 at *
 have h1 := Int.natAbs_tmod x y
 have h2 : x.natAbs % y.natAbs ≤ x.natAbs := Nat.mod_le _ _
 by_cases h0 : 0 ≤ x
 ·have := Int.tmod_nonneg y h0
  omega
 ·have h3 : 0 ≤ (-x).tmod y := Int.tmod_nonneg y (by omega)
  rw [Int.neg_tmod] at h3
  omega
theorem shr_word {x : Int} (h : W32 x) (n : Nat) : W32 (x / 2 ^ n) := by
 unfold W32 at *
 have h1 : (0 : Int) < 2 ^ n := Int.pow_pos (by decide)
 by_cases h0 : 0 ≤ x
 ·have := Int.ediv_nonneg h0 (Int.le_of_lt h1)
  have := Int.ediv_le_self (2 ^ n) h0
  omega
 ·have h2 : x ≤ x / 2 ^ n := Int.le_ediv_of_mul_le h1 (by
   have : x * 2 ^ n ≤ x * 1 := Int.mul_le_mul_of_nonpos_left (by omega) (by omega)
   omega)
  have h3 : x / 2 ^ n < 0 := Int.ediv_neg_of_neg_of_pos (by omega) h1
  omega
theorem b2i_word (b : Bool) : W32 (b2i b) := by cases b <;> (unfold W32 b2i; simp)
theorem zero_word : W32 0 := by unfold W32; omega
theorem ite_word {c : Prop} [Decidable c] {a b : Int} (ha : W32 a) (hb : W32 b) : W32 (if c then a else b) := by split <;> assumption
theorem wv_word (op : Int) {x y : Int} (hx : W32 x) (hy : W32 y) : W32 (wv op x y) := by
 unfold wv
 repeat' (first | exact wrap32_word' _ | exact bits_word' _ _ _ | exact b2i_word _ | exact zero_word | exact tmod_word hx | exact shr_word hx _ | refine ite_word ?_ ?_)
theorem getD_word {l : List Int} (h : ∀ x ∈ l, W32 x) (k : Nat) : W32 (l.getD k 0) := by
 by_cases hk : k < l.length
 ·have e : l.getD k 0 = l[k] := by simp [List.getD, List.getElem?_eq_getElem hk]
  rw [e]
  exact h _ (List.getElem_mem hk)
 ·have e : l.getD k 0 = 0 := by simp [List.getD, List.getElem?_eq_none (Nat.le_of_not_lt hk)]
  rw [e]
  unfold W32; omega
theorem word_set {l : List Int} (h : ∀ x ∈ l, W32 x) {k : Nat} {v : Int} (hv : W32 v) : ∀ x ∈ l.set k v, W32 x := fun x hx => by
 rcases List.mem_or_eq_of_mem_set hx with h1 | rfl
 ·exact h x h1
 ·exact hv
theorem commit_st {w : World} {sb c0 ib mc ac ad mb cap a : Nat} {b im : Int} {s : St} {dl : List Int} {sv : Value} {sl : List Int} (hJ : Job w sb s dl sv sl) (ha : a < 16) (hmb : s.d = .slice (some ⟨mb, 0, none⟩) dl.length cap) (hn : ad < dl.length) (had : (ad : Int) = reg s b + im)
  (k0 : w.cell? ⟨c0, 0, none⟩ = some (.pointer (some ⟨sb, 0, none⟩))) (k1 : w.cell? ⟨ib, 1, none⟩ = some (.int .i64 (a : Int))) (k2 : w.cell? ⟨mc, 0, none⟩ = some s.d) (k3 : w.cell? ⟨ac, 0, none⟩ = some (.int .i64 (ad : Int))) :
  Commit (.func (.func 89) #[] #[.pointer (some ⟨c0, 0, none⟩), .pointer (some ⟨ib, 0, none⟩), .pointer (some ⟨mc, 0, none⟩), .pointer (some ⟨ac, 0, none⟩)]) w fun w2 => Job w2 sb s (dl.set (reg s b + im).toNat (reg s (a : Int))) sv sl ∧ Fr (Jb sb s.d sv) w w2 := by
 have hd := hJ.d
 rw [hmb] at hd k2
 refine ⟨_, _, rfl, fun w => by kernel_rfl, (accC_any mb dl.length cap ad sb c0 ib mc ac 0 ⟨0, a, b, 0, im⟩ a rfl ha hn hJ.dn s dl w k1 k0 k2 k3 hJ.m hd).mono fun e w' ⟨h1, h2, h3⟩ => ⟨h1, ?_, h3.mono fun k _ e => .inr (.inl (by rw [hmb, e]; rfl))⟩⟩
 rw [← had, Int.toNat_natCast, reg_nat]
 have hsb : mb ≠ sb := fun e => hJ.dne (by rw [hmb, e]; rfl)
 refine ⟨hJ.m.keep (h3.block sb hJ.m.lt (fun e => hsb e.symm)), by rw [List.length_set, hmb]; exact h2, h3.own hJ.sh (fun q hq e => hJ.ne mb (by rw [hmb]; rfl) (by rw [← e]; exact hq)), hJ.ne, word_set hJ.dw (hJ.m.reg_in a), hJ.sw, by rw [List.length_set]; exact hJ.dn, hJ.sn⟩
theorem commit_sts {w : World} {sb c0 ib mc ac ad mb cap a : Nat} {b im : Int} {s : St} {dl : List Int} {sv : Value} {sl : List Int} (hJ : Job w sb s dl sv sl) (ha : a < 16) (hmb : sv = .slice (some ⟨mb, 0, none⟩) sl.length cap) (hn : ad < sl.length) (had : (ad : Int) = reg s b + im)
  (k0 : w.cell? ⟨c0, 0, none⟩ = some (.pointer (some ⟨sb, 0, none⟩))) (k1 : w.cell? ⟨ib, 1, none⟩ = some (.int .i64 (a : Int))) (k2 : w.cell? ⟨mc, 0, none⟩ = some sv) (k3 : w.cell? ⟨ac, 0, none⟩ = some (.int .i64 (ad : Int))) :
  Commit (.func (.func 89) #[] #[.pointer (some ⟨c0, 0, none⟩), .pointer (some ⟨ib, 0, none⟩), .pointer (some ⟨mc, 0, none⟩), .pointer (some ⟨ac, 0, none⟩)]) w fun w2 => Job w2 sb s dl sv (sl.set (reg s b + im).toNat (reg s (a : Int))) ∧ Fr (Jb sb s.d sv) w w2 := by
 have hd := hJ.sh
 rw [hmb] at hd k2
 refine ⟨_, _, rfl, fun w => by kernel_rfl, (accC_any mb sl.length cap ad sb c0 ib mc ac 0 ⟨0, a, b, 0, im⟩ a rfl ha hn hJ.sn s sl w k1 k0 k2 k3 hJ.m hd).mono fun e w' ⟨h1, h2, h3⟩ => ⟨h1, ?_, h3.mono fun k _ e => .inr (.inr (by rw [hmb, e]; rfl))⟩⟩
 rw [← had, Int.toNat_natCast, reg_nat]
 have hsb : mb ≠ sb := fun e => hJ.sne (by rw [hmb, e]; rfl)
 refine ⟨hJ.m.keep (h3.block sb hJ.m.lt (fun e => hsb e.symm)), h3.own hJ.d (fun q hq e => hJ.ne q hq (by rw [hmb, ← e]; rfl)), by rw [List.length_set, hmb]; exact h2, hJ.ne, hJ.dw, word_set hJ.sw (hJ.m.reg_in a), hJ.dn, by rw [List.length_set]; exact hJ.sn⟩
theorem commit_lock {w : World} {sb ib cb : Nat} {im : Int} {s : St} {dl : List Int} {sv : Value} {sl : List Int} (hJ : Job w sb s dl sv sl) (k0 : w.cell? ⟨ib, 4, none⟩ = some (.int .i64 im)) (k1 : w.cell? ⟨cb, 0, none⟩ = some (.pointer (some ⟨sb, 0, none⟩))) :
  Commit (.func (.func 90) #[] #[.pointer (some ⟨ib, 0, none⟩), .pointer (some ⟨cb, 0, none⟩)]) w fun w2 => Job w2 sb { s with held := im } dl sv sl ∧ Fr (Jb sb s.d sv) w w2 :=
 ⟨_, _, rfl, fun w => by kernel_rfl, (ctlC1_any sb ib cb im s w k0 k1 hJ.m).mono fun e w' ⟨h1, h2, h3⟩ => ⟨h1, hJ.state h2 h3 rfl, h3.mono fun k _ e => .inl e⟩⟩
theorem commit_unlock {w : World} {sb cb : Nat} {s : St} {dl : List Int} {sv : Value} {sl : List Int} (hJ : Job w sb s dl sv sl) (k1 : w.cell? ⟨cb, 0, none⟩ = some (.pointer (some ⟨sb, 0, none⟩))) :
  Commit (.func (.func 91) #[] #[.pointer (some ⟨cb, 0, none⟩)]) w fun w2 => Job w2 sb { s with held := -1 } dl sv sl ∧ Fr (Jb sb s.d sv) w w2 :=
 ⟨_, _, rfl, fun w => by kernel_rfl, (ctlC2_any sb cb s w k1 hJ.m).mono fun e w' ⟨h1, h2, h3⟩ => ⟨h1, hJ.state h2 h3 rfl, h3.mono fun k _ e => .inl e⟩⟩
theorem commit_halt {w : World} {sb cb : Nat} {s : St} {dl : List Int} {sv : Value} {sl : List Int} (hJ : Job w sb s dl sv sl) (k1 : w.cell? ⟨cb, 0, none⟩ = some (.pointer (some ⟨sb, 0, none⟩))) :
  Commit (.func (.func 92) #[] #[.pointer (some ⟨cb, 0, none⟩)]) w fun w2 => Job w2 sb { s with hal := true } dl sv sl ∧ Fr (Jb sb s.d sv) w w2 :=
 ⟨_, _, rfl, fun w => by kernel_rfl, (ctlC3_any sb cb s w k1 hJ.m).mono fun e w' ⟨h1, h2, h3⟩ => ⟨h1, hJ.state h2 h3 rfl, h3.mono fun k _ e => .inl e⟩⟩

set_option maxRecDepth 20000 in
set_option maxHeartbeats 40000000 in
theorem prep_all (xb sb : Nat) (op im lk : Int) (a b c : Nat) (ha : a < 16) (hb : b < 16) (hc : c < 16) (him : -131072 ≤ im ∧ im ≤ 131071) (s : St) (hpc : 0 ≤ s.pc ∧ s.pc ≤ 1000000) (dl : List Int) (sv : Value) (sl : List Int) (pv : Value) (Sp : Nat → Prop) (Rp : World → Prop) (w : World)
  (hx : w.heap[xb]? = some (.cells (xCells ⟨op, a, b, c, im⟩ s.pc false (-1) 0 sb (s.pc + 1)) 126 (0, 0))) (hJ : Job w sb s dl sv sl) (hxj : ¬ Jb sb s.d sv xb) (h30 : 0 ≤ op ∧ op < 30) (h16 : op = 16 → 0 ≤ im ∧ im ≤ 31) (hT : ∀ k, 2 ≤ k → k ≤ 13 → w.cell? ⟨1, k, none⟩ = some (.int .u8 (opr (k : Int)))) (hT1 : 1 < w.heap.size) (HP : Port w pv Sp Rp) (hsx : ¬ Sp xb) (hsj : ∀ k, Jb sb s.d sv k → ¬ Sp k) :
  Calls Tryd.prog 53 #[.pointer (some ⟨xb, 0, none⟩), .int .i64 lk, sv, pv] w (PrepPost w xb sb ⟨op, a, b, c, im⟩ lk s dl sv sl Sp Rp) := by
 have HTT := Lib.hid hT
 have HSJ := Lib.hid hsj
 have H16 := Lib.hid h16
 clear hT hsj h16
 have HX := Lib.hid hx
 have HJ := Lib.hid hJ
 have HXJ := Lib.hid hxj
 obtain ⟨x0, x1, x2, x3, x4, x5, -, -, -, x9, -, xf⟩ := x_cells hx
 have lx := lt_of_blk' hx
 clear hx hJ hxj xf
 simp only at x0 x1 x2 x3 x4
 go_enter Tryd.func53, Tryd.ntmps53
 go_upto_region 1 with fail
 go_cut [10, 11] from 14 to 22 (fun a10 a11 wx => ∃ ib, a10 = .pointer (some ⟨ib, 0, none⟩) ∧ a11 = .pointer (some ⟨sb, 0, none⟩) ∧ wx.heap[ib]? = some (.cells #[.int .u8 op, .int .i64 a, .int .i64 b, .int .i64 c, .int .i64 im] 23 (0, 0)) ∧ Below w.heap.size w wx)
 case first =>
  go_region
  all_goals
   go_wp2_with fail
   go_meet
   case rel => exact ⟨_, rfl, rfl, by first | exact heap_alloc_new _ _ | (rw [World.drew]; exact heap_alloc_new _ _), (Below.drew (Below.refl _ _)).alloc (by simp) _⟩
 case rest =>
  obtain ⟨ib, rfl, rfl, kib, hbw⟩ := hcut
  obtain ⟨W1, hW1⟩ : ∃ W1 : World, W1 = wc := ⟨_, rfl⟩
  subst hW1
  obtain ⟨i0, i1, i2, i3, i4, li⟩ := ins_cells kib
  have HJ1 := Lib.hid (HJ.out.later hbw)
  have HX1 := Lib.hid ((hbw.block xb lx).trans HX.out)
  have BW := Lib.hid hbw
  have lx1 : xb < W1.heap.size := lt_of_blk' HX1.out
  have lsb := HJ1.out.m.lt
  have rga := HJ1.out.m.reg ha
  have rgb := HJ1.out.m.reg hb
  have rgc := HJ1.out.m.reg hc
  have rdd := HJ1.out.m.dat
  have ga : (a : Int) < 16 := by omega
  have gb : (b : Int) < 16 := by omega
  have gc : (c : Int) < 16 := by omega
  have ga2 : decide ((16 : Int) ≤ (a : Int)) = false := decide_eq_false (by omega)
  have gb2 : decide ((16 : Int) ≤ (b : Int)) = false := decide_eq_false (by omega)
  have gc2 : decide ((16 : Int) ≤ (c : Int)) = false := decide_eq_false (by omega)
  have wra := HJ1.out.m.reg_in a
  have wrb := HJ1.out.m.reg_in b
  have wrc := HJ1.out.m.reg_in c
  obtain ⟨va, hva⟩ : ∃ va, s.r.getD a 0 = va := ⟨_, rfl⟩
  obtain ⟨vb, hvb⟩ : ∃ vb, s.r.getD b 0 = vb := ⟨_, rfl⟩
  obtain ⟨vc, hvc⟩ : ∃ vc, s.r.getD c 0 = vc := ⟨_, rfl⟩
  rw [hva] at rga wra
  rw [hvb] at rgb wrb
  rw [hvc] at rgc wrc
  have HVA := Lib.hid (show reg s (a : Int) = va by rw [reg_nat]; exact hva)
  have HVB := Lib.hid (show reg s (b : Int) = vb by rw [reg_nat]; exact hvb)
  have HVC := Lib.hid (show reg s (c : Int) = vc by rw [reg_nat]; exact hvc)
  have wi : IntKind.i32.wrap im = im := IntWalk.i32_in _ (by omega)
  have wi2 : wrap32 im = im := IntWalk.wrap32_in _ (by omega)
  clear hva hvb hvc
  have HSET := Lib.hid (show ∀ (v : Int) (W : World), Below W1.heap.size W1 W → Calls Tryd.prog 74 #[.pointer (some ⟨xb, 0, none⟩), .int .i32 v] W fun e w' => (∃ c0 c1, e = .returned (.func (.func 88) #[] #[.pointer (some ⟨c0, 0, none⟩), .pointer (some ⟨c1, 0, none⟩)]) ∧ w'.cell? ⟨c0, 0, none⟩ = some (.pointer (some ⟨xb, 0, none⟩)) ∧ w'.cell? ⟨c1, 0, none⟩ = some (.int .i32 v)) ∧ Below W1.heap.size W1 w' from fun v W hW => (set_any xb v W).mono fun e w' ⟨h1, h2⟩ => ⟨h1, hW.trans (h2.mono hW.size)⟩)
  clear kib hbw x0 x1 x2 x3 x4 x5 x9
  have hk : op = 14 ∨ op = 15 ∨ op = 16 ∨ op = 17 ∨ op = 0 ∨ op = 25 ∨ op = 27 ∨ op = 18 ∨ op = 19 ∨ op = 20 ∨ op = 21 ∨ op = 22 ∨ op = 23 ∨ op = 24 ∨ op = 28 ∨ op = 29 ∨ op = 1 ∨ op = 26 ∨ (2 ≤ op ∧ op ≤ 13) := by omega
  clear h30
  rcases hk with rfl | rfl | rfl | rfl | rfl | rfl | rfl | rfl | rfl | rfl | rfl | rfl | rfl | rfl | rfl | rfl | rfl | rfl | ho0
  ·as_aux_lemma =>
    go_wp2_with (go_at_call 74; refine (HSET.out _ _ (by first | assumption | exact Below.refl _ _ | exact Below.drew (Below.refl _ _) | exact Ext.h _)).mono ?_; rintro e W2 ⟨⟨c0, c1, rfl, k0, k1⟩, hb2⟩)
    go_returns
    have hX2 := (hb2.block xb lx1).trans HX1.out
    have hW3 : W32 (im) := by unfold W32; omega
    exact PrepPost.same rfl hX2 ((Fr.of BW.out).trans (Fr.of hb2)) (.set (im) (.inl ⟨rfl, rfl⟩)) (fun h => by first | (simp at h; done) | (simp only at h; have := HO.out; omega)) (commit_set (HJ1.out.later hb2) (by simp) (by simp only; omega) hW3 hX2 k0 (by first | exact k1 | (rw [i32w] at k1; exact k1)))
  ·as_aux_lemma =>
    go_upto_region 8 with fail
    go_region_held3 (fun w' => (∀ b o, b < W1.heap.size → w'.cell? ⟨b, o, none⟩ = W1.cell? ⟨b, o, none⟩) ∧ Below W1.heap.size W1 w') ((refine keepsJ ?_; (repeat (first | (with_reducible assumption) | exact Below.refl _ _ | (with_reducible exact Ext.h _) | (with_reducible refine Below.drew ?_) | (with_reducible refine Below.alloc ?_ ?_ _) | (with_reducible refine Below.setCell ?_ ?_ _) | exact Nat.le_refl _ | exact (Ext.h _).size | (exact Below.size (by assumption)) | (simp; done) | (simp; omega))))) (first | (go_at_call 74; refine (HSET.out _ _ (by first | assumption | exact Below.refl _ _ | exact Below.drew (Below.refl _ _) | exact Ext.h _)).mono ?_; rintro e W2 ⟨⟨c0, c1, rfl, k0, k1⟩, hb2⟩))
    all_goals
     go_wp2_with fail
     go_returns
     have hX2 := (hb2.block xb lx1).trans HX1.out
     have hW3 : W32 (wrap32 (vb + im)) := wrap32_word' _
     exact PrepPost.same rfl hX2 ((Fr.of BW.out).trans (Fr.of hb2)) (.set (wrap32 (vb + im)) (.inr (.inl ⟨rfl, by simp only; rw [HVB.out]⟩))) (fun h => by first | (simp at h; done) | (simp only at h; have := HO.out; omega)) (commit_set (HJ1.out.later hb2) (by simp) (by simp only; omega) hW3 hX2 k0 (by first | exact k1 | (rw [i32w] at k1; exact k1)))
  ·as_aux_lemma =>
    obtain ⟨hi0, hi1⟩ := H16.out rfl
    have d1 : decide (im < 0) = false := decide_eq_false (by omega)
    have d2 : decide (32 ≤ im) = false := decide_eq_false (by omega)
    go_upto_region 10 with fail
    go_region_held3 (fun w' => (∀ b o, b < W1.heap.size → w'.cell? ⟨b, o, none⟩ = W1.cell? ⟨b, o, none⟩) ∧ Below W1.heap.size W1 w') ((refine keepsJ ?_; (repeat (first | (with_reducible assumption) | exact Below.refl _ _ | (with_reducible exact Ext.h _) | (with_reducible refine Below.drew ?_) | (with_reducible refine Below.alloc ?_ ?_ _) | (with_reducible refine Below.setCell ?_ ?_ _) | exact Nat.le_refl _ | exact (Ext.h _).size | (exact Below.size (by assumption)) | (simp; done) | (simp; omega))))) (first | (go_at_call 74; refine (HSET.out _ _ (by first | assumption | exact Below.refl _ _ | exact Below.drew (Below.refl _ _) | exact Ext.h _)).mono ?_; rintro e W2 ⟨⟨c0, c1, rfl, k0, k1⟩, hb2⟩))
    all_goals
     go_wp2_with fail
     go_returns
     have hX2 := (hb2.block xb lx1).trans HX1.out
     have hW3 : W32 (wrap32 (vb * 2 ^ im.toNat)) := wrap32_word' _
     exact PrepPost.same rfl hX2 ((Fr.of BW.out).trans (Fr.of hb2)) (.set (wrap32 (vb * 2 ^ im.toNat)) (.inr (.inr (.inl ⟨rfl, by simp only; rw [HVB.out]⟩)))) (fun h => by first | (simp at h; done) | (simp only at h; have := HO.out; omega)) (commit_set (HJ1.out.later hb2) (by simp) (by simp only; omega) hW3 hX2 k0 (by first | exact k1 | (rw [i32w] at k1; exact k1)))
  ·as_aux_lemma =>
    go_upto_region 12 with fail
    go_region_held3 (fun w' => (∀ b o, b < W1.heap.size → w'.cell? ⟨b, o, none⟩ = W1.cell? ⟨b, o, none⟩) ∧ Below W1.heap.size W1 w') ((refine keepsJ ?_; (repeat (first | (with_reducible assumption) | exact Below.refl _ _ | (with_reducible exact Ext.h _) | (with_reducible refine Below.drew ?_) | (with_reducible refine Below.alloc ?_ ?_ _) | (with_reducible refine Below.setCell ?_ ?_ _) | exact Nat.le_refl _ | exact (Ext.h _).size | (exact Below.size (by assumption)) | (simp; done) | (simp; omega))))) (first | (go_at_call 74; refine (HSET.out _ _ (by first | assumption | exact Below.refl _ _ | exact Below.drew (Below.refl _ _) | exact Ext.h _)).mono ?_; rintro e W2 ⟨⟨c0, c1, rfl, k0, k1⟩, hb2⟩))
    all_goals
     go_wp2_with fail
     go_returns
     have hX2 := (hb2.block xb lx1).trans HX1.out
     have hW3 : W32 (bits .or .i32 vb im) := bits_word' _ _ _
     exact PrepPost.same rfl hX2 ((Fr.of BW.out).trans (Fr.of hb2)) (.set (bits .or .i32 vb im) (.inr (.inr (.inr (.inl ⟨rfl, by simp only; rw [HVB.out]⟩))))) (fun h => by first | (simp at h; done) | (simp only at h; have := HO.out; omega)) (commit_set (HJ1.out.later hb2) (by simp) (by simp only; omega) hW3 hX2 k0 (by first | exact k1 | (rw [i32w] at k1; exact k1)))
  ·as_aux_lemma =>
    go_wp2_with fail
    go_ret2
    exact PrepPost.same rfl HX1.out (Fr.of BW.out) (.plain (.inl rfl)) (fun h => by simp at h) (commit_nothing HJ1.out)
  ·as_aux_lemma =>
    by_cases h1 : va < 0
    ·have d := decide_eq_true h1
     clear h1
     go_upto_region 24 with fail
     refine wp_region_ext (by kernel_rfl) (by kernel_rfl) ?_
     repeat (go_big_quiet_step (fail))
     refine wpQuiet_nil ?_
     rintro _ ⟨y, rfl⟩
     go_wp2_with fail
     go_ret2
     exact .inl ⟨_, _, by decide, rfl, Ext.below BW.out BW.out.size y⟩
    have d := decide_eq_false h1
    by_cases h2 : im ≤ va
    ·have d2 := decide_eq_true h2
     have wva : IntKind.i64.wrap va = va := IntWalk.i64_in _ (by unfold W32 at wra; omega)
     clear h1 h2
     go_upto_region 24 with fail
     refine wp_region_ext (by kernel_rfl) (by kernel_rfl) ?_
     repeat (go_big_quiet_step (fail))
     refine wpQuiet_nil ?_
     rintro _ ⟨y, rfl⟩
     go_wp2_with fail
     go_ret2
     exact .inl ⟨_, _, by decide, rfl, Ext.below BW.out BW.out.size y⟩
    have d2 := decide_eq_false h2
    have wva : IntKind.i64.wrap va = va := IntWalk.i64_in _ (by unfold W32 at wra; omega)
    have H12 := Lib.hid (And.intro h1 h2)
    clear h1 h2
    go_upto_region 24 with fail
    refine wp_region_ext (by kernel_rfl) (by kernel_rfl) ?_
    repeat (go_big_quiet_step (fail))
    refine wpQuiet_nil ?_
    rintro _ ⟨y, rfl⟩
    go_wp2_with fail
    go_ret2
    exact PrepPost.same rfl ((y.h.block xb lx1).trans HX1.out) (Fr.of (Ext.below BW.out BW.out.size y)) (.plain (.inr (.inr ⟨rfl, by simp only; rw [HVA.out]; have := H12.out.1; omega, by simp only; rw [HVA.out]; have := H12.out.2; omega⟩))) (fun h => by simp at h) (commit_nothing (HJ1.out.later y.h))
  ·as_aux_lemma =>
    obtain ⟨y0, y1, y2, y3, y4, y5, y6, y7, y8, y9, y10, yf⟩ := x_cells HX1.out
    have yf8 := yf 8
    clear yf
    go_upto_region 32 with fail
    go_cut [8] from 149 to 159 (fun a8 wx => a8 = .nilFunc ∧ wx.heap[xb]? = some (.cells (xCells ⟨27, a, b, c, im⟩ s.pc false (-1) va sb (s.pc + 1)) 126 (0, 0)) ∧ Fr (· = xb) W1 wx)
    case first =>
     go_region
     all_goals
      go_wp2_with fail
      go_meet
      case rel => exact ⟨rfl, (heap_setCell_same W1 xb 8 _ _ (.int .i32 va) HX1.out).trans rfl, ((Fr.refl (· = xb) W1).set (o := 8) (.int .i32 va) (.inl rfl)).drew⟩
    case rest =>
     obtain ⟨rfl, k3, f3⟩ := hcut
     go_wp2_with fail
     go_ret2
     exact PrepPost.same rfl k3 ((Fr.of BW.out).trans f3) (.plain (.inr (.inl rfl))) (fun _ => HVA.out.symm) (commit_nothing (HJ1.out.keep f3 (fun k hk e => HXJ.out (by rw [← e]; exact hk))))
  ·as_aux_lemma =>
    obtain ⟨mA, mcap, hmv⟩ : ∃ mA mcap, s.d = .slice mA dl.length mcap := by
     rcases HJ1.out.d.2 with ⟨h, h'⟩ | ⟨g, cap, cur, h, _⟩
     ·exact ⟨_, _, by rw [h, h']⟩
     ·exact ⟨_, _, h⟩
    have HMV := Lib.hid hmv
    have HBR := Lib.hid (show 0 ≤ vb ∨ vb < 0 from by omega)
    obtain ⟨mv, hmve⟩ : ∃ mv, s.d = mv := ⟨_, rfl⟩
    have HME := Lib.hid hmve
    rw [hmve] at rdd
    clear hmv hmve
    by_cases hbad : vb + im < 0 ∨ (dl.length : Int) ≤ vb + im
    ·have HAE := Lib.hid (acc_err xb sb 18 im a b c hb him s s.d mA dl.length mcap HMV.out HJ1.out.dn (by rw [HVB.out]; exact hbad) W1 HX1.out HJ1.out.m)
     rw [HME.out] at HAE
     clear hbad
     go_wp2_with (go_at_call 75; refine HAE.out.mono ?_; rintro e W2 ⟨rfl, hb2⟩)
     go_ret2
     exact .inl ⟨_, _, by decide, rfl, BW.out.trans (hb2.mono BW.out.size)⟩
    have HB := Lib.hid (show 0 ≤ reg s (b : Int) + im ∧ reg s (b : Int) + im < (dl.length : Int) by rw [HVB.out]; omega)
    clear hbad
    have HAE := Lib.hid (acc_ld18 xb sb im a b c hb him s s.d mA dl.length mcap HMV.out HJ1.out.dn dl HB.out.1 HB.out.2 W1 HX1.out HJ1.out.m HJ1.out.d)
    rw [HME.out] at HAE
    go_wp2_with (go_at_call 75; refine HAE.out.mono ?_; rintro e W2 ⟨⟨c0, c1, rfl, k0, k1⟩, hx2, f2⟩)
    go_ret2
    have hJ2 := HJ1.out.keep f2 (fun k hk e => HXJ.out (by rw [← e]; exact hk))
    exact PrepPost.same rfl hx2 ((Fr.of BW.out).trans f2) (.set (dl.getD (reg s (b : Int) + im).toNat 0) (.inr (.inr (.inr (.inr (.inl ⟨rfl, HB.out.1, HB.out.2, rfl⟩)))))) (fun h => by simp at h) (commit_set hJ2 (by simp) (by simp only; omega) (getD_word HJ1.out.dw _) hx2 k0 k1)
  ·as_aux_lemma =>
    obtain ⟨mA, mcap, hmv⟩ : ∃ mA mcap, s.d = .slice mA dl.length mcap := by
     rcases HJ1.out.d.2 with ⟨h, h'⟩ | ⟨g, cap, cur, h, _⟩
     ·exact ⟨_, _, by rw [h, h']⟩
     ·exact ⟨_, _, h⟩
    have HMV := Lib.hid hmv
    have HBR := Lib.hid (show 0 ≤ vb ∨ vb < 0 from by omega)
    obtain ⟨mv, hmve⟩ : ∃ mv, s.d = mv := ⟨_, rfl⟩
    have HME := Lib.hid hmve
    rw [hmve] at rdd
    clear hmv hmve
    by_cases hbad : vb + im < 0 ∨ (dl.length : Int) ≤ vb + im
    ·have HAE := Lib.hid (acc_err xb sb 19 im a b c hb him s s.d mA dl.length mcap HMV.out HJ1.out.dn (by rw [HVB.out]; exact hbad) W1 HX1.out HJ1.out.m)
     rw [HME.out] at HAE
     clear hbad
     go_wp2_with (go_at_call 75; refine HAE.out.mono ?_; rintro e W2 ⟨rfl, hb2⟩)
     go_ret2
     exact .inl ⟨_, _, by decide, rfl, BW.out.trans (hb2.mono BW.out.size)⟩
    have HB := Lib.hid (show 0 ≤ reg s (b : Int) + im ∧ reg s (b : Int) + im < (dl.length : Int) by rw [HVB.out]; omega)
    clear hbad
    have HAE := Lib.hid (acc_st19 xb sb im a b c hb him s s.d mA dl.length mcap HMV.out HJ1.out.dn dl HB.out.1 HB.out.2 W1 HX1.out HJ1.out.m HJ1.out.d)
  
    go_wp2_with (go_at_call 75; rw [← HME.out]; refine HAE.out.mono ?_; rintro e W2 ⟨⟨c0, ib2, mc, ac, ad, mb, rfl, hmb, hadn, had, k0, k1, k2, k3⟩, hx2, f2⟩)
    go_ret2
    have hJ2 := HJ1.out.keep f2 (fun k hk e => HXJ.out (by rw [← e]; exact hk))
    exact PrepPost.same rfl hx2 ((Fr.of BW.out).trans f2) (.st rfl HB.out.1 HB.out.2) (fun h => by simp at h) (commit_st hJ2 ha hmb hadn had k0 k1 k2 k3)
  ·as_aux_lemma =>
    obtain ⟨mA, mcap, hmv⟩ : ∃ mA mcap, sv = .slice mA sl.length mcap := by
     rcases HJ1.out.sh.2 with ⟨h, h'⟩ | ⟨g, cap, cur, h, _⟩
     ·exact ⟨_, _, by rw [h, h']⟩
     ·exact ⟨_, _, h⟩
    have HMV := Lib.hid hmv
    have HBR := Lib.hid (show 0 ≤ vb ∨ vb < 0 from by omega)
    obtain ⟨mv, hmve⟩ : ∃ mv, sv = mv := ⟨_, rfl⟩
    have HME := Lib.hid hmve
    subst hmve
    clear hmv
    by_cases hbad : vb + im < 0 ∨ (sl.length : Int) ≤ vb + im
    ·have HAE := Lib.hid (acc_err xb sb 20 im a b c hb him s sv mA sl.length mcap HMV.out HJ1.out.sn (by rw [HVB.out]; exact hbad) W1 HX1.out HJ1.out.m)
   
     clear hbad
     go_wp2_with (go_at_call 75; refine HAE.out.mono ?_; rintro e W2 ⟨rfl, hb2⟩)
     go_ret2
     exact .inl ⟨_, _, by decide, rfl, BW.out.trans (hb2.mono BW.out.size)⟩
    have HB := Lib.hid (show 0 ≤ reg s (b : Int) + im ∧ reg s (b : Int) + im < (sl.length : Int) by rw [HVB.out]; omega)
    clear hbad
    have HAE := Lib.hid (acc_ld20 xb sb im a b c hb him s sv mA sl.length mcap HMV.out HJ1.out.sn sl HB.out.1 HB.out.2 W1 HX1.out HJ1.out.m HJ1.out.sh)
  
    go_wp2_with (go_at_call 75; refine HAE.out.mono ?_; rintro e W2 ⟨⟨c0, c1, rfl, k0, k1⟩, hx2, f2⟩)
    go_ret2
    have hJ2 := HJ1.out.keep f2 (fun k hk e => HXJ.out (by rw [← e]; exact hk))
    exact PrepPost.same rfl hx2 ((Fr.of BW.out).trans f2) (.set (sl.getD (reg s (b : Int) + im).toNat 0) (.inr (.inr (.inr (.inr (.inr (.inl ⟨rfl, HB.out.1, HB.out.2, rfl⟩))))))) (fun h => by simp at h) (commit_set hJ2 (by simp) (by simp only; omega) (getD_word HJ1.out.sw _) hx2 k0 k1)
  ·as_aux_lemma =>
    obtain ⟨mA, mcap, hmv⟩ : ∃ mA mcap, sv = .slice mA sl.length mcap := by
     rcases HJ1.out.sh.2 with ⟨h, h'⟩ | ⟨g, cap, cur, h, _⟩
     ·exact ⟨_, _, by rw [h, h']⟩
     ·exact ⟨_, _, h⟩
    have HMV := Lib.hid hmv
    have HBR := Lib.hid (show 0 ≤ vb ∨ vb < 0 from by omega)
    obtain ⟨mv, hmve⟩ : ∃ mv, sv = mv := ⟨_, rfl⟩
    have HME := Lib.hid hmve
    subst hmve
    clear hmv
    by_cases hbad : vb + im < 0 ∨ (sl.length : Int) ≤ vb + im
    ·have HAE := Lib.hid (acc_err xb sb 21 im a b c hb him s sv mA sl.length mcap HMV.out HJ1.out.sn (by rw [HVB.out]; exact hbad) W1 HX1.out HJ1.out.m)
   
     clear hbad
     go_wp2_with (go_at_call 75; refine HAE.out.mono ?_; rintro e W2 ⟨rfl, hb2⟩)
     go_ret2
     exact .inl ⟨_, _, by decide, rfl, BW.out.trans (hb2.mono BW.out.size)⟩
    have HB := Lib.hid (show 0 ≤ reg s (b : Int) + im ∧ reg s (b : Int) + im < (sl.length : Int) by rw [HVB.out]; omega)
    clear hbad
    have HAE := Lib.hid (acc_st21 xb sb im a b c hb him s sv mA sl.length mcap HMV.out HJ1.out.sn sl HB.out.1 HB.out.2 W1 HX1.out HJ1.out.m HJ1.out.sh)
  
    go_wp2_with (go_at_call 75; refine HAE.out.mono ?_; rintro e W2 ⟨⟨c0, ib2, mc, ac, ad, mb, rfl, hmb, hadn, had, k0, k1, k2, k3⟩, hx2, f2⟩)
    go_ret2
    have hJ2 := HJ1.out.keep f2 (fun k hk e => HXJ.out (by rw [← e]; exact hk))
    exact PrepPost.same rfl hx2 ((Fr.of BW.out).trans f2) (.sts rfl HB.out.1 HB.out.2) (fun h => by simp at h) (commit_sts hJ2 ha hmb hadn had k0 k1 k2 k3)
  ·as_aux_lemma =>
    have HBRC := Lib.hid (br_22 xb sb im b c a ha him s hpc W1 HX1.out HJ1.out.m)
    unfold BrPost at HBRC
    go_wp2_with (go_at_call 76; refine HBRC.out.mono ?_; rintro e W2 ⟨rfl, ⟨tk, hx2⟩, f2⟩)
    go_ret2
    exact PrepPost.same rfl hx2 ((Fr.of BW.out).trans f2) (.br rfl) (fun h => by simp at h) (commit_nothing (HJ1.out.keep f2 (fun k hk e => HXJ.out (by rw [← e]; exact hk))))
  ·as_aux_lemma =>
    have HBRC := Lib.hid (br_23 xb sb im b c a ha him s hpc W1 HX1.out HJ1.out.m)
    unfold BrPost at HBRC
    go_wp2_with (go_at_call 76; refine HBRC.out.mono ?_; rintro e W2 ⟨rfl, ⟨tk, hx2⟩, f2⟩)
    go_ret2
    exact PrepPost.same rfl hx2 ((Fr.of BW.out).trans f2) (.br rfl) (fun h => by simp at h) (commit_nothing (HJ1.out.keep f2 (fun k hk e => HXJ.out (by rw [← e]; exact hk))))
  ·as_aux_lemma =>
    have HBRC := Lib.hid (br_24 xb sb im b c a ha him s hpc W1 HX1.out HJ1.out.m)
    unfold BrPost at HBRC
    go_wp2_with (go_at_call 76; refine HBRC.out.mono ?_; rintro e W2 ⟨rfl, ⟨tk, hx2⟩, f2⟩)
    go_ret2
    exact PrepPost.same rfl hx2 ((Fr.of BW.out).trans f2) (.br rfl) (fun h => by simp at h) (commit_nothing (HJ1.out.keep f2 (fun k hk e => HXJ.out (by rw [← e]; exact hk))))
  ·as_aux_lemma =>
    by_cases hcd : s.held < 0 ∧ im < lk
    case neg =>
     have HCE := Lib.hid (ctl_lock_err xb sb im lk a b c s hcd W1 HX1.out HJ1.out.m)
     clear hcd
     go_wp2_with (go_at_call 77; refine HCE.out.mono ?_; rintro e W2 ⟨rfl, hb2⟩)
     go_ret2
     exact .inl ⟨_, _, by decide, rfl, BW.out.trans (hb2.mono BW.out.size)⟩
    have HCD := Lib.hid hcd
    have HCE := Lib.hid (ctl_lock_ok xb sb im lk a b c s hcd.1 hcd.2 W1 HX1.out HJ1.out.m)
    clear hcd
    go_wp2_with (go_at_call 77; refine HCE.out.mono ?_; rintro e W2 ⟨⟨ib2, cb, rfl, k0, k1⟩, hb2⟩)
    go_ret2
    exact PrepPost.same rfl ((hb2.block xb lx1).trans HX1.out) (Fr.of (BW.out.trans (hb2.mono BW.out.size))) (.lock rfl HCD.out.1 HCD.out.2) (fun h => by simp at h) (commit_lock (HJ1.out.later hb2) k0 k1)
  ·as_aux_lemma =>
    by_cases hcd : s.held = im
    case neg =>
     have HCE := Lib.hid (ctl_unlock_err xb sb im lk a b c s hcd W1 HX1.out HJ1.out.m)
     clear hcd
     go_wp2_with (go_at_call 77; refine HCE.out.mono ?_; rintro e W2 ⟨rfl, hb2⟩)
     go_ret2
     exact .inl ⟨_, _, by decide, rfl, BW.out.trans (hb2.mono BW.out.size)⟩
    have HCD := Lib.hid hcd
    have HCE := Lib.hid (ctl_unlock_ok xb sb im lk a b c s hcd W1 HX1.out HJ1.out.m)
    clear hcd
    go_wp2_with (go_at_call 77; refine HCE.out.mono ?_; rintro e W2 ⟨⟨cb, rfl, k1⟩, hb2⟩)
    go_ret2
    exact PrepPost.same rfl ((hb2.block xb lx1).trans HX1.out) (Fr.of (BW.out.trans (hb2.mono BW.out.size))) (.unlock rfl HCD.out) (fun h => by simp at h) (commit_unlock (HJ1.out.later hb2) k1)
  ·as_aux_lemma =>
    by_cases hcd : s.held < 0
    case neg =>
     have HCE := Lib.hid (ctl_halt_err xb sb im lk a b c s hcd W1 HX1.out HJ1.out.m)
     clear hcd
     go_wp2_with (go_at_call 77; refine HCE.out.mono ?_; rintro e W2 ⟨rfl, hb2⟩)
     go_ret2
     exact .inl ⟨_, _, by decide, rfl, BW.out.trans (hb2.mono BW.out.size)⟩
    have HCD := Lib.hid hcd
    have HCE := Lib.hid (ctl_halt_ok xb sb im lk a b c s hcd W1 HX1.out HJ1.out.m)
    clear hcd
    go_wp2_with (go_at_call 77; refine HCE.out.mono ?_; rintro e W2 ⟨⟨cb, rfl, k1⟩, hx2, f2⟩)
    go_ret2
    exact PrepPost.same rfl hx2 ((Fr.of BW.out).trans f2) (.halt rfl HCD.out) (fun h => by simp at h) (commit_halt (HJ1.out.keep f2 (fun k hk e => HXJ.out (by rw [← e]; exact hk))) k1)
  ·as_aux_lemma =>
    have hsj := HSJ.out
    obtain ⟨y0, y1, y2, y3, y4, y5, y6, y7, y8, y9, y10, yf⟩ := x_cells HX1.out
    have yf8 := yf 8
    have HPO := Lib.hid HP.old
    have HST := Lib.hid HP.st
    rcases HP.fn with rfl | ⟨fid, caps, rfl, hen, hnn, hcl⟩
    ·clear yf
     have hnil : ∀ w, (binOp .neq 84 .nilFunc .nilFunc).run Tryd.prog w = .ok (.bool false) w := fun w => by kernel_rfl
     go_wp2_with (go_at_call 74; refine (HSET.out _ _ (by first | assumption | exact Below.refl _ _ | exact Below.drew (Below.refl _ _) | exact Ext.h _)).mono ?_; rintro e W2 ⟨⟨c0, c1, rfl, k0, k1⟩, hb2⟩)
     go_returns
     have hX2 := (hb2.block xb lx1).trans HX1.out
     have hW3 : W32 (0) := by unfold W32; omega
     exact PrepPost.same rfl hX2 ((Fr.of BW.out).trans (Fr.of hb2)) (.set (0) (.inr (.inr (.inr (.inr (.inr (.inr (.inl ⟨rfl, by unfold W32; omega⟩)))))))) (fun h => by first | (simp at h; done) | (simp only at h; have := HO.out; omega)) (commit_set (HJ1.out.later hb2) (by simp) (by simp only; omega) hW3 hX2 k0 (by first | exact k1 | (rw [i32w] at k1; exact k1)))
    ·have HEN := hen im
     have HCL := Lib.hid (hcl im W1 BW.out)
     clear HP hcl hen
     go_upto_region 30 with (with_reducible refine HCL.out.mono ?_; rintro e W2 ⟨v, hv, rfl, f2, hrp⟩; have z8 := (f2.cell 8 lx1 hsx).trans y8; have zf8 : W2.frozen? ⟨xb, 8, none⟩ = false := (World.frozen?_of_block (f2.block xb lx1 hsx)).trans yf8; have lx2 : xb < W2.heap.size := Nat.lt_of_lt_of_le lx1 f2.size)
     obtain ⟨W3, hW3⟩ : ∃ W3, W2.setCell ⟨xb, 8, none⟩ (.int .i32 v) = W3 := ⟨_, rfl⟩
     have f3 : Fr (· = xb) W2 W3 := hW3 ▸ (Fr.refl (· = xb) _).set _ (.inl rfl)
     have KX3 := Lib.hid (show W3.heap[xb]? = some (.cells (xCells ⟨26, a, b, c, im⟩ s.pc false (-1) v sb (s.pc + 1)) 126 (0, 0)) by rw [← hW3, heap_setCell_same W2 xb 8 _ _ _ ((f2.block xb lx1 hsx).trans HX1.out)]; rfl)
     obtain ⟨q0, q1, q2, q3, q4, q5, q6, q7, q8, q9, q10, qf⟩ := x_cells KX3.out
     have lx3 : xb < W3.heap.size := lt_of_blk' KX3.out
     have HJ3 := Lib.hid ((HJ1.out.keep f2 hsj).keep f3 (fun k hk e => HXJ.out (by rw [← e]; exact hk)))
     have HF3 := Lib.hid ((((Fr.of (S := fun k => k = xb ∨ Sp k) BW.out).trans (f2.mono fun k _ h => .inr h)).trans (f3.mono fun k _ e => .inl e)))
     have HV3 := Lib.hid hv
     have HRP := Lib.hid (HST.out _ _ _ hrp f3 (fun k hk e => hsx (by rw [← e]; exact hk)))
     rw [hW3]
     clear hW3 f2 f3 z8 zf8 lx2 y0 y1 y2 y3 y4 y5 y6 y7 y8 y9 y10 yf yf8 qf hnn HEN i0 i1 i2 i3 i4 rga rgb rgc rdd hv hrp
     go_wp2_with (go_at_call 74; refine (set_any xb _ _).mono ?_; rintro e W4 ⟨⟨c0, c1, rfl, k0, k1⟩, hb4⟩)
     go_ret2
     exact .inr ⟨_, _, _, _, _, _, _, _, rfl, (hb4.block xb lx3).trans KX3.out, HF3.out.trans (Fr.of hb4), .inr (HST.out (fun _ => False) _ _ HRP.out (Fr.of hb4) (fun _ _ h => h)), .set v (.inr (.inr (.inr (.inr (.inr (.inr (.inl ⟨rfl, HV3.out⟩))))))), fun h => by simp at h, commit_set (HJ3.out.later hb4) (by simp) (by simp only; omega) HV3.out ((hb4.block xb lx3).trans KX3.out) k0 k1⟩
  ·as_aux_lemma =>
    obtain ⟨opn, rfl⟩ : ∃ n : Nat, op = (n : Int) := ⟨op.toNat, by omega⟩
    have ho : 2 ≤ opn ∧ opn ≤ 13 := by omega
    have hT := HTT.out
    clear ho0
    have HT := Lib.hid (show W1.cell? ⟨1, opn, none⟩ = some (.int .u8 (opr (opn : Int))) by rw [BW.out.cell (p := ⟨1, opn, none⟩) hT1]; exact hT opn ho.1 ho.2)
    have tb := HT.out
    have n0 : ((opn : Int) == 0) = false := by simp; omega
    have m0 : (opn == 0) = false := by simp; omega
    have n1 : ((opn : Int) == 1) = false := by simp; omega
    have m1 : (opn == 1) = false := by simp; omega
    have n14 : ((opn : Int) == 14) = false := by simp; omega
    have m14 : (opn == 14) = false := by simp; omega
    have n15 : ((opn : Int) == 15) = false := by simp; omega
    have m15 : (opn == 15) = false := by simp; omega
    have n16 : ((opn : Int) == 16) = false := by simp; omega
    have m16 : (opn == 16) = false := by simp; omega
    have n17 : ((opn : Int) == 17) = false := by simp; omega
    have m17 : (opn == 17) = false := by simp; omega
    have n18 : ((opn : Int) == 18) = false := by simp; omega
    have m18 : (opn == 18) = false := by simp; omega
    have n19 : ((opn : Int) == 19) = false := by simp; omega
    have m19 : (opn == 19) = false := by simp; omega
    have n20 : ((opn : Int) == 20) = false := by simp; omega
    have m20 : (opn == 20) = false := by simp; omega
    have n21 : ((opn : Int) == 21) = false := by simp; omega
    have m21 : (opn == 21) = false := by simp; omega
    have n22 : ((opn : Int) == 22) = false := by simp; omega
    have m22 : (opn == 22) = false := by simp; omega
    have n23 : ((opn : Int) == 23) = false := by simp; omega
    have m23 : (opn == 23) = false := by simp; omega
    have n24 : ((opn : Int) == 24) = false := by simp; omega
    have m24 : (opn == 24) = false := by simp; omega
    have n25 : ((opn : Int) == 25) = false := by simp; omega
    have m25 : (opn == 25) = false := by simp; omega
    have n26 : ((opn : Int) == 26) = false := by simp; omega
    have m26 : (opn == 26) = false := by simp; omega
    have n27 : ((opn : Int) == 27) = false := by simp; omega
    have m27 : (opn == 27) = false := by simp; omega
    have n28 : ((opn : Int) == 28) = false := by simp; omega
    have m28 : (opn == 28) = false := by simp; omega
    have n29 : ((opn : Int) == 29) = false := by simp; omega
    have m29 : (opn == 29) = false := by simp; omega
    have t1 : decide ((30 : Int) ≤ (opn : Int)) = false := decide_eq_false (by omega)
    have t2 : (opn : Int) < 30 := by omega
    have HO := Lib.hid ho
    have l1 : 1 < W1.heap.size := Nat.lt_of_lt_of_le hT1 BW.out.size
    clear hT ho hT1
    obtain ⟨oo, hoo⟩ : ∃ oo, opr (opn : Int) = oo := ⟨_, rfl⟩
    rw [hoo] at tb
    have HOO := Lib.hid hoo
    obtain ⟨rv, hrv⟩ : ∃ rv, wv oo vb vc = rv := ⟨_, rfl⟩
    obtain ⟨er, her⟩ : ∃ er, we oo vc = er := ⟨_, rfl⟩
    have HAP := Lib.hid (show ∀ W, Calls Tryd.prog 65 #[.int .u8 oo, .int .i32 vb, .int .i32 vc] W fun e w' => e = .returned (.tuple #[.int .i32 rv, .int .i64 er]) ∧ W = w' from fun W => by rw [← hrv, ← her]; exact wapply_any oo vb vc W wrb wrc)
    have HRV := Lib.hid hrv
    have HER := Lib.hid her
    clear hoo hrv her
    go_upto_region 38 with fail
    refine wp_region_ext (by kernel_rfl) (by kernel_rfl) ?_
    repeat (go_big_quiet_step (first | (go_at_call 65; exact Calls.extq_same (HAP.out _))))
    refine wpQuiet_nil ?_
    rintro _ ⟨y, rfl⟩
    clear tb i0 i1 i2 i3 i4
    have lxy : xb < y.w.heap.size := Nat.lt_of_lt_of_le lx1 y.h.size
    by_cases hez : er = 0
    case neg =>
     have HEZ := Lib.hid hez
     clear hez
     go_wp2_with (go_at_call 74; refine (HSET.out _ _ (by first | assumption | exact Below.refl _ _ | exact Below.drew (Below.refl _ _) | exact Ext.h _)).mono ?_; rintro e W2 ⟨⟨c0, c1, rfl, k0, k1⟩, hb2⟩)
     go_ret2
     exact .inl ⟨_, _, HEZ.out, rfl, BW.out.trans (hb2.mono BW.out.size)⟩
    subst hez
    go_wp2_with (go_at_call 74; refine (HSET.out _ _ (by first | assumption | exact Below.refl _ _ | exact Below.drew (Below.refl _ _) | exact Ext.h _)).mono ?_; rintro e W2 ⟨⟨c0, c1, rfl, k0, k1⟩, hb2⟩)
    go_returns
    have hX2 := (hb2.block xb lx1).trans HX1.out
    have hW3 : W32 (rv) := by rw [← HRV.out]; exact wv_word _ wrb wrc
    exact PrepPost.same rfl hX2 ((Fr.of BW.out).trans (Fr.of hb2)) (.set (rv) (.inr (.inr (.inr (.inr (.inr (.inr (.inr ⟨by simp only; have := HO.out; omega, by simp only; have := HO.out; omega, by simp only; rw [HOO.out, HVC.out]; exact HER.out, by simp only; rw [HOO.out, HVB.out, HVC.out]; exact HRV.out.symm⟩)))))))) (fun h => by first | (simp at h; done) | (simp only at h; have := HO.out; omega)) (commit_set (HJ1.out.later hb2) (by simp) (by simp only; omega) hW3 hX2 k0 (by first | exact k1 | (rw [i32w] at k1; exact k1)))

end Go.Proofs.YtebklpnkcicpjaaDoor


