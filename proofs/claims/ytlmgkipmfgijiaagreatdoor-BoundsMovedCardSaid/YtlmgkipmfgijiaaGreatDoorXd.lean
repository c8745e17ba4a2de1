/-
  What is proved here: parts bCc, bCd.
-/
import Derived.Test.YtlmgkipmfgijiaaGreatDoorXa
import Derived.Test.YtlmgkipmfgijiaaGreatDoorXc
import Derived.Test.YtlmgkipmfgijiaaGreatDoorXb
import Derived.ChangeSame
import Derived.ChangeVars
import Derived.JoinedOf
import Derived.RowKit
import Derived.Deep.Strs
namespace Go.Proofs.YtlmgkipmfgijiaaGreatDoor
set_option linter.unusedVariables false
set_option linter.unusedSimpArgs false
set_option maxRecDepth 100000
set_option maxHeartbeats 8000000
section
open Go.RowKit
def iZ (L : List (Int × Int)) : List Value := L.flatMap fun p => [.int .i64 p.1, .int .i64 p.2, .slice none 0 0]
theorem pH (L : List (Int × Int)) : (iZ L).length = L.length * 3 := by
 induction L with
 | nil => rfl
 | cons p L ih => simp only [iZ, List.flatMap_cons, List.length_append, List.length_cons, List.length_nil] at ih ⊢; omega
theorem j9 (L : List (Int × Int)) (a b : Int) : iZ (L ++ [(a, b)]) = iZ L ++ [.int .i64 a, .int .i64 b, .slice none 0 0] := by simp [iZ]
theorem Ex (L : List (Int × Int)) (a b t : Int) : (iZ (L ++ [(a, b)])).set (L.length * 3 + 1) (.int .i64 t) = iZ (L ++ [(a, t)]) := by
 rw [j9, j9, ← pH, List.set_append_right _ _ ahU]
 simp
theorem yF (L : List (Int × Int)) (a b : Int) : (iZ (L ++ [(a, b)]))[L.length * 3 + 1]? = some (.int .i64 b) := by
 rw [j9, ← pH, List.getElem?_append_right ahU]
 simp
structure BM (V wr : World) (gb nb : Nat) (bv : Value) (L : List (Int × Int)) : Prop where
 gV : gb < V.heap.size
 nV : nb < V.heap.size
 gn : gb ≠ nb
 os : wr.os = V.os
 tape : wr.tape = V.tape
 output : wr.output = V.output
 sz : V.heap.size ≤ wr.heap.size
 blk : ∀ k, k < V.heap.size → k ≠ gb → k ≠ nb → wr.heap[k]? = V.heap[k]?
 g : wr.heap[gb]? = some (.cells #[bv, .slice none 0 0] 31 (0, 0))
 num : Im wr nb (Cb L)
 row : wr.ownsRow V.heap.size 78 3 bv L.length (iZ L)
theorem BM.below {V wr wr' : World} {gb nb : Nat} {bv : Value} {L : List (Int × Int)} (h : BM V wr gb nb bv L) (hb : Below wr.heap.size wr wr') : BM V wr' gb nb bv L :=
 ⟨h.gV, h.nV, h.gn, hb.os.trans h.os, hb.tape.trans h.tape, hb.output.trans h.output, Nat.le_trans h.sz hb.size, fun k h1 h2 h3 => (hb.block k (by have := h.sz; omega)).trans (h.blk k h1 h2 h3), (hb.block _ (by have := h.sz; have := h.gV; omega)).trans h.g, h.num.below hb h.num.lt, ak h.row hb⟩
theorem A8 (w : World) (a b c : Value) (t : TypeId) : ∀ j u, [a, b, c][j]? = some u → (w.alloc (.cells #[a, b, c] t)).cell? ((⟨w.heap.size, 0, none⟩ : Addr).add j) = some u := by
 intro j u h
 have e : (⟨w.heap.size, 0, none⟩ : Addr).add j = ⟨w.heap.size, j, none⟩ := by cases j <;> simp [Addr.add]
 rw [e]
 unfold World.cell?
 rw [heap_alloc_new]
 simpa using h
theorem Ew (L : List (Int × Int)) : l8 L (fun _ => .slice none 0 0) = iZ L := by
 apply List.ext_getElem?
 intro q
 by_cases hq : q < L.length * 3
 ·obtain ⟨a, b, hb, rfl⟩ : ∃ a b, b < 3 ∧ q = a * 3 + b := ⟨q / 3, q % 3, Nat.mod_lt _ ahU, by omega⟩
  have ha : a < L.length := by omega
  rw [gQ L _ ha hb]
  have : ∀ (L : List (Int × Int)) (a b : Nat), a < L.length → b < 3 → (iZ L)[a * 3 + b]? = [.int .i64 (L.getD a (0, 0)).1, .int .i64 (L.getD a (0, 0)).2, .slice none 0 0][b]? := by
   intro L
   induction L with
   | nil => intro a b h; simp at h
   | cons p L ih =>
    intro a b h hb
    have e : iZ (p :: L) = [.int .i64 p.1, .int .i64 p.2, .slice none 0 0] ++ iZ L := by simp [iZ]
    rw [e]
    cases a with
    | zero => rw [List.getElem?_append_left ah3]; simp
    | succ a =>
     rw [List.getElem?_append_right ah3]
     have := ih a b (by simp at h; omega) hb
     rw [show (a + 1) * 3 + b - [Value.int .i64 p.1, .int .i64 p.2, .slice none 0 0].length = a * 3 + b by simp; omega, this]
     simp [List.getD]
  exact (this L a b ha hb).symm
 ·rw [List.getElem?_eq_none (by rw [mC]; omega), List.getElem?_eq_none (by rw [pH]; omega)]
theorem wj {w : World} {b : Nat} {o : Obj} (h : w.heap[b]? = some o) : b < w.heap.size := (Array.getElem?_eq_some_iff.1 h).1
theorem Sz : (Tryz.prog.info? 78).map (fun i => (i.zero, i.size, i.bytes)) = some (some (.agg #[.int .i64 0, .int .i64 0, .slice none 0 0]), 3, 40) := by kernel_rfl
theorem BM.im {V wr : World} {gb nb x : Nat} {bv : Value} {L : List (Int × Int)} {f : Int → Option Value} (h : BM V wr gb nb bv L) (hx : Im V x f) (h1 : x ≠ gb) (h2 : x ≠ nb) : Im wr x f := hx.keep (h.blk x hx.lt h1 h2)
theorem BM.xK {V wr : World} {gb nb : Nat} {bv : Value} {L : List (Int × Int)} (h : BM V wr gb nb bv L) {j : Nat} (hj : bv.ownBlock = some j) : V.heap.size ≤ j ∧ j < wr.heap.size := h.row.lt j hj
theorem BM.iQ {V wr : World} {gb nb g cap : Nat} {M : List (Int × Int)} {a b t : Int} (h : BM V wr gb nb (.slice (some ⟨g, 0, none⟩) (M.length + 1) cap) (M ++ [(a, b)])) : BM V (wr.setCell ⟨g, M.length * 3 + 1, none⟩ (.int .i64 t)) gb nb (.slice (some ⟨g, 0, none⟩) (M.length + 1) cap) (M ++ [(a, t)]) := by
 have hr := h.row
 rw [show (M ++ [(a, b)]).length = M.length + 1 by simp] at hr
 obtain ⟨r1, r2⟩ := hr.stored (M.length * 3 + 1) (.int .i64 t)
 have hg := (h.xK (j := g) rfl)
 have Nc := h.gV
 have Hx := h.nV
 refine ⟨h.gV, h.nV, h.gn, h.os, h.tape, h.output, by simpa using h.sz, fun k h1 h2 h3 => ?_, ?_, ?_, ?_⟩
 ·rw [Below.heap_setCell _ _ _ _ (by show k ≠ g; omega)]; exact h.blk k h1 h2 h3
 ·rw [Below.heap_setCell _ _ _ _ (by show gb ≠ g; omega)]; exact h.g
 ·rw [KJ M a t b]
  exact h.num.keep (Below.heap_setCell _ _ _ _ (by show nb ≠ g; omega))
 ·rw [show (M ++ [(a, t)]).length = M.length + 1 by simp, ← Ex M a b t]
  exact r1
theorem BM.app {V wr w2 w3 : World} {gb nb : Nat} {bv v' : Value} {L : List (Int × Int)} {a : Int} {o : Obj} (h : BM V wr gb nb bv L) (hm : Im w2 nb (Cb (L ++ [(a, 0)]))) (ho : w2.os = wr.os) (ht : w2.tape = wr.tape) (hp : w2.output = wr.output) (hs : w2.heap.size = wr.heap.size) (hk : ∀ i, i ≠ nb → w2.heap[i]? = wr.heap[i]?)
  (hg : (w2.alloc o).grownBy w3 bv.ownBlock) (hown : w3.ownsRow V.heap.size 78 3 v' (L.length + 1) (iZ (L ++ [(a, 0)]))) : BM V (w3.setCell ⟨gb, 0, none⟩ v') gb nb v' (L ++ [(a, 0)]) := by
 have Nc := h.gV
 have Hx := h.nV
 have hgn := h.gn
 have hsz := h.sz
 have hrl : ∀ j, bv.ownBlock = some j → V.heap.size ≤ j := fun j hj => (h.xK hj).1
 have hb : ∀ k, k < V.heap.size → w3.heap[k]? = w2.heap[k]? := fun k hk => by
  rw [hg.block k ah6 (fun e => by have := hrl k e.symm; omega), heap_alloc_old _ _ ahU]
 have hg3 : w3.heap[gb]? = some (.cells #[bv, .slice none 0 0] 31 (0, 0)) := (hb gb Nc).trans ((hk gb hgn).trans h.g)
 have XQ := hg.size
 rw [World.size_alloc] at XQ
 refine ⟨h.gV, h.nV, h.gn, ?_, ?_, ?_, by simp; omega, fun k h1 h2 h3 => ?_, ?_, ?_, ?_⟩
 ·exact hg.os.trans (ho.trans h.os)
 ·exact hg.tape.trans (ht.trans h.tape)
 ·exact hg.output.trans (hp.trans h.output)
 ·rw [Below.heap_setCell _ _ _ _ (by exact h2)]
  exact (hb k h1).trans ((hk k h3).trans (h.blk k h1 h2 h3))
 ·have := heap_setCell_same w3 gb 0 _ _ v' hg3
  rw [this]
  rfl
 ·exact hm.keep ((Below.heap_setCell _ _ _ _ (by exact Ne.symm hgn)).trans (hb nb Hx))
 ·rw [show (L ++ [(a, (0 : Int))]).length = L.length + 1 by simp]
  refine ownsRow_setCell_other hown ?_ _
  intro e
  have := (hown.lt gb e).1
  omega
def P8 (B : Nat) (bv pv : Value) : Prop := (∀ q, bv.ownBlock = some q → B ≤ q) ∧ ∀ q, pv.ownBlock = some q → B ≤ q
theorem ES (cv ev : Value) (sh lk : Int) (n : Nat) (cd : Nat → Int) (aC : List gR) (task : Int) (w : World) (T : gZ w) (HW : Words w cv n cd) (HE : nM w ev aC) :
  Calls Tryz.prog 12 #[.agg #[cv, ev, .int .i64 sh, .int .i64 lk], .int .i64 task] w fun e w' =>
   (¬ ng n cd aC sh lk ∧ e = .returned (.tuple #[.agg #[.slice none 0 0, .slice none 0 0], .int .i64 (-1), .int .i64 3]) ∧ Below w.heap.size w w') ∨
   (ng n cd aC sh lk ∧ (task < 0 ∨ (aC.length : Int) ≤ task) ∧ e = .returned (.tuple #[.agg #[.slice none 0 0, .slice none 0 0], .int .i64 (-1), .int .i64 2]) ∧ Below w.heap.size w w') ∨
   (ng n cd aC sh lk ∧ ∃ (k : Nat) (en : gR) (D : List Int) (bad : Int), task = (k : Int) ∧ aC[k]? = some en ∧ 0 ≤ bad ∧ fQ (au cd) en.st en.en D [] bad ∧ e = .returned (.tuple #[.agg #[.slice none 0 0, .slice none 0 0], .int .i64 bad, .int .i64 10]) ∧ Below w.heap.size w w') ∨
   (ng n cd aC sh lk ∧ ∃ (k : Nat) (en : gR) (D : List Int) (L : List (Int × Int)) (bv pv : Value), task = (k : Int) ∧ aC[k]? = some en ∧ fQ (au cd) en.st en.en D [] (-1) ∧ blk (au cd) en.st D (en.en - en.st).toNat = L ∧ e = .returned (.tuple #[.agg #[bv, pv], .int .i64 (-1), .int .i64 0]) ∧ fL w' bv (cU (au cd) L) ∧ mG w' pv (gi (au cd) L) ∧ Below w.heap.size w w' ∧ P8 w.heap.size bv pv) := by
 have hn := HW.le
 obtain ⟨A, cap, hcv, hc1, hc2, hrd⟩ := HW.at_
 obtain ⟨EA, dS, hev, he1, he2, Yi⟩ := HE.at_
 have h63 : aC.length ≤ 2 ^ 63 - 1 := by unfold maxLen at he2; omega
 have Ke := aiU HW
 have MB := aiU HE
 have HT := aiU T
 clear hrd Yi HW HE T
 subst hcv hev
 obtain ⟨V0, gC⟩ : ∃ V0, (w.alloc (.cells #[.slice A n cap, .slice EA aC.length dS, .int .i64 sh, .int .i64 lk] 25)).alloc (.cells #[.slice none 0 0, .slice none 0 0] 31) = V0 := ⟨_, rfl⟩
 have b0 : Below w.heap.size w V0 := gC ▸ ((Below.refl _ _).alloc (Nat.le_refl _) _).alloc ahZ _
 have s0 : w.heap.size + 2 = V0.heap.size := by rw [← gC]; simp
 have k0 : V0.heap[w.heap.size]? = some (.cells #[.slice A n cap, .slice EA aC.length dS, .int .i64 sh, .int .i64 lk] 25) := by rw [← gC, heap_alloc_old _ _ ahZ]; exact heap_alloc_new _ _
 have k1 : V0.heap[w.heap.size + 1]? = some (.cells #[.slice none 0 0, .slice none 0 0] 31) := by rw [← gC]; exact aG _ _ ahZ
 have y0 : V0.cell? ⟨w.heap.size, 0, none⟩ = some (.slice A n cap) := by simp [World.cell?, k0]
 have y1 : V0.cell? ⟨w.heap.size, 1, none⟩ = some (.slice EA aC.length dS) := by simp [World.cell?, k0]
 have y2 : V0.cell? ⟨w.heap.size, 2, none⟩ = some (.int .i64 sh) := by simp [World.cell?, k0]
 have y3 : V0.cell? ⟨w.heap.size, 3, none⟩ = some (.int .i64 lk) := by simp [World.cell?, k0]
 have K0 := aiU k0
 have K1 := aiU k1
 have B0 := aiU b0
 have Qv := aiU (EO (.slice A n cap) (.slice EA aC.length dS) sh lk n cd aC V0 (HT.out.below b0) (Ke.out.below b0) (MB.out.below b0))
 have f0 : V0.frozen? ⟨w.heap.size + 1, 0, none⟩ = false := by simp [World.frozen?, k1]
 have f1 : V0.frozen? ⟨w.heap.size + 1, 1, none⟩ = false := by simp [World.frozen?, k1]
 have r0 : V0.cell? ⟨w.heap.size + 1, 0, none⟩ = some (.slice none 0 0) := by simp [World.cell?, k1]
 have r1 : V0.cell? ⟨w.heap.size + 1, 1, none⟩ = some (.slice none 0 0) := by simp [World.cell?, k1]
 have s1 : w.heap.size + 1 < V0.heap.size := by omega
 have s2 : w.heap.size < V0.heap.size := by omega
 clear k0 k1 b0
 by_cases hg : ng n cd aC sh lk
 case neg =>
  have HC := aiU (show Calls Tryz.prog 30 #[.agg #[.slice A n cap, .slice EA aC.length dS, .int .i64 sh, .int .i64 lk]] V0 fun e w' => ∃ r, e = .returned (.int .i64 r) ∧ (r != 0) = true ∧ ∃ y : Ext V0, y.w = w' from Qv.out.mono fun e w' ⟨⟨r, h1, h2⟩, h3⟩ => ⟨r, h1, by simp; intro h; exact hg (h2.1 h), ⟨w', h3⟩, rfl⟩)
  go_enter Tryz.func12, Tryz.ntmps12
  go_upto_region 1 with fail
  clear gC
  go_wp2_with (go_at_call 30; refine HC.out.mono ?_; rintro e w' ⟨r, rfl, dr, y, rfl⟩)
  refine bodyPost_ret (v := .tuple #[.agg #[.slice none 0 0, .slice none 0 0], .int .i64 (-1), .int .i64 3]) aim rfl (.inl ⟨hg, rfl, ?_⟩)
  refine Below.setCell (Below.setCell (Ext.below B0.out ahU y) ?_ _) ?_ _ <;> simp
 have HC := aiU (show Calls Tryz.prog 30 #[.agg #[.slice A n cap, .slice EA aC.length dS, .int .i64 sh, .int .i64 lk]] V0 fun e w' => e = .returned (.int .i64 0) ∧ ∃ y : Ext V0, y.w = w' from Qv.out.mono fun e w' ⟨⟨r, h1, h2⟩, h3⟩ => ⟨by rw [h1, h2.2 hg], ⟨w', h3⟩, rfl⟩)
 have Rh := aiU hg
 clear hg Qv
 by_cases ht : task < 0 ∨ (aC.length : Int) ≤ task
 case pos =>
  go_enter Tryz.func12, Tryz.ntmps12
  go_upto_region 1 with fail
  clear gC
  by_cases h0 : task < 0
  ·have d0 : decide (task < 0) = true := decide_eq_true h0
   go_wp2_with (go_at_call 30; refine HC.out.mono ?_; rintro e w' ⟨rfl, y, rfl⟩)
   refine bodyPost_ret (v := .tuple #[.agg #[.slice none 0 0, .slice none 0 0], .int .i64 (-1), .int .i64 2]) aim rfl (.inr (.inl ⟨Rh.out, ht, rfl, ?_⟩))
   refine Below.setCell (Below.setCell (Ext.below B0.out ahU y) ?_ _) ?_ _ <;> simp
  ·have d0 : decide (task < 0) = false := decide_eq_false h0
   have d1 : decide ((aC.length : Int) ≤ task) = true := decide_eq_true ahU
   go_wp2_with (go_at_call 30; refine HC.out.mono ?_; rintro e w' ⟨rfl, y, rfl⟩)
   refine bodyPost_ret (v := .tuple #[.agg #[.slice none 0 0, .slice none 0 0], .int .i64 (-1), .int .i64 2]) aim rfl (.inr (.inl ⟨Rh.out, ht, rfl, ?_⟩))
   refine Below.setCell (Below.setCell (Ext.below B0.out ahU y) ?_ _) ?_ _ <;> simp
 obtain ⟨k, rfl⟩ : ∃ k : Nat, task = (k : Int) := ⟨task.toNat, by omega⟩
 have hk : k < aC.length := by omega
 have d0 : decide ((k : Int) < 0) = false := decide_eq_false ahU
 have d1 : decide ((aC.length : Int) ≤ (k : Int)) = false := decide_eq_false ahU
 obtain ⟨e, b, off, he, rfl, hbl, c0, c1, c2, c3⟩ := MB.out.cells B0.out hk
 have hem := List.mem_of_getElem? he
 obtain ⟨g1, g2, g3⟩ := Rh.out.ch.bounds e hem
 have hb2 : b < V0.heap.size := by omega
 have hcd := Rh.out.code
 clear ht MB
 go_enter Tryz.func12, Tryz.ntmps12
 go_upto_region 1 with fail
 clear gC
 go_upto_region 6 with (go_at_call 30; refine HC.out.mono ?_; rintro e w' ⟨rfl, y, rfl⟩)
 obtain ⟨W1, hW1⟩ : ∃ W1, y.w.alloc (.cells #[.string e.nm, .int .i64 e.st, .int .i64 e.en, .int .i64 e.da] 75) = W1 := ⟨_, rfl⟩
 have bW : Below V0.heap.size V0 W1 := hW1 ▸ y.h.alloc y.h.size _
 have kW : W1.heap[y.w.heap.size]? = some (.cells #[.string e.nm, .int .i64 e.st, .int .i64 e.en, .int .i64 e.da] 75) := hW1 ▸ heap_alloc_new _ _
 have sW : y.w.heap.size < W1.heap.size := by rw [← hW1]; simp
 have sy := y.h.size
 rw [hW1]
 obtain ⟨q, hq⟩ : ∃ q, y.w.heap.size = q := ⟨_, rfl⟩
 rw [hq] at kW sW sy ⊢
 have B1 := aiU (B0.out.trans (bW.mono ahU))
 have w9 := aiU (Dt (.slice A n cap) (.slice (some ⟨b, off, none⟩) aC.length dS) sh lk e.nm e.st e.en e.da n cd W1 (HT.out.below B1.out) (Ke.out.below B1.out) g1 g2 g3)
 have z0 : W1.cell? ⟨w.heap.size, 0, none⟩ = some (.slice A n cap) := by rw [bW.cell (p := ⟨w.heap.size, 0, none⟩) s2]; exact y0
 have z1 : W1.cell? ⟨w.heap.size, 1, none⟩ = some (.slice (some ⟨b, off, none⟩) aC.length dS) := by rw [bW.cell (p := ⟨w.heap.size, 1, none⟩) s2]; exact y1
 have z2 : W1.cell? ⟨w.heap.size, 2, none⟩ = some (.int .i64 sh) := by rw [bW.cell (p := ⟨w.heap.size, 2, none⟩) s2]; exact y2
 have z3 : W1.cell? ⟨w.heap.size, 3, none⟩ = some (.int .i64 lk) := by rw [bW.cell (p := ⟨w.heap.size, 3, none⟩) s2]; exact y3
 have v0 : W1.cell? ⟨q, 0, none⟩ = some (.string e.nm) := by simp [World.cell?, kW]
 have v1 : W1.cell? ⟨q, 1, none⟩ = some (.int .i64 e.st) := by simp [World.cell?, kW]
 have v2 : W1.cell? ⟨q, 2, none⟩ = some (.int .i64 e.en) := by simp [World.cell?, kW]
 have v3 : W1.cell? ⟨q, 3, none⟩ = some (.int .i64 e.da) := by simp [World.cell?, kW]
 have kR : W1.heap[w.heap.size + 1]? = some (.cells #[.slice none 0 0, .slice none 0 0] 31) := (bW.block _ s1).trans K1.out
 have s3 : w.heap.size + 1 < W1.heap.size := by omega
 have KW := aiU kW
 have KR := aiU kR
 clear hW1 hq kW kR bW y y0 y1 y2 y3 r0 r1 f0 f1 c0 c1 c2 c3 HC K0 K1 B0 d0 d1
 go_upto_region 7 with (go_at_call 31; refine w9.out.mono ?_; rintro e' W2 ⟨D, bad, fb, rfl, hfb, hRI, hIm, vZ⟩)
 have QC := (vZ.block _ s3).trans KR.out
 have kW2 := (vZ.block _ sW).trans KW.out
 have r0 : W2.cell? ⟨w.heap.size + 1, 0, none⟩ = some (.slice none 0 0) := by simp [World.cell?, QC]
 have r1 : W2.cell? ⟨w.heap.size + 1, 1, none⟩ = some (.slice none 0 0) := by simp [World.cell?, QC]
 have f0 : W2.frozen? ⟨w.heap.size + 1, 0, none⟩ = false := by simp [World.frozen?, QC]
 have f1 : W2.frozen? ⟨w.heap.size + 1, 1, none⟩ = false := by simp [World.frozen?, QC]
 have B2 := aiU (B1.out.trans (vZ.mono ahU))
 have CO := aiU hRI
 have sW2 := vZ.size
 have Qu := aiU hIm
 have Q2 := aiU kW2
 have KR2 := aiU QC
 clear hRI z0 z1 z2 z3 v0 v1 v2 v3 KW KR B1 w9 vZ hIm QC kW2
 rcases Classical.em (bad = -1) with hbd | hbd
 case inr =>
  have hbp : 0 ≤ bad := by
   rcases CO.out.b with h | h
   ·exact absurd h.1 hbd
   ·have := (CO.out.dr bad h.1).range _ _ _ g2
    omega
  have dd : decide (0 ≤ bad) = true := decide_eq_true hbp
  go_wp2_with fail
  refine bodyPost_ret (v := .tuple #[.agg #[.slice none 0 0, .slice none 0 0], .int .i64 bad, .int .i64 10]) aim rfl (.inr (.inr (.inl ⟨Rh.out, k, e, D, bad, rfl, he, hbp, CO.out, rfl, ?_⟩)))
  refine Below.setCell (Below.setCell B2.out ?_ _) ?_ _ <;> simp
 subst hbd
 have Yn : ∀ a ∈ D, (0 ≤ a ∧ a ≤ 1000000) ∧ (-1000000 ≤ (au cd a).aP ∧ (au cd a).aP ≤ 1000000) := fun a ha => by
  have h1 := (CO.out.dr a ha).range _ _ _ g2
  have h2 := sF (cd a.toNat) (Ke.out.wd a.toNat ahU).1
  unfold au
  omega
 have JF := aiU (ya e.nm e.st e.en e.da fb (au cd) D W2 ahU Yn Qu.out)
 have HCD := aiU Yn
 have v0 : W2.cell? ⟨q, 0, none⟩ = some (.string e.nm) := by simp [World.cell?, Q2.out]
 have v1 : W2.cell? ⟨q, 1, none⟩ = some (.int .i64 e.st) := by simp [World.cell?, Q2.out]
 have v2 : W2.cell? ⟨q, 2, none⟩ = some (.int .i64 e.en) := by simp [World.cell?, Q2.out]
 have v3 : W2.cell? ⟨q, 3, none⟩ = some (.int .i64 e.da) := by simp [World.cell?, Q2.out]
 clear r0 r1 f0 f1 Yn
 go_upto_region 10 with (go_at_call 32; refine JF.out.mono ?_; rintro e' W3 ⟨mb, mg, rfl, hmb, hMI, Yu, hb3⟩)
 have mk := fun W : World => (show (Instr.makeMap 101 none).run Tryz.prog W = .ok (.map (some W.heap.size)) (W.alloc (.map #[] 0)) from rfl)
 obtain ⟨V, hV⟩ : ∃ V, (W3.alloc (.cells #[.slice none 0 0, .slice none 0 0] 31)).alloc (.map #[] 0) = V := ⟨_, rfl⟩
 have sV : W3.heap.size + 2 = V.heap.size := by rw [← hV]; simp
 have bV : Below W3.heap.size W3 V := hV ▸ ((Below.refl _ _).alloc (Nat.le_refl _) _).alloc ahZ _
 have kg : V.heap[W3.heap.size]? = some (.cells #[.slice none 0 0, .slice none 0 0] 31) := by rw [← hV, heap_alloc_old _ _ ahZ]; exact heap_alloc_new _ _
 have kn : Im V (W3.heap.size + 1) (Cb []) := by
  rw [← hV, KL]
  have := Im.made (W3.alloc (.cells #[.slice none 0 0, .slice none 0 0] 31))
  rwa [World.size_alloc] at this
 have sW3 := hb3.size
 have Xy : V.heap[q]? = _ := (bV.block _ ahU).trans ((hb3.block _ ahU).trans Q2.out)
 have kR3 : V.heap[w.heap.size + 1]? = _ := (bV.block _ ahU).trans ((hb3.block _ ahU).trans KR2.out)
 have hFl := Qu.out.lt
 have VX : Im V fb (tK (au cd) D) := Qu.out.keep ((bV.block _ ahU).trans (hb3.block _ hFl))
 have hMl := Yu.lt
 have hM3 : Im V mb mg := Yu.keep (bV.block _ hMl)
 have YB : Below w.heap.size w V := B2.out.trans ((hb3.mono (by have := B2.out.size; omega)).trans (bV.mono (by have := B2.out.size; omega)))
 have u1 : V.cell? ⟨q, 1, none⟩ = some (.int .i64 e.st) := by simp [World.cell?, Xy]
 have KW3 := aiU Xy
 have KR3 := aiU kR3
 have U5 := aiU VX
 have ZJ := aiU hM3
 have B3 := aiU YB
 have Rt := aiU (show BM V V W3.heap.size (W3.heap.size + 1) (.slice none 0 0) (blk (au cd) e.st D 0) from ⟨by omega, by omega, by omega, rfl, rfl, rfl, Nat.le_refl _, fun _ _ _ _ => rfl, kg, kn, World.ownsRow_nil _ _ _ _⟩)
 have HMI := aiU hMI
 have v1' : W3.cell? ⟨q, 1, none⟩ = some (.int .i64 e.st) := by rw [hb3.cell (p := ⟨q, 1, none⟩) (by show q < _; omega)]; exact v1
 clear Xy kR3 VX hM3 YB kg kn bV Yu hMI hb3 v0 v1 v2 v3 JF Q2 KR2 Qu
 go_upto_region 13 with fail
 clear hV
 obtain ⟨gb, hgb⟩ : ∃ gb, W3.heap.size = gb := ⟨_, rfl⟩
 rw [hgb] at Rt sV sW3 ⊢
 obtain ⟨nb, hnb⟩ : ∃ nb, gb + 1 = nb := ⟨_, rfl⟩
 rw [hnb] at Rt ⊢
 have hfg : fb < gb := by omega
 have hmg : mb < gb := by omega
 obtain ⟨i1, hi1, hy0, hy1, hy2⟩ := info_parts Sz
 have XU : q < gb := by omega
 have hwg : w.heap.size + 1 < gb := by omega
 have Tr : e.st ∈ D := by rcases CO.out.s with h | h; exact h; cases h
 clear u1 v1' mk hk hbl hb2 sy sW s3 sW2 hfb hmb hFl hMl sW3 hgb hc1 hc2 he1 he2 h63 s0 s1 s2
 go_loopw [13, 14, 15] (fun a13 a14 a15 wr => ∃ (m : Nat) (bv : Value), a13 = .int .i64 (e.st + (m : Int)) ∧ e.st + (m : Int) ≤ e.en ∧ BM V wr gb nb bv (blk (au cd) e.st D m)) (fun a13 _ _ _ => (e.en - intOf a13).toNat)
 case atStart => exact ⟨0, _, by simp, by simp; omega, Rt.out⟩
 case round =>
  obtain ⟨m, bv, rfl, hme, hM⟩ := hrel
  have HM := aiU hM
  clear hM Rt
  have kq := (HM.out.blk q ahU ahU ahU).trans KW3.out
  have v2 : wr.cell? ⟨q, 2, none⟩ = some (.int .i64 e.en) := by simp [World.cell?, kq]
  have hF := HM.out.im U5.out ahU ahU
  have Tm := HM.out.im ZJ.out ahU ahU
  have hBI := mE (au cd) e.st D m
  have CR := aiU hBI
  have hbl := wK (au cd) e.st D m
  clear kq hBI
  by_cases hlt : e.st + (m : Int) < e.en
  ·-- agG
   have dl : decide (e.st + (m : Int) < e.en) = true := decide_eq_true hlt
   have wr1 : IntKind.i64.wrap (e.st + (m : Int) + 1) = e.st + (m : Int) + 1 := IntWalk.i64_in _ ahU
   have hm4 : m ≤ 4096 := by omega
   by_cases hD : e.st + (m : Int) ∈ D
   ·have l1 := hF.gB (P := Tryz.prog) (kt := 3) (t := 96) (e := 67) Tryz.underlying3 Tryz.underlying96 (k := e.st + (m : Int)) (v := (au cd (e.st + m)).val) (by unfold tK; rw [if_pos hD]) true
    obtain ⟨i, hi⟩ : ∃ i, au cd (e.st + m) = i := ⟨_, rfl⟩
    rw [hi] at l1
    simp only [↓reduceIte, Ins.val, kv] at l1
    obtain ⟨X1, LC⟩ : ∃ X1, wr.alloc (.cells #[.int .u8 i.op, .int .i64 i.a, .int .i64 i.b, .int .i64 i.c, .int .i64 i.aP] 67) = X1 := ⟨_, rfl⟩
    have b1 : Below wr.heap.size wr X1 := LC ▸ (Below.refl _ _).alloc (Nat.le_refl _) _
    have zA := aiU (HM.out.below b1)
    have hM1 : Im X1 mb mg := Tm.below b1 Tm.lt
    clear hi hF Tm
    by_cases hl : nB (au cd) e.st D (e.st + m) = true
    ·have l2 := hM1.gB (P := Tryz.prog) (kt := 3) (t := 99) (e := 4) Tryz.underlying3 Tryz.underlying99 (k := e.st + (m : Int)) (v := .bool true) (by
      rcases HMI.out.lead (e.st + m) with h | h
      ·exact h.2
      ·exact absurd ((gF _ _ _ _).1 hl) h.1) false
     simp only [Bool.false_eq_true, ↓reduceIte, kv] at l2
     have JM := aiU (show blk (au cd) e.st D (m + 1) = blk (au cd) e.st D m ++ [(e.st + m, e.st + m + 1)] by rw [blk, if_pos hD, if_pos hl])
     obtain ⟨L, hL⟩ : ∃ L, blk (au cd) e.st D m = L := ⟨_, rfl⟩
     rw [hL] at JM zA CR hbl HM
     have CQ := aiU (show ∀ p ∈ L, p.1 ≠ e.st + m from fun p hp => by have := CR.out.lo p hp; omega)
     clear hL hl hD HM hM1
     go_upto_region 18 with fail
     clear l1 l2 LC
     obtain ⟨bA, jd, rfl⟩ : ∃ bA jd, bv = .slice bA L.length jd := by
      rcases zA.out.row.2 with ⟨h, h'⟩ | ⟨g, cap', cur, h, _⟩
      ·exact ⟨_, _, by rw [h, h']⟩
      ·exact ⟨_, _, h⟩
     have t0 : X1.cell? ⟨gb, 0, none⟩ = some (.slice bA L.length jd) := by simp [World.cell?, zA.out.g]
     obtain ⟨X2, l3, m3, o1, o2, o3, o4, o5⟩ := zA.out.num.put (P := Tryz.prog) (kt := 3) (t := 101) (e := 3) Tryz.underlying3 Tryz.underlying101 (k := e.st + (m : Int)) (eX ahU ahU) (.int .i64 (L.length : Int))
     simp only [kv] at l3
     rw [Gv L (e.st + m) 0 CQ.out] at m3
     have RU := (zA.out.row).kept (iX o1 o2 o3 o4 o5) (.inr (fun e' => by have := zA.out.xK e'; have := zA.out.nV; omega))
     have J2 : gb ≠ nb := by omega
     have YG := (o5 gb J2).trans zA.out.g
     have t1 : X2.cell? ⟨gb, 0, none⟩ = some (.slice bA L.length jd) := by simp [World.cell?, YG]
     have t2 : X2.frozen? ⟨gb, 0, none⟩ = false := by simp [World.frozen?, YG]
     have wR := aiU RU
     have MA := aiU (And.intro m3 (And.intro o1 (And.intro o2 (And.intro o3 (And.intro o4 o5)))))
     have wY : gb < X2.heap.size := by have := zA.out.sz; omega
     have Aw : V.heap.size ≤ X2.heap.size := by have := zA.out.sz; omega
     have BC := aiU (show some gb ≠ Value.ownBlock (.slice bA L.length jd) from fun e' => by have := zA.out.xK e'.symm; omega)
     clear RU YG m3 o1 o2 o3 o4 o5 J2
     go_upto_region 20 with (at_builtin; refine wpList_append_own_at _ rfl (.tmp 79) (.tmp 82) 28 rfl V.heap.size 78 i1 _ 3 40 Tryz.underlying28 hi1 hy0 hy1 hy2 rfl ahW (.slice bA L.length jd) _ _ rfl (wR.out.alloc _) ⟨X2.heap.size, 0, none⟩ 1 1 [.int .i64 (e.st + m), .int .i64 0, .slice none 0 0] rfl rfl (A8 _ _ _ _ _) ahX ahY ahU ah6 ?_; intro v' W' hown' hgrow _ j6; obtain ⟨g', cap', rfl⟩ := ownsRow_succ hown'; have hc1 := hgrow.cell (a := ⟨gb, 0, none⟩) (v := .slice bA L.length jd) ah8 BC.out; have hf1 : W'.frozen? ⟨gb, 0, none⟩ = false := (World.frozen?_of_block (hgrow.block gb ah3 BC.out)).trans ah8)
     have Tn := zA.out.app (a := e.st + m) MA.out.1 MA.out.2.1 MA.out.2.2.1 MA.out.2.2.2.1 MA.out.2.2.2.2.1 MA.out.2.2.2.2.2 hgrow (by rw [j9]; exact hown')
     obtain ⟨X4, hX4⟩ : ∃ X4, W'.setCell ⟨gb, 0, none⟩ (.slice (some ⟨g', 0, none⟩) (L.length + 1) cap') = X4 := ⟨_, rfl⟩
     rw [hX4] at Tn ⊢
     have hrw := Tn.row
     rw [show (L ++ [(e.st + (m : Int), (0 : Int))]).length = L.length + 1 by simp] at hrw
     have t3 : X4.cell? ⟨gb, 0, none⟩ = some (.slice (some ⟨g', 0, none⟩) (L.length + 1) cap') := by simp [World.cell?, Tn.g]
     have t4 : X4.cell? ⟨g', L.length * 3 + 1, none⟩ = some (.int .i64 0) := by rw [hrw.cellAt _ ahU]; exact yF L _ _
     have t5 : X4.frozen? ⟨g', L.length * 3 + 1, none⟩ = false := hrw.frozenAt _
     have Te : L.length + 1 ≤ cap' := by
      rcases hrw.2 with ⟨h, _⟩ | ⟨_, _, _, h, _, _, h2, _⟩
      ·cases h
      ·cases h; exact h2
     have JB := aiU Tn
     clear hX4 Tn hrw hc1 hf1 j6 hgrow hown' t0 t1 t2 l3 MA wR BC wY Aw
     go_wp2_with fail
     go_roundw
     case rel =>
      refine ⟨m + 1, .slice (some ⟨g', 0, none⟩) (L.length + 1) cap', by rw [show ((m + 1 : Nat) : Int) = (m : Int) + 1 by omega, Int.add_assoc], by omega, ?_⟩
      rw [JM.out]
      exact JB.out.iQ
     case measure => simp [intOf]; omega
    ·have l2 := hM1.iw (P := Tryz.prog) (kt := 3) (t := 99) (e := 4) Tryz.underlying3 Tryz.underlying99 (EU X1) (k := e.st + (m : Int)) (eX ahU ahU) (by
      rcases HMI.out.lead (e.st + m) with h | h
      ·exact absurd ((gF _ _ _ _).2 h.1) hl
      ·exact h.2) false
     simp only [Bool.false_eq_true, ↓reduceIte, kv] at l2
     have hm0 : 0 < m := by
      rcases Nat.eq_zero_or_pos m with h | h
      ·subst h
       exact absurd (by simpa using Ag (au cd) e.st D) hl
      ·exact h
     obtain ⟨M, pa, pb, hL⟩ := oU _ (CR.out.ne Tr hm0)
     have JM := aiU (show blk (au cd) e.st D (m + 1) = M ++ [(pa, e.st + m + 1)] by rw [blk, if_pos hD, if_neg hl, hL, fN])
     rw [hL] at zA hbl
     clear hL hl hD HM hM1 CR
     have hrw := zA.out.row
     rw [show (M ++ [(pa, pb)]).length = M.length + 1 by simp] at hrw
     obtain ⟨g', cap', rfl⟩ := ownsRow_succ hrw
     have t3 : X1.cell? ⟨gb, 0, none⟩ = some (.slice (some ⟨g', 0, none⟩) (M.length + 1) cap') := by simp [World.cell?, zA.out.g]
     have t4 : X1.cell? ⟨g', M.length * 3 + 1, none⟩ = some (.int .i64 pb) := by rw [hrw.cellAt _ ahU]; exact yF M _ _
     have t5 : X1.frozen? ⟨g', M.length * 3 + 1, none⟩ = false := hrw.frozenAt _
     have Te : M.length + 1 ≤ cap' := by
      rcases hrw.2 with ⟨h, _⟩ | ⟨_, _, _, h, _, _, h2, _⟩
      ·cases h
      ·cases h; exact h2
     have aeR : M.length + 1 ≤ m := by simpa using hbl
     clear hrw hbl
     go_upto_region 20 with fail
     clear l1 l2 LC
     go_wp2_with fail
     go_roundw
     case rel =>
      refine ⟨m + 1, .slice (some ⟨g', 0, none⟩) (M.length + 1) cap', by rw [show ((m + 1 : Nat) : Int) = (m : Int) + 1 by omega, Int.add_assoc], by omega, ?_⟩
      rw [JM.out]
      exact zA.out.iQ
     case measure => simp [intOf]; omega
   ·have l1 := hF.iw (P := Tryz.prog) (kt := 3) (t := 96) (e := 67) Tryz.underlying3 Tryz.underlying96 (yj wr) (k := e.st + (m : Int)) (eX ahU ahU) (by unfold tK; rw [if_neg hD]) true
    simp only [↓reduceIte, kv] at l1
    have JM := aiU (show blk (au cd) e.st D (m + 1) = blk (au cd) e.st D m by rw [blk, if_neg hD])
    clear hD hF Tm
    go_wp2_with fail
    go_roundw
    case rel =>
     refine ⟨m + 1, bv, by rw [show ((m + 1 : Nat) : Int) = (m : Int) + 1 by omega, Int.add_assoc], by omega, ?_⟩
     rw [JM.out]
     exact HM.out.below ((Below.refl _ _).alloc (Nat.le_refl _) _)
    case measure => simp [intOf]; omega
  ·-- agF
   have dl : decide (e.st + (m : Int) < e.en) = false := decide_eq_false hlt
   have Rc := aiU (show m = (e.en - e.st).toNat by omega)
   have hm0 : 0 < m := by omega
   clear hF Tm
   obtain ⟨L, hL⟩ : ∃ L, blk (au cd) e.st D m = L := ⟨_, rfl⟩
   rw [hL] at HM hbl CR
   have JF := aiU hL
   have hn0 : 0 < L.length := List.length_pos_iff.2 (CR.out.ne Tr hm0)
   have hL4 : L.length ≤ 4096 := by omega
   obtain ⟨g, aY, rfl⟩ : ∃ g aY, bv = .slice (some ⟨g, 0, none⟩) L.length aY := by
    rcases HM.out.row.2 with ⟨h, h'⟩ | ⟨g, cap', cur, h, _⟩
    ·omega
    ·exact ⟨_, _, h⟩
   have t0 : wr.cell? ⟨gb, 0, none⟩ = some (.slice (some ⟨g, 0, none⟩) L.length aY) := by simp [World.cell?, HM.out.g]
   obtain ⟨i2, hi2, hs0, hs1, hs2⟩ := info_parts MU
   obtain ⟨U1, lm, dQ, gr1⟩ := run_make_full (P := Tryz.prog) wr V.heap.size 29 38 i2 (.slice none 0 0) 1 Tryz.underlying29 hi2 hs0 hs1 .i64 .i64 L.length aiH ahY HM.out.sz
   rw [Nat.mul_one, show (Value.slice none 0 0).cells = #[Value.slice none 0 0] from rfl, toList_madeCells_one] at dQ
   have gU : U1.heap[gb]? = _ := (gr1.block gb (by have := HM.out.sz; have := HM.out.gV; omega) ahZ).trans HM.out.g
   have u0 : U1.cell? ⟨gb, 0, none⟩ = some (.slice (some ⟨g, 0, none⟩) L.length aY) := by simp [World.cell?, gU]
   have u1 : U1.cell? ⟨gb, 1, none⟩ = some (.slice none 0 0) := by simp [World.cell?, gU]
   have u2 : U1.frozen? ⟨gb, 1, none⟩ = false := by simp [World.frozen?, gU]
   clear hL hlt hme hbl
   go_upto_region 23 with fail
   obtain ⟨pg, SL⟩ : ∃ pg, wr.heap.size = pg := ⟨_, rfl⟩
   rw [SL] at dQ ⊢
   obtain ⟨U2, yE⟩ : ∃ U2, U1.setCell ⟨gb, 1, none⟩ (.slice (some ⟨pg, 0, none⟩) L.length L.length) = U2 := ⟨_, rfl⟩
   have bN : BN V U2 gb nb g aY pg L (fun _ => .slice none 0 0) (dV (au cd) L 0 []) := by
    have hgr := HM.out.xK (j := g) rfl
    have VE := dQ.lt pg rfl
    have hz := HM.out.sz
    have Nc := HM.out.gV
    have Hx := HM.out.nV
    have gs := gr1.size
    have sm : ∀ k, k < V.heap.size → k ≠ gb → U2.heap[k]? = wr.heap[k]? := fun k h1 h2 => by
     rw [← yE, Below.heap_setCell _ _ _ _ h2]
     exact gr1.block k ahU ahZ
    refine ⟨Nc, Hx, HM.out.gn, ?_, ?_, ?_, ?_, fun k h1 h2 h3 => (sm k h1 h2).trans (HM.out.blk k h1 h2 h3), ?_, HM.out.num.keep (sm nb Hx (Ne.symm HM.out.gn)), ?_, ?_, fun i hi => ?_, fun i j hi hj _ q hq => by cases hq⟩
    ·rw [← yE]; exact gr1.os.trans HM.out.os
    ·rw [← yE]; exact gr1.tape.trans HM.out.tape
    ·rw [← yE]; exact gr1.output.trans HM.out.output
    ·rw [← yE]; simp; omega
    ·rw [← yE, heap_setCell_same U1 gb 1 _ _ _ gU]
     rfl
    ·rw [Ew, ← yE]
     exact ownsRow_setCell_other (HM.out.row.kept gr1 (.inr aiD)) aiu _
    ·rw [← yE]
     have e : ((List.range L.length).map fun i => (fun _ => Value.slice none 0 0) (L.length + i)) = List.replicate L.length (Value.slice none 0 0) := by
      apply List.ext_getElem?
      intro q
      by_cases hq : q < L.length
      ·simp [hq]
      ·simp [hq]
     rw [e]
     exact ownsRow_setCell_other dQ aiu _
    ·rw [Ad]
     exact World.ownsRow_nil _ _ _ _
   rw [yE]
   have Rq := aiU bN
   have HCL := aiU (show ∀ k, k < L.length → (gy L k ∈ D ∧ gy L k + 1 = (L.getD k (0, 0)).2) ∧ ∀ s ∈ bL (au cd (gy L k)) (gy L k), (∃ p ∈ L, p.1 = s) ∧ K8 s from fun k hk => by
    have hp : L[k] ∈ L := List.getElem_mem hk
    have e1 : L.getD k (0, 0) = L[k] := by simp [List.getD, List.getElem?_eq_getElem hk]
    have hla := CR.out.last _ hp
    have hlo := CR.out.lo _ hp
    unfold gy
    rw [e1]
    refine ⟨⟨hla, by omega⟩, fun s hs => ?_⟩
    have hnb : ¬ nN (au cd) e.st e.en (L[k].2 - 1) := by
     rcases CO.out.b with h | h
     ·exact h.2 _ hla
     ·have := (CO.out.dr _ h.1).range _ _ _ g2
      omega
    have hin : e.st ≤ s ∧ s < e.en := Classical.byContradiction fun h => hnb ⟨s, hs, h⟩
    have Lg : s ∈ D := by
     rcases CO.out.cl _ hla s hs hin.1 hin.2 with h | h
     ·exact h
     ·cases h
    refine ⟨?_, eX ahU ahU⟩
    have hmm := Rc.out
    refine CR.out.num s hin.1 ahU Lg ?_
    by_cases hbr : eD (au cd (L[k].2 - 1)).op = true
    ·rw [gF]
     refine .inr ⟨_, hla, ?_⟩
     unfold dw
     rw [if_pos hbr]
     exact hs
    ·have : s = L[k].2 := by
      unfold bL at hs
      unfold eD at hbr
      split at hs
      ·cases hs
      ·split at hs
       ·simp_all
       ·split at hs
        ·rename_i h; rcases h with h | h <;> simp [h] at hbr
        ·simp at hs; omega
     rw [this] at Lg hin ⊢
     exact CR.out.cl _ hp ahU Lg)
   clear yE gU u0 u1 u2 lm dQ gr1 bN HM CR t0 SL
   go_loopw [16, 17, 19, 20, 103] (fun a16 a17 a19 a20 P0 wr => ∃ (k : Nat) (val : Nat → Value), k ≤ L.length ∧ P0 = .int .i64 (k : Int) ∧ BN V wr gb nb g aY pg L val (dV (au cd) L k [])) (fun _ _ _ _ P0 _ => L.length - (intOf P0).toNat)
   case atStart => exact ⟨0, _, Nat.zero_le _, rfl, Rq.out⟩
   case round =>
    obtain ⟨k', val, hk', rfl, hN⟩ := hrel
    clear Rq
    have HN := aiU hN
    clear hN
    have t0 : wr.cell? ⟨gb, 0, none⟩ = some (.slice (some ⟨g, 0, none⟩) L.length aY) := by simp [World.cell?, HN.out.gg]
    have t1 : wr.cell? ⟨gb, 1, none⟩ = some (.slice (some ⟨pg, 0, none⟩) L.length L.length) := by simp [World.cell?, HN.out.gg]
    have hrg := HN.out.rg
    by_cases hlt : k' < L.length
    ·have dl : decide ((k' : Int) < (L.length : Int)) = true := by simpa using hlt
     obtain ⟨⟨VG, hlt2⟩, hsu⟩ := HCL.out k' hlt
     obtain ⟨p1, p2⟩ := HCD.out _ VG
     obtain ⟨la, hla⟩ : ∃ la, gy L k' = la := ⟨_, rfl⟩
     have mY := aiU (show dD (au cd) L k' = rQ L (bL (au cd la) la) by unfold dD; rw [hla])
     rw [hla] at VG hlt2 hsu p1 p2
     have bt : wr.cell? ⟨g, k' * 3 + 1, none⟩ = some (.int .i64 (la + 1)) := by rw [HN.out.qB.cellAt _ ahU, gQ L val hlt ahU, hlt2]; rfl
     have hF := HN.out.im U5.out ahU ahU
     obtain ⟨i, hi⟩ : ∃ i, au cd la = i := ⟨_, rfl⟩
     have l1 : ∀ y : Ext wr, (Instr.lookup 96 (.map (some fb)) (.int .i64 la) false).run Tryz.prog y.w = .ok (.agg #[.int .u8 i.op, .int .i64 i.a, .int .i64 i.b, .int .i64 i.c, .int .i64 i.aP]) y.w := fun y => by
      have := (hF.ext y).gB (P := Tryz.prog) (kt := 3) (t := 96) (e := 67) Tryz.underlying3 Tryz.underlying96 (k := la) (v := i.val) (by unfold tK; rw [if_pos VG, hi]) false
      simpa only [Bool.false_eq_true, ↓reduceIte, Ins.val, kv] using this
     rw [hi] at mY hsu p2
     have w1 : IntKind.i64.wrap (la + 1 - 1) = la := by rw [IntWalk.i64_in _ ahU]; omega
     have FA := aiU (fun W : World => iO i la W p1.1 p1.2 p2.1 p2.2)
     have HSU := aiU hsu
     clear hi VG hlt2 hla hF hsu p2
     obtain ⟨hrg1, hrg2, hrg3⟩ := hrg
     have sg : g < wr.heap.size := hrg1.2
     go_upto_region 26 with fail
     refine ju 12 14 _ _ rfl rfl rfl ahV ahV ?_
     simp only [Act.put, aiY, aiZ, ai0, ai1, List.take_zero, ai2, List.drop_zero, Nat.reduceSub]
     repeat (go_big_quiet_step (fail))
     refine wpQuiet_nil ?_
     rintro _ ⟨y, rfl⟩
     go_wp2_with (go_at_call 33; refine (FA.out _).mono ?_; rintro e' W4 ⟨⟨v, rfl, ⟨SA, jW, rfl, sc1, sc2, sc3⟩, sc4⟩, hb4⟩)
     refine NoPanic.normal ?_
     go_upto_region 27 with fail
     obtain ⟨S, hS⟩ : ∃ S, bL i la = S := ⟨_, rfl⟩
     have hS2 : S.length ≤ 2 := hS ▸ mj _ _
     rw [hS] at mY HSU sc1 sc3 sc4 ⊢
     have hy := y.h.size
     have HN4 := aiU ((HN.out.below y.h).below hb4)
     have I4 := aiU (show Ints W4 (.slice SA S.length jW) S from ⟨SA, jW, rfl, sc1, sc2, sc3⟩)
     have DJ := aiU (show ∀ q, (Value.slice SA S.length jW).ownBlock = some q → q ≠ g ∧ q ≠ pg ∧ ∀ i, i < 2 * L.length → (val i).ownBlock ≠ some q from fun q hq => by
      have h1 := sc4 q hq
      refine ⟨by omega, by omega, fun i hi h2 => ?_⟩
      have := ((HN.out.own i hi).lt q h2).2
      omega)
     clear hS sc1 sc2 sc3 sc4 hb4 hy y HN t0 t1 bt l1 w1 FA sg hrg1 hrg2 hrg3 p1
     obtain ⟨wo, rfl⟩ : ∃ wo : World, wo = wr := ⟨_, rfl⟩
     go_loopw [19, 20, 124] (fun a19 a20 a124 wr => ∃ (j : Nat) (val : Nat → Value), j ≤ S.length ∧ a124 = .int .i64 (j : Int) ∧ BN V wr gb nb g aY pg L val (dV (au cd) L k' (rQ L (S.take j))) ∧ Ints wr (.slice SA S.length jW) S ∧ ∀ q, (Value.slice SA S.length jW).ownBlock = some q → q ≠ g ∧ q ≠ pg ∧ ∀ i, i < 2 * L.length → (val i).ownBlock ≠ some q) (fun _ _ a124 _ => S.length - (intOf a124).toNat)
     case atStart => exact ⟨0, _, Nat.zero_le _, rfl, HN4.out, I4.out, DJ.out⟩
     case round =>
      clear HN4 I4 DJ val
      obtain ⟨j, val, hj, rfl, hN, hI, hD'⟩ := hrel
      have HN := aiU hN
      have HI := aiU hI
      have HD := aiU hD'
      clear hN hI hD'
      by_cases hjl : j < S.length
      ·obtain ⟨A', gj, hv, i1', i2', i3'⟩ := HI.out
       cases hv
       obtain ⟨sb, so, rfl, Em, hsc⟩ := i3' ahU
       obtain ⟨s, hs⟩ : ∃ s, S[j] = s := ⟨_, rfl⟩
       have x1 : wr.cell? ⟨sb, so + j, none⟩ = some (.int .i64 s) := by rw [hsc j hjl, ← hs]; simp [List.getD, List.getElem?_eq_getElem hjl]
       have Yt : S[j]? = some s := by rw [List.getElem?_eq_getElem hjl, hs]
       obtain ⟨SS, hkw⟩ := HSU.out s (List.mem_of_getElem? Yt)
       obtain ⟨n1, n2, n3⟩ := rT SS
       obtain ⟨p, hp⟩ : ∃ p, idx L s = p := ⟨_, rfl⟩
       have Wx := aiU (Gt L S j s Yt)
       rw [hp] at n1 n2 Wx
       have l2 := HN.out.num.gB (P := Tryz.prog) (kt := 3) (t := 101) (e := 3) Tryz.underlying3 Tryz.underlying101 (k := s) (v := .int .i64 (p : Int)) n1 false
       simp only [Bool.false_eq_true, ↓reduceIte, kv] at l2
       have dl2 : decide ((j : Int) < (S.length : Int)) = true := by simpa using hjl
       obtain ⟨l, hl⟩ : ∃ l, rQ L (S.take j) = l := ⟨_, rfl⟩
       have tV : l.length ≤ 2 := by
        have := Ca L (S.take j)
        rw [hl] at this
        simp at this
        omega
       rw [hl] at HN Wx
       have bn : wr.cell? ⟨g, k' * 3 + 2, none⟩ = some (val k') := by rw [HN.out.qB.cellAt _ ahU, gQ L val hlt ahU]; rfl
       have bf : wr.frozen? ⟨g, k' * 3 + 2, none⟩ = false := HN.out.qB.frozenAt _
       have hok := HN.out.own k' ahU
       rw [nw _ _ _ _ hlt] at hok
       have zE := aiU (tX (val k') l (p : Int) wr (eL hok))
       unfold maxLen at i2'
       obtain ⟨vA, dI, hval⟩ : ∃ vA dI, val k' = .slice vA l.length dI := by
        rcases hok.2 with ⟨h, h'⟩ | ⟨g, cap', cur, h, _⟩
        ·exact ⟨_, _, by rw [h, h']⟩
        ·exact ⟨_, _, h⟩
       have pQ := aiU hok
       have gI := aiU hval
       rw [hval] at bn zE
       clear hsc i3' hs SS n1 n3 hp hl hkw hok hval Yt
       by_cases hin : (p : Int) ∈ l
       ·have HAD := aiU (show mM l (p : Int) = l by unfold mM; rw [if_pos hin])
        rw [decide_eq_true hin] at zE
        clear hin
        go_wp2_with (go_at_call 34; refine zE.out.mono ?_; rintro e' w' ⟨rfl, rfl⟩)
        go_roundw
        case rel =>
         refine ⟨j + 1, val, by omega, by go_num, ?_, HI.out, HD.out⟩
         rw [Wx.out, HAD.out]
         exact HN.out
        case measure => simp [intOf]; omega
       ·have HAD := aiU (show mM l (p : Int) = l ++ [(p : Int)] by unfold mM; rw [if_neg hin])
        have uj := aiU hin
        rw [decide_eq_false hin] at zE
        clear hin
        obtain ⟨iI, p9, qd, oy, ox⟩ := info_parts ow
        have hsz := HN.out.rg
        have ZB := aiU (show some g ≠ Value.ownBlock (.slice vA l.length dI) from fun e' => by
         rw [← gI.out] at e'
         exact cV pQ.out HN.out.qB ahW g e'.symm rfl)
        have hg0 : g < wr.heap.size := hsz.1.2
        have hOA : wr.ownsRow V.heap.size 3 1 (.slice vA l.length dI) l.length (dU l) := by rw [← gI.out]; exact pQ.out
        have HOA := aiU hOA
        have hVw := HN.out.sz
        clear hOA hsz
        go_upto_region 32 with (first | (go_at_call 34; refine zE.out.mono ?_; rintro e' w' ⟨rfl, rfl⟩) | (at_builtin; refine wpList_append_own_at _ rfl (.tmp 142) (.tmp 144) 38 rfl V.heap.size 3 iI (.int .i64 0) 1 8 Tryz.underlying38 p9 qd oy ox rfl ahW (.slice vA l.length dI) _ _ rfl (HOA.out.alloc _) ⟨wr.heap.size, 0, none⟩ 1 1 [.int .i64 (p : Int)] rfl rfl (cell_one_new _ _ _) ahX ahY ahU ah6 ?_; intro v' W' hown' hgrow _ j6; obtain ⟨g', cap', rfl⟩ := ownsRow_succ hown'; have hc1 := hgrow.cell (a := ⟨g, k' * 3 + 2, none⟩) (v := .slice vA l.length dI) ah8 ZB.out; have hf1 : W'.frozen? ⟨g, k' * 3 + 2, none⟩ = false := (World.frozen?_of_block (hgrow.block g ah3 ZB.out)).trans ah8))
        have Ax := HN.out.app (x := 0) (i := k') (y := (p : Int)) ahU ((Below.refl wr.heap.size wr).alloc (Nat.le_refl _) (.cells #[.int .i64 (p : Int)] 3)) (by rw [gI.out]; exact hgrow) (by rw [nw _ _ _ _ hlt]; simpa [dU] using hown') (by rw [gI.out]; exact j6) g (k' * 3 + 2) (.inl ⟨hlt, rfl, rfl⟩)
        rw [nw _ _ _ _ hlt] at Ax
        have Yv := ((HI.out.below ((Below.refl wr.heap.size wr).alloc (Nat.le_refl _) (.cells #[.int .i64 (p : Int)] 3))).grown hgrow (fun q hq hq2 => (HD.out q hq).2.2 k' ahU (by rw [gI.out]; exact hq2))).grown (aQ W' g (k' * 3 + 2) (.slice (some ⟨g', 0, none⟩) (l.length + 1) cap')) (fun q hq hq2 => (HD.out q hq).1 (by simpa using hq2.symm))
        have Yw : ∀ q, (Value.slice (some ⟨sb, so, none⟩) S.length jW).ownBlock = some q → q ≠ g ∧ q ≠ pg ∧ ∀ i, i < 2 * L.length → (upd val k' (.slice (some ⟨g', 0, none⟩) (l.length + 1) cap') i).ownBlock ≠ some q := fun q hq => by
         obtain ⟨d1, d2, d3⟩ := HD.out q hq
         refine ⟨d1, d2, fun i hi => ?_⟩
         unfold upd
         split
         ·rcases j6 with h | h
          ·rw [h, ← gI.out]; exact d3 k' ahU
          ·rw [h, World.size_alloc]
           intro e'
           simp [Value.ownBlock] at hq e'
           omega
         ·exact d3 i hi
        obtain ⟨X, hX⟩ : ∃ X, W'.setCell ⟨g, k' * 3 + 2, none⟩ (.slice (some ⟨g', 0, none⟩) (l.length + 1) cap') = X := ⟨_, rfl⟩
        rw [hX] at Ax Yv ⊢
        obtain ⟨lJ, MW⟩ : ∃ lJ, upd val k' (.slice (some ⟨g', 0, none⟩) (l.length + 1) cap') = lJ := ⟨_, rfl⟩
        rw [MW] at Ax Yw
        have hop := Ax.own (L.length + p) ahU
        have hpl : upd (dV (au cd) L k' l) k' (l ++ [(p : Int)]) (L.length + p) = dV (au cd) L k' l (L.length + p) := by unfold upd; rw [if_neg ahU]
        rw [hpl] at hop
        have Kj := aiU (D7 (au cd) L k' p l hlt n2 uj.out)
        have xe := aiU hpl
        obtain ⟨pl, OV⟩ : ∃ pl, dV (au cd) L k' l (L.length + p) = pl := ⟨_, rfl⟩
        have XX : pl.length ≤ 5000 := by
         rw [← OV]
         unfold dV
         rw [if_neg ahU]
         have h1 := zY (au cd) L k' (L.length + p - L.length)
         have h2 : (if ((L.length + p - L.length : Nat) : Int) ∈ l then [(k' : Int)] else []).length ≤ 1 := by split <;> simp
         rw [List.length_append]
         omega
        rw [OV] at hop Kj xe
        obtain ⟨pA, aX, hvp⟩ : ∃ pA aX, lJ (L.length + p) = .slice pA pl.length aX := by
         rcases hop.2 with ⟨h, h'⟩ | ⟨g, cap', cur, h, _⟩
         ·exact ⟨_, _, by rw [h, h']⟩
         ·exact ⟨_, _, h⟩
        have NQ := aiU hvp
        have q0 : X.cell? ⟨gb, 1, none⟩ = some (.slice (some ⟨pg, 0, none⟩) L.length L.length) := by simp [World.cell?, Ax.gg]
        have q1 : X.cell? ⟨pg, p, none⟩ = some (.slice pA pl.length aX) := by rw [Ax.cH.cellAt _ ahU, List.getElem?_map, List.getElem?_range n2, ← hvp]; rfl
        have q2 : X.frozen? ⟨pg, p, none⟩ = false := Ax.cH.frozenAt _
        have Q9 := aiU (show some pg ≠ Value.ownBlock (.slice pA pl.length aX) from fun e' => by
         rw [← hvp] at e'
         exact cV hop Ax.cH ahW pg e'.symm rfl)
        have UK := aiU (show some gb ≠ Value.ownBlock (.slice pA pl.length aX) from fun e' => by
         rw [← hvp] at e'
         have := (hop.lt gb e'.symm).1
         have := Ax.gV
         omega)
        rw [hvp] at hop
        have wS := aiU hop
        have lH := aiU Ax
        have UT := aiU Yv
        have WN := aiU Yw
        have XY : pg < X.heap.size := Ax.rg.2.1.2
        have aeL : gb < X.heap.size := by have := Ax.sz; have := Ax.gV; omega
        have QU := Ax.sz
        clear hX Ax Yv Yw hop hvp MW hpl OV hc1 hf1 j6 hgrow hown' HN HI HD zE pQ gI HOA ZB hg0 hVw bn bf l2 x1 Em
        have zH := aiU (show ∀ (W2 : World) (v2 : Value), ((X.alloc (.cells #[.int .i64 (k' : Int)] 3)).drew).grownBy W2 (Value.slice pA pl.length aX).ownBlock → W2.ownsRow V.heap.size 3 1 v2 (pl.length + 1) (dU pl ++ [.int .i64 (k' : Int)]) → (v2.ownBlock = (Value.slice pA pl.length aX).ownBlock ∨ v2.ownBlock = some ((X.alloc (.cells #[.int .i64 (k' : Int)] 3)).drew).heap.size) →
          ∃ Ks, BN V (W2.setCell ⟨pg, p, none⟩ v2) gb nb g aY pg L Ks (dV (au cd) L k' (l ++ [(p : Int)])) ∧ Ints (W2.setCell ⟨pg, p, none⟩ v2) (.slice (some ⟨sb, so, none⟩) S.length jW) S ∧ ∀ q, (Value.slice (some ⟨sb, so, none⟩) S.length jW).ownBlock = some q → q ≠ g ∧ q ≠ pg ∧ ∀ i, i < 2 * L.length → (Ks i).ownBlock ≠ some q from fun W2 v2 hg2 ho2 hb2 => by
         have bD : Below X.heap.size X ((X.alloc (.cells #[.int .i64 (k' : Int)] 3)).drew) := Below.drew ((Below.refl _ _).alloc (Nat.le_refl _) _)
         have h3 := lH.out.app (x := 0) (i := L.length + p) (y := (k' : Int)) ahU bD (by rw [NQ.out]; exact hg2) (by rw [xe.out]; simpa [dU] using ho2) (by rw [NQ.out]; exact hb2) pg p (.inr ⟨by omega, rfl, by omega⟩)
         rw [xe.out] at h3
         refine ⟨_, by rw [Kj.out]; exact h3, ((UT.out.below bD).grown hg2 (fun q hq hq2 => (WN.out q hq).2.2 (L.length + p) ahU (by rw [NQ.out]; exact hq2))).grown (aQ W2 pg p v2) (fun q hq hq2 => (WN.out q hq).2.1 (by simpa using hq2.symm)), fun q hq => ?_⟩
         obtain ⟨d1, d2, d3⟩ := WN.out q hq
         refine ⟨d1, d2, fun i hi => ?_⟩
         unfold upd
         split
         ·rcases hb2 with h | h
          ·rw [h, ← NQ.out]; exact d3 _ ahU
          ·rw [h]
           intro e'
           have hlt3 : q < X.heap.size := by
            obtain ⟨A5, afv, hv5, _, _, h5⟩ := UT.out
            cases hv5
            obtain ⟨b5, o5, Ia, Hy, _⟩ := h5 ahU
            cases Ia
            simp [Value.ownBlock] at hq
            omega
           have e2 : (X.alloc (.cells #[.int .i64 (k' : Int)] 3)).drew.heap.size = X.heap.size + 1 := by show (X.alloc _).heap.size = _; simp
           rw [e2] at e'
           cases e'
           omega
         ·exact d3 i hi)
        clear UT WN lH Kj xe NQ
        refine wp_region_noPanic ?_
        go_region_law (refine bK rfl (.tmp 155) (.tmp 157) 38 rfl V.heap.size 3 iI (.int .i64 0) 1 8 Tryz.underlying38 p9 qd oy ox rfl ahW (.slice pA pl.length aX) pl.length (dU pl) aiq (World.ownsRow.alloc (World.ownsRow.drew wS.out) _) ⟨X.heap.size, 0, none⟩ 1 1 [.int .i64 (k' : Int)] aiq rfl (cell_one_new _ _ _) ahX ahY ahU (by show V.heap.size ≤ (World.alloc _ _).heap.size; rw [World.size_alloc]; omega) ?_; intro v' W2 hown2 hgrow2 yD; obtain ⟨g2, gj, rfl⟩ := ownsRow_succ hown2; have hc1 := hgrow2.cell (a := ⟨pg, p, none⟩) (v := .slice pA pl.length aX) ah8 Q9.out; have hc2 := hgrow2.cell (a := ⟨gb, 1, none⟩) (v := .slice (some ⟨pg, 0, none⟩) L.length L.length) ah8 UK.out; have hf1 : W2.frozen? ⟨pg, p, none⟩ = false := (World.frozen?_of_block (hgrow2.block pg ah3 Q9.out)).trans ah8)
        all_goals
         obtain ⟨Ks, f1, f2, f3⟩ := zH.out W2 _ hgrow2 hown2 yD
         have F1 := aiU f1
         have F2 := aiU f2
         have F3 := aiU f3
         clear f1 f2 f3 hgrow2 hown2 yD hc1 hc2 hf1
         refine NoPanic.normal ?_
         go_wp2_with fail
         go_roundw
         case rel =>
          refine ⟨j + 1, Ks, by omega, by go_num, ?_, F2.out, F3.out⟩
          rw [Wx.out, HAD.out]
          exact F1.out
         case measure => simp [intOf]; omega
      ·obtain rfl : j = S.length := by omega
       have dl2 : decide ((S.length : Int) < (S.length : Int)) = false := by simp
       rw [List.take_length] at HN
       go_wp2_with fail
       go_roundw
       case rel =>
        refine ⟨k' + 1, val, by omega, by go_num, ?_⟩
        rw [← Ae, mY.out]
        exact HN.out
       case measure => simp [intOf]; omega
    ·obtain rfl : k' = L.length := by omega
     have dl : decide ((L.length : Int) < (L.length : Int)) = false := by simp
     have YB := B3.out.size
     have sR : w.heap.size + 1 < V.heap.size := wj KR3.out
     have rq : w.heap.size + 1 ≠ gb := by omega
     have kR := (HN.out.blk (w.heap.size + 1) sR rq ahU).trans KR3.out
     have r0 : wr.cell? ⟨w.heap.size + 1, 0, none⟩ = some (.slice none 0 0) := by simp [World.cell?, kR]
     have r1 : wr.cell? ⟨w.heap.size + 1, 1, none⟩ = some (.slice none 0 0) := by simp [World.cell?, kR]
     have f0 : wr.frozen? ⟨w.heap.size + 1, 0, none⟩ = false := by simp [World.frozen?, kR]
     have f1 : wr.frozen? ⟨w.heap.size + 1, 1, none⟩ = false := by simp [World.frozen?, kR]
     go_wp2_with fail
     have G1 : wr.grownBy ((wr.setCell ⟨w.heap.size + 1, 0, none⟩ (.slice (some ⟨g, 0, none⟩) L.length aY)).setCell ⟨w.heap.size + 1, 1, none⟩ (.slice (some ⟨pg, 0, none⟩) L.length L.length)) (some (w.heap.size + 1)) := by
      refine ⟨rfl, rfl, rfl, by simp, fun j _ hne => ?_⟩
      have : j ≠ w.heap.size + 1 := fun e => hne (by rw [e])
      rw [Below.heap_setCell _ _ _ _ this, Below.heap_setCell _ _ _ _ this]
     have hgr := HN.out.graph G1 sR
     have HNW := aiU (show P8 w.heap.size (.slice (some ⟨g, 0, none⟩) L.length aY) (.slice (some ⟨pg, 0, none⟩) L.length L.length) from by
      have h1 := HN.out.rg
      have h2 := B3.out.size
      refine ⟨fun q hq => ?_, fun q hq => ?_⟩
      ·have e : g = q := by simpa [Value.ownBlock] using hq
       omega
      ·have e : pg = q := by simpa [Value.ownBlock] using hq
       omega)
     have zm : Below w.heap.size w ((wr.setCell ⟨w.heap.size + 1, 0, none⟩ (.slice (some ⟨g, 0, none⟩) L.length aY)).setCell ⟨w.heap.size + 1, 1, none⟩ (.slice (some ⟨pg, 0, none⟩) L.length L.length)) := by
      refine Below.setCell (Below.setCell ⟨HN.out.os.trans B3.out.os, HN.out.tape.trans B3.out.tape, HN.out.output.trans B3.out.output, Nat.le_trans B3.out.size HN.out.sz, fun j hj => ?_⟩ ?_ _) ?_ _
      ·exact (HN.out.blk j ahU ahU ahU).trans (B3.out.block j hj)
      ·simp
      ·simp
     refine bodyPost_ret (v := .tuple #[.agg #[.slice (some ⟨g, 0, none⟩) L.length aY, .slice (some ⟨pg, 0, none⟩) L.length L.length], .int .i64 (-1), .int .i64 0]) aim rfl (.inr (.inr (.inr ⟨Rh.out, k, e, D, L, _, _, rfl, he, CO.out, ?_, rfl, hgr.1, hgr.2, zm, HNW.out⟩)))
     rw [← Rc.out]; exact JF.out
end
section
open Go.RowKit
open Go.RowKit
open Go.RowKit
open Go.ChangeShapes Go.WideShapes Go.ChangeAt Go.RowKit
open Go.ChangeShapes Go.WideShapes Go.ChangeAt Go.RowKit
open Go.RowKit
open Go.RowKit
open Go.RowKit
open Go.ChangeShapes Go.WideShapes Go.ChangeAt Go.RowKit
open Go.RowKit
open Go.RowKit
open Go.RowKit
open Go.RowKit
open Go.RowKit
open Go.RowKit
open Go.RowKit
structure NL (n : Nat) (e : Int) (x : aU) : Prop where
 lo : e ≤ x.lo
 hi : x.lo < x.hi
 two : x.nx.length ≤ 2
 nx : ∀ t ∈ x.nx, 0 ≤ t ∧ t < n
 ne : ¬ (x.nx.length = 2 ∧ x.nx.getD 0 0 = x.nx.getD 1 0)
def lS (n : Nat) : Int → List aU → Int → Prop
 | a, [], z => a = z
 | a, x :: xs, z => NL n a x ∧ lS n x.hi xs z
theorem lS.append {n : Nat} {l2 : List aU} : ∀ {l1 : List aU} {a z : Int}, lS n a (l1 ++ l2) z ↔ ∃ m, lS n a l1 m ∧ lS n m l2 z
 | [], a, z => ⟨fun h => ⟨a, rfl, h⟩, fun ⟨m, h1, h2⟩ => by cases h1; exact h2⟩
 | e :: l1, a, z => by
  constructor
  ·rintro ⟨h1, h3⟩
   obtain ⟨m, h4, h5⟩ := lS.append.1 h3
   exact ⟨m, ⟨h1, h4⟩, h5⟩
  ·rintro ⟨m, ⟨h1, h3⟩, h4⟩
   exact ⟨h1, lS.append.2 ⟨m, h3, h4⟩⟩
theorem lS.LQ {n : Nat} : ∀ {l : List aU} {a z z' : Int}, lS n a l z → lS n a l z' → z = z'
 | [], a, z, z', h, h' => by cases h; exact h'
 | e :: l, a, z, z', h, h' => lS.LQ h.2 h'.2
theorem lS.snoc {n : Nat} {l : List aU} {x : aU} {a m : Int} (h : lS n a l m) (h1 : NL n m x) : lS n a (l ++ [x]) x.hi := lS.append.2 ⟨m, h, h1, rfl⟩
theorem lS.no {n : Nat} {G : List aU} {k : Nat} {x : aU} {m : Int} (hx : G[k]? = some x) (h : lS n 0 (G.take k) m) (hno : ¬ NL n m x) : ∀ z, ¬ lS n 0 G z := by
 intro z hz
 have hk : k < G.length := (List.getElem?_eq_some_iff.1 hx).1
 have e1 : G = G.take k ++ (x :: G.drop (k + 1)) := by
  have := List.take_append_drop k G
  rw [List.drop_eq_getElem_cons hk] at this
  have e2 : G[k] = x := by rw [List.getElem?_eq_getElem hk] at hx; exact Option.some.inj hx
  rw [e2] at this
  exact this.symm
 rw [e1] at hz
 obtain ⟨m', h1, h2⟩ := lS.append.1 hz
 have := lS.LQ h h1
 subst this
 exact hno h2.1
structure bQ (G : List aU) (P : List (List Int)) : Prop where
 ne : G ≠ []
 len : P.length = G.length
 ok : ∃ z, lS G.length 0 G z
 prev : (List.range G.length).map (gw G G.length []) = P
theorem fL.slice {w : World} {v : Value} {G : List aU} (h : fL w v G) : ∃ A cap, v = .slice A G.length cap ∧ G.length ≤ cap ∧ cap ≤ 2 ^ 63 - 1 := by
 obtain ⟨A, cap, h1, h2, h3, _⟩ := h
 unfold maxLen at h3
 exact ⟨A, cap, h1, h2, h3⟩
theorem fL.at_ {w wr : World} {A : Option Addr} {cap : Nat} {G : List aU} (h : fL w (.slice A G.length cap) G) (hb : Below w.heap.size w wr) {j : Nat} (hj : j < G.length) :
  ∃ x nv b off, G[j]? = some x ∧ A = some ⟨b, off, none⟩ ∧ b < w.heap.size ∧ wr.cell? ⟨b, off + j * 3, none⟩ = some (.int .i64 x.lo) ∧ wr.cell? ⟨b, off + j * 3 + 1, none⟩ = some (.int .i64 x.hi) ∧ wr.cell? ⟨b, off + j * 3 + 2, none⟩ = some nv ∧ Ints w nv x.nx := by
 obtain ⟨A', cap', hv, _, _, h4⟩ := h
 cases hv
 obtain ⟨b, off, rfl, hlt, hc⟩ := h4 ahU
 obtain ⟨c0, c1, nv, c2, c3⟩ := hc j _ (List.getElem?_eq_getElem hj)
 exact ⟨G[j], nv, b, off, List.getElem?_eq_getElem hj, rfl, hlt, (hb.cell (p := ⟨b, _, none⟩) hlt).trans c0, (hb.cell (p := ⟨b, _, none⟩) hlt).trans c1, (hb.cell (p := ⟨b, _, none⟩) hlt).trans c2, c3⟩
theorem Ints.slice {w : World} {v : Value} {l : List Int} (h : Ints w v l) : ∃ A cap, v = .slice A l.length cap ∧ l.length ≤ cap ∧ cap ≤ 2 ^ 63 - 1 := by
 obtain ⟨A, cap, h1, h2, h3, _⟩ := h
 unfold maxLen at h3
 exact ⟨A, cap, h1, h2, h3⟩
theorem Ints.at_ {w wr : World} {A : Option Addr} {cap : Nat} {l : List Int} (h : Ints w (.slice A l.length cap) l) (hb : Below w.heap.size w wr) {j : Nat} (hj : j < l.length) :
  ∃ s b off, l[j]? = some s ∧ A = some ⟨b, off, none⟩ ∧ b < w.heap.size ∧ wr.cell? ⟨b, off + j, none⟩ = some (.int .i64 s) := by
 obtain ⟨A', cap', hv, _, _, h4⟩ := h
 cases hv
 obtain ⟨b, off, rfl, hlt, hc⟩ := h4 ahU
 refine ⟨l[j], b, off, List.getElem?_eq_getElem hj, rfl, hlt, ?_⟩
 rw [hb.cell (p := ⟨b, _, none⟩) hlt, hc j hj]
 simp [List.getD, List.getElem?_eq_getElem hj]
theorem dZ {w : World} {q B s n : Nat} {cs : Array Value} {t e : TypeId} {fr : Nat × Nat} {v : Value} {xs : List Value} (hq : w.heap[q]? = some (.cells cs t fr)) (h : w.ownsRow B e s v n xs) (hne : t ≠ e) : some q ≠ v.ownBlock := by
 intro e1
 rcases h.2 with ⟨rfl, _⟩ | ⟨g, cap, cur, rfl, _, hg, _⟩
 ·cases e1
 ·simp [Value.ownBlock] at e1
  subst e1
  rw [hq] at hg
  cases hg
  exact hne rfl
theorem jU (bv pv : Value) (G : List aU) (P : List (List Int)) (w : World) (HG : fL w bv G) (HP : mG w pv P) (hn : G.length ≤ 5000) (fc : ∀ x ∈ G, x.nx.length ≤ 5000) :
  Calls Tryz.prog 35 #[.agg #[bv, pv]] w fun e w' => (∃ r : Bool, e = .returned (.bool r) ∧ (r = true ↔ bQ G P)) ∧ Below w.heap.size w w' := by
 obtain ⟨A, cap, rfl, hc1, hc2⟩ := HG.slice
 obtain ⟨PA, aX, rfl, hp1, hp2⟩ := HP.slice
 have JI := aiU HG
 have Qg := aiU HP
 have mY := aiU fc
 clear HG HP fc
 obtain ⟨V0, gC⟩ : ∃ V0, w.alloc (.cells #[.slice A G.length cap, .slice PA P.length aX] 31) = V0 := ⟨_, rfl⟩
 have b0 : Below w.heap.size w V0 := gC ▸ (Below.refl _ _).alloc (Nat.le_refl _) _
 have s0 : w.heap.size < V0.heap.size := by rw [← gC]; simp
 have k0 : V0.heap[w.heap.size]? = some (.cells #[.slice A G.length cap, .slice PA P.length aX] 31) := by rw [← gC]; exact heap_alloc_new _ _
 have y0 : V0.cell? ⟨w.heap.size, 0, none⟩ = some (.slice A G.length cap) := by simp [World.cell?, k0]
 have y1 : V0.cell? ⟨w.heap.size, 1, none⟩ = some (.slice PA P.length aX) := by simp [World.cell?, k0]
 have K0 := aiU k0
 have B0 := aiU b0
 clear k0 b0
 go_enter Tryz.func35, Tryz.ntmps35
 by_cases q1 : G.length = 0
 ·have d1 : ((G.length : Int) == 0) = true := by simp [q1]
  have HQ := aiU q1
  clear q1
  go_wp2_with fail
  go_ret
  exact ⟨⟨false, rfl, by simp; intro h; exact h.ne (List.length_eq_zero_iff.1 HQ.out)⟩, B0.out⟩
 have d1 : ((G.length : Int) == 0) = false := beq_eq_false_iff_ne.2 ahU
 by_cases q2 : P.length = G.length
 case neg =>
  have d2 : ((P.length : Int) != (G.length : Int)) = true := by simp; omega
  have HQ := aiU q2
  clear q2
  go_wp2_with fail
  go_ret
  exact ⟨⟨false, rfl, by simp; intro h; exact HQ.out h.len⟩, B0.out⟩
 have d2 : ((P.length : Int) != (G.length : Int)) = false := by simp; omega
 have HQ1 := aiU q1
 have HQ2 := aiU q2
 have hn0 : 0 < G.length := by omega
 clear q1 q2
 obtain ⟨i2, hi2, hs0, hs1, hs2⟩ := info_parts MU
 obtain ⟨U1, lm, dQ, gr1⟩ := run_make_full (P := Tryz.prog) V0 V0.heap.size 29 38 i2 (.slice none 0 0) 1 Tryz.underlying29 hi2 hs0 hs1 .i64 .i64 G.length aiH ahY (Nat.le_refl _)
 rw [Nat.mul_one, show (Value.slice none 0 0).cells = #[Value.slice none 0 0] from rfl, toList_madeCells_one] at dQ
 have UC := aiU (PM.made gr1 (Below.refl _ _) dQ)
 have u0 : U1.cell? ⟨w.heap.size, 0, none⟩ = some (.slice A G.length cap) := by rw [UC.out.aD.cell (p := ⟨w.heap.size, 0, none⟩) s0]; exact y0
 clear dQ gr1
 go_upto_region 6 with fail
 obtain ⟨pg, SL⟩ : ∃ pg, V0.heap.size = pg := ⟨_, rfl⟩
 rw [SL] at UC ⊢
 clear gC lm u0 d1 d2 SL
 rw [← zW G] at UC
 go_loopw [4, 5, 6, 8, 29] (fun a4 a5 a6 a8 a29 wr => ∃ (k : Nat) (e : Int) (val : Nat → Value), k ≤ G.length ∧ a29 = .int .i64 (k : Int) ∧ a4 = .int .i64 e ∧ lS G.length 0 (G.take k) e ∧ PM V0 wr pg G.length val (gw G k [])) (fun _ _ _ _ a29 _ => G.length - (intOf a29).toNat)
 case atStart => exact ⟨0, 0, _, Nat.zero_le _, rfl, rfl, rfl, UC.out⟩
 case round =>
  obtain ⟨k, e, val, hk, rfl, rfl, hok, H9⟩ := hrel
  clear UC
  have pQ := aiU hok
  have HM := aiU H9
  have BW := aiU (B0.out.trans (H9.aD.mono ahU))
  have sB := H9.aD.size
  clear hok H9
  by_cases hlt : k < G.length
  ·obtain ⟨x, nv, b, off, hx, rfl, hbl, c0, c1, c2, hI⟩ := JI.out.at_ BW.out hlt
   obtain ⟨NA, di, rfl, hn1, hn2⟩ := hI.slice
   have HI := aiU hI
   have HX := aiU hx
   have Wh := aiU (List.mem_of_getElem? hx)
   have hxl := mY.out x Wh.out
   have mZ := aiU (show ¬ NL G.length e x → ∀ z, ¬ lS G.length 0 G z from fun h => lS.no hx pQ.out h)
   have dl : decide ((k : Int) < (G.length : Int)) = true := by simpa using hlt
   clear hx hI
   by_cases q3 : e ≤ x.lo
   case neg =>
    have d3 : decide (x.lo < e) = true := by simp; omega
    have HQ := aiU (mZ.out (fun h => q3 h.lo))
    clear q3
    go_wp2_with fail
    go_ret
    exact ⟨⟨false, rfl, by simp; intro h; obtain ⟨z, hz⟩ := h.ok; exact HQ.out z hz⟩, BW.out.alloc ahU _⟩
   have d3 : decide (x.lo < e) = false := by simp; omega
   by_cases q4 : x.lo < x.hi
   case neg =>
    have d4 : decide (x.hi ≤ x.lo) = true := by simp; omega
    have HQ := aiU (mZ.out (fun h => q4 h.hi))
    clear q4 q3
    go_wp2_with fail
    go_ret
    exact ⟨⟨false, rfl, by simp; intro h; obtain ⟨z, hz⟩ := h.ok; exact HQ.out z hz⟩, BW.out.alloc ahU _⟩
   have d4 : decide (x.hi ≤ x.lo) = false := by simp; omega
   by_cases q5 : x.nx.length ≤ 2
   case neg =>
    have d5 : decide ((2 : Int) < (x.nx.length : Int)) = true := by simp; omega
    have HQ := aiU (mZ.out (fun h => q5 h.two))
    clear q5 q4 q3
    go_wp2_with fail
    go_ret
    exact ⟨⟨false, rfl, by simp; intro h; obtain ⟨z, hz⟩ := h.ok; exact HQ.out z hz⟩, BW.out.alloc ahU _⟩
   have d5 : decide ((2 : Int) < (x.nx.length : Int)) = false := by simp; omega
   go_upto_region 12 with fail
   obtain ⟨X, hX⟩ : ∃ X, wr.alloc (.cells #[.int .i64 x.lo, .int .i64 x.hi, .slice NA x.nx.length di] 78) = X := ⟨_, rfl⟩
   have kX : X.heap[wr.heap.size]? = some (.cells #[.int .i64 x.lo, .int .i64 x.hi, .slice NA x.nx.length di] 78) := hX ▸ heap_alloc_new _ _
   have HMX := aiU (hX ▸ HM.out.below ((Below.refl _ _).alloc (Nat.le_refl _) _))
   have sX : wr.heap.size < X.heap.size := by rw [← hX]; simp
   rw [hX]
   obtain ⟨q, hq⟩ : ∃ q, wr.heap.size = q := ⟨_, rfl⟩
   rw [hq] at kX sX ⊢
   have KX := aiU kX
   have vr := aiU (And.intro q3 (And.intro q4 q5))
   clear kX hX c0 c1 c2 d3 d4 d5 dl q3 q4 HM BW hq
   obtain ⟨iI, p9, qd, oy, ox⟩ := info_parts ow
   obtain ⟨wo, rfl⟩ : ∃ wo : World, wo = wr := ⟨_, rfl⟩
   go_loopw [8, 56] (fun a8 a56 wr => ∃ (j : Nat) (val : Nat → Value), j ≤ x.nx.length ∧ a56 = .int .i64 (j : Int) ∧ (∀ t ∈ x.nx.take j, 0 ≤ t ∧ t < (G.length : Int)) ∧ wr.heap[q]? = some (.cells #[.int .i64 x.lo, .int .i64 x.hi, .slice NA x.nx.length di] 78) ∧ PM V0 wr pg G.length val (gw G k (x.nx.take j))) (fun _ a56 _ => x.nx.length - (intOf a56).toNat)
   case atStart => exact ⟨0, val, Nat.zero_le _, rfl, by simp, KX.out, HMX.out⟩
   case round =>
    clear HMX KX val
    obtain ⟨j, val, hj, rfl, hin, Lt, H9⟩ := hrel
    have uj := aiU hin
    have lH := aiU Lt
    have HM := aiU H9
    have BW := aiU (B0.out.trans (H9.aD.mono ahU))
    have sB2 := H9.aD.size
    have hrg := H9.rg
    have z0 : wr.cell? ⟨w.heap.size, 0, none⟩ = some (.slice (some ⟨b, off, none⟩) G.length cap) := by rw [H9.aD.cell (p := ⟨w.heap.size, 0, none⟩) s0]; exact y0
    have v2 : wr.cell? ⟨q, 2, none⟩ = some (.slice NA x.nx.length di) := by simp [World.cell?, Lt]
    clear hin Lt H9
    by_cases hjl : j < x.nx.length
    ·obtain ⟨s, nb, ie, hs, rfl, hnb, x1⟩ := HI.out.at_ BW.out hjl
     have HS := aiU (bT hs)
     have Wq := aiU (List.mem_of_getElem? hs)
     have dl : decide ((j : Int) < (x.nx.length : Int)) = true := by simpa using hjl
     clear hs
     by_cases q6 : 0 ≤ s
     case neg =>
      have d6 : decide (s < 0) = true := decide_eq_true ahU
      have HQ := aiU (mZ.out (fun h => q6 (h.nx s Wq.out).1))
      clear q6
      go_wp2_with fail
      go_ret
      exact ⟨⟨false, rfl, by simp; intro h; obtain ⟨z, hz⟩ := h.ok; exact HQ.out z hz⟩, BW.out⟩
     have d6 : decide (s < 0) = false := decide_eq_false ahU
     by_cases q7 : s < (G.length : Int)
     case neg =>
      have d7 : decide ((G.length : Int) ≤ s) = true := decide_eq_true ahU
      have HQ := aiU (mZ.out (fun h => q7 (h.nx s Wq.out).2))
      clear q7 q6
      go_wp2_with fail
      go_ret
      exact ⟨⟨false, rfl, by simp; intro h; obtain ⟨z, hz⟩ := h.ok; exact HQ.out z hz⟩, BW.out⟩
     have d7 : decide ((G.length : Int) ≤ s) = false := decide_eq_false ahU
     obtain ⟨p, rfl⟩ : ∃ p : Nat, s = (p : Int) := ⟨s.toNat, by omega⟩
     have hp : p < G.length := by omega
     obtain ⟨t1, t2⟩ := HM.out.cells hp
     have hop := HM.out.own p hp
     obtain ⟨pl, hpl⟩ : ∃ pl, gw G k (x.nx.take j) p = pl := ⟨_, rfl⟩
     have XX : pl.length ≤ 30000000 := by
      rw [← hpl]
      have := Dw G mY.out k ahU (x.nx.take j) p
      have h2 : (x.nx.take j).length ≤ 2 := by simp; omega
      omega
     rw [hpl] at hop
     obtain ⟨pA, jH, hvp⟩ : ∃ pA jH, val p = .slice pA pl.length jH := by
      rcases hop.2 with ⟨h, h'⟩ | ⟨g, cap', cur, h, _⟩
      ·exact ⟨_, _, by rw [h, h']⟩
      ·exact ⟨_, _, h⟩
     have NQ := aiU hvp
     have xe := aiU hpl
     have Q9 := aiU (show some pg ≠ Value.ownBlock (.slice pA pl.length jH) from fun e' => by
      rw [← hvp] at e'
      exact cV hop HM.out.cH ahW pg e'.symm rfl)
     have HNq := aiU (show some q ≠ Value.ownBlock (.slice pA pl.length jH) from fun e' => dZ lH.out hop ahW (by rw [hvp]; exact e'))
     have hqp : q ≠ pg := fun e' => dZ lH.out HM.out.cH ahW (by rw [e']; rfl)
     rw [hvp] at hop t1
     have wS := aiU hop
     have hq3 : q < wr.heap.size := (Array.getElem?_eq_some_iff.1 lH.out).1
     have XY := hrg.2
     clear hop hvp hpl q6 q7
     go_upto_region 17 with (at_builtin; refine wpList_append_own_at _ rfl (.tmp 74) (.tmp 76) 38 rfl V0.heap.size 3 iI (.int .i64 0) 1 8 Tryz.underlying38 p9 qd oy ox rfl ahW (.slice pA pl.length jH) _ _ rfl (wS.out.alloc _) ⟨wr.heap.size, 0, none⟩ 1 1 [.int .i64 (k : Int)] rfl rfl (cell_one_new _ _ _) ahX ahY ahU ah6 ?_; intro v' W' hown' hgrow _ j6; obtain ⟨g', cap', rfl⟩ := ownsRow_succ hown'; have hc1 := hgrow.cell (a := ⟨pg, p, none⟩) (v := .slice pA pl.length jH) ah8 Q9.out; have hf1 : W'.frozen? ⟨pg, p, none⟩ = false := (World.frozen?_of_block (hgrow.block pg ah3 Q9.out)).trans ah8)
     have hB := HM.out.app (y := (k : Int)) hp ((Below.refl wr.heap.size wr).alloc (Nat.le_refl _) (.cells #[.int .i64 (k : Int)] 3)) (by rw [NQ.out]; exact hgrow) (by rw [xe.out]; simpa [dU] using hown') (by rw [NQ.out]; exact j6)
     rw [xe.out] at hB
     have hBq : (W'.setCell ⟨pg, p, none⟩ (.slice (some ⟨g', 0, none⟩) (pl.length + 1) cap')).heap[q]? = some (.cells #[.int .i64 x.lo, .int .i64 x.hi, .slice (some ⟨nb, ie, none⟩) x.nx.length di] 78) := by
      rw [Below.heap_setCell _ _ _ _ hqp, hgrow.block q ah6 HNq.out, heap_alloc_old _ _ hq3]
      exact lH.out
     have HB := aiU hB
     have HBQ := aiU hBq
     clear hB hBq hc1 hf1 j6 hgrow hown' t1 t2 wS Q9 HNq
     go_wp2_with fail
     go_roundw
     case rel =>
      refine ⟨j + 1, upd val p (.slice (some ⟨g', 0, none⟩) (pl.length + 1) cap'), by omega, by go_num, fun t ht => ?_, HBQ.out, ?_⟩
      ·rw [HS.out] at ht
       rcases List.mem_append.1 ht with h | h
       ·exact uj.out t h
       ·simp at h; omega
      ·rw [HS.out, Dx, xe.out]
       exact HB.out
     case measure => simp [intOf]; omega
    ·obtain rfl : j = x.nx.length := by omega
     have dl : decide ((x.nx.length : Int) < (x.nx.length : Int)) = false := by simp
     rw [List.take_length] at uj HM
     have hq3 : q < wr.heap.size := (Array.getElem?_eq_some_iff.1 lH.out).1
     by_cases q8 : x.nx.length = 2
     ·obtain ⟨Vu, nb, ie, hs, rfl, hnb, x1⟩ := HI.out.at_ BW.out (j := 0) ahU
      obtain ⟨s1', nb', aaz, hs', hA, aeC, x2⟩ := HI.out.at_ BW.out (j := 1) ahU
      cases hA
      have hBs := BW.out.size
      have X6 : nb < wr.heap.size := by omega
      have d8 : ((x.nx.length : Int) == 2) = true := by simp; omega
      have e0 : x.nx.getD 0 0 = Vu := by simp [List.getD, hs]
      have e1 : x.nx.getD 1 0 = s1' := by simp [List.getD, hs']
      have i0 : (0 : Int) < (x.nx.length : Int) := by omega
      have i1 : (1 : Int) < (x.nx.length : Int) := by omega
      rw [Nat.add_zero] at x1
      by_cases q9 : Vu = s1'
      ·have d9 : (Vu == s1') = true := by simp [q9]
       have HQ := aiU (mZ.out (fun h => h.ne ⟨q8, by rw [e0, e1, q9]⟩))
       clear q9 e0 e1 q8 hs hs' q5
       go_upto_region 18 with fail
       refine aj ahV ahV ?_
       repeat (go_big_quiet_step (fail))
       refine wpQuiet_nil ?_
       rintro _ ⟨y, rfl⟩
       go_wp2_with fail
       go_ret
       exact ⟨⟨false, rfl, by simp; intro h; obtain ⟨z, hz⟩ := h.ok; exact HQ.out z hz⟩, Ext.below BW.out BW.out.size y⟩
      ·have d9 : (Vu == s1') = false := by simp [q9]
       have Qh := aiU (show NL G.length e x from ⟨vr.out.1, vr.out.2.1, vr.out.2.2, uj.out, fun h => q9 (by rw [← e0, ← e1]; exact h.2)⟩)
       clear q9 e0 e1 q8 hs hs' q5
       go_upto_region 18 with fail
       refine aj ahV ahV ?_
       repeat (go_big_quiet_step (fail))
       refine wpQuiet_nil ?_
       rintro _ ⟨y, rfl⟩
       go_wp2_with fail
       go_roundw
       case rel => exact ⟨k + 1, x.hi, val, by omega, by go_num, rfl, by rw [bT HX.out]; exact pQ.out.snoc Qh.out, by rw [← rL G k x HX.out]; exact HM.out.below y.h⟩
       case measure => simp [intOf]; omega
     ·have d8 : ((x.nx.length : Int) == 2) = false := beq_eq_false_iff_ne.2 ahU
      have Qh := aiU (show NL G.length e x from ⟨vr.out.1, vr.out.2.1, vr.out.2.2, uj.out, fun h => q8 h.1⟩)
      clear q8 q5
      go_upto_region 18 with fail
      refine aj ahV ahV ?_
      repeat (go_big_quiet_step (fail))
      refine wpQuiet_nil ?_
      rintro _ ⟨y, rfl⟩
      go_wp2_with fail
      go_roundw
      case rel => exact ⟨k + 1, x.hi, val, by omega, by go_num, rfl, by rw [bT HX.out]; exact pQ.out.snoc Qh.out, by rw [← rL G k x HX.out]; exact HM.out.below y.h⟩
      case measure => simp [intOf]; omega
  ·obtain rfl : k = G.length := by omega
   have dl : decide ((G.length : Int) < (G.length : Int)) = false := by simp
   rw [List.take_length] at pQ
   have z1 : wr.cell? ⟨w.heap.size, 1, none⟩ = some (.slice PA P.length aX) := by rw [HM.out.aD.cell (p := ⟨w.heap.size, 1, none⟩) s0]; exact y1
   have HEF := aiU (tY _ _ _ P wr HM.out.lls (Qg.out.below BW.out))
   go_wp2_with (go_at_call 64; refine HEF.out.mono ?_; rintro e w' ⟨rfl, hb5⟩)
   go_ret
   refine ⟨⟨_, rfl, ?_⟩, BW.out.trans (hb5.mono (by have := BW.out.size; omega))⟩
   rw [decide_eq_true_eq]
   constructor
   ·intro h
    exact ⟨fun e => HQ1.out ain, HQ2.out, ⟨_, pQ.out⟩, h⟩
   ·intro h
    exact h.prev
structure Uh (w : World) (v : Value) (l : List Ins) : Prop where
 at_ : ∃ A cap, v = .slice A l.length cap ∧ l.length ≤ cap ∧ cap ≤ maxLen ∧ (0 < l.length → ∃ b off, A = some ⟨b, off, none⟩ ∧ b < w.heap.size ∧ ∀ i x, l[i]? = some x →
  w.cell? ⟨b, off + i * 5, none⟩ = some (.int .u8 x.op) ∧ w.cell? ⟨b, off + i * 5 + 1, none⟩ = some (.int .i64 x.a) ∧ w.cell? ⟨b, off + i * 5 + 2, none⟩ = some (.int .i64 x.b) ∧ w.cell? ⟨b, off + i * 5 + 3, none⟩ = some (.int .i64 x.c) ∧ w.cell? ⟨b, off + i * 5 + 4, none⟩ = some (.int .i64 x.aP))
theorem Sy : (Tryz.prog.info? 70).map (fun i => (i.zero, i.size, i.bytes)) = some (some (.int .u32 0), 1, 4) := by kernel_rfl
abbrev MH (l : List Int) : List Value := l.map (Value.int .u32)
structure IG (V wr : World) (ib : Nat) (cv ev : Value) (ws : List Int) : Prop where
 ib1 : ib < V.heap.size
 os : wr.os = V.os
 tape : wr.tape = V.tape
 output : wr.output = V.output
 sz : V.heap.size ≤ wr.heap.size
 blk : ∀ k, k < V.heap.size → k ≠ ib → wr.heap[k]? = V.heap[k]?
 im : wr.heap[ib]? = some (.cells #[cv, ev, .int .i64 0, .int .i64 0] 25 (0, 0))
 row : wr.ownsRow V.heap.size 70 1 cv ws.length (MH ws)
theorem IG.below {V wr wr' : World} {ib : Nat} {cv ev : Value} {ws : List Int} (h : IG V wr ib cv ev ws) (hb : Below wr.heap.size wr wr') : IG V wr' ib cv ev ws :=
 ⟨h.ib1, hb.os.trans h.os, hb.tape.trans h.tape, hb.output.trans h.output, Nat.le_trans h.sz hb.size, fun k h1 h2 => (hb.block k (by have := h.sz; omega)).trans (h.blk k h1 h2), (hb.block _ (by have := h.sz; have := h.ib1; omega)).trans h.im, ak h.row hb⟩
theorem IG.base {V wr w : World} {ib : Nat} {cv ev : Value} {ws : List Int} (h : IG V wr ib cv ev ws) (hb : Below w.heap.size w V) (hi : w.heap.size ≤ ib) : Below w.heap.size w wr :=
 ⟨h.os.trans hb.os, h.tape.trans hb.tape, h.output.trans hb.output, Nat.le_trans hb.size h.sz, fun k hk => (h.blk k (by have := hb.size; omega) ahU).trans (hb.block k hk)⟩
theorem IG.app {V wr w2 W' : World} {ib : Nat} {cv ev v' : Value} {ws : List Int} {x : Int} (h : IG V wr ib cv ev ws) (hb : Below wr.heap.size wr w2) (hg : w2.grownBy W' cv.ownBlock) (hown : W'.ownsRow V.heap.size 70 1 v' (ws.length + 1) (MH (ws ++ [x]))) : IG V (W'.setCell ⟨ib, 0, none⟩ v') ib v' ev (ws ++ [x]) := by
 have G := grown_of hb hg
 have i1 := h.ib1
 have hsz := h.sz
 have wY := G.size
 have rl : ∀ q, cv.ownBlock = some q → V.heap.size ≤ q := fun q hq => (h.row.lt q hq).1
 have sm : ∀ k, k < V.heap.size → W'.heap[k]? = wr.heap[k]? := fun k hk => G.block k ahU (fun e => by have := rl k e.symm; omega)
 refine ⟨i1, G.os.trans h.os, G.tape.trans h.tape, G.output.trans h.output, by simp; omega, fun k h1 h2 => ?_, ?_, ?_⟩
 ·rw [Below.heap_setCell _ _ _ _ h2]; exact (sm k h1).trans (h.blk k h1 h2)
 ·rw [heap_setCell_same W' ib 0 _ _ v' ((sm ib i1).trans h.im)]; rfl
 ·rw [show (ws ++ [x]).length = ws.length + 1 by simp]
  exact ownsRow_setCell_other hown (fun e => by have := (hown.lt ib e).1; omega) _
theorem DC {w : World} {B : Nat} {v : Value} {ws : List Int} (h : w.ownsRow B 70 1 v ws.length (MH ws)) (hl : ws.length ≤ 1000000) (hw : ∀ x ∈ ws, 0 ≤ x ∧ x < 4294967296) : Words w v ws.length (fun i => ws.getD i 0) := by
 refine ⟨hl, fun i hi => ?_, ?_⟩
 ·have : ws.getD i 0 = ws[i] := by simp [List.getD, List.getElem?_eq_getElem hi]
  rw [this]
  exact hw _ (List.getElem_mem hi)
 ·rcases h.2 with ⟨rfl, h0⟩ | ⟨g, cap, cur, rfl, _, hg, h1, h2, _, _⟩
  ·rw [h0]
   exact ⟨none, 0, rfl, Nat.le_refl _, by unfold maxLen; omega, fun h => by omega⟩
  ·refine ⟨_, cap, rfl, h1, h2, fun _ => ⟨g, 0, rfl, (Array.getElem?_eq_some_iff.1 hg).1, fun i hi => ?_⟩⟩
   rw [Nat.zero_add, h.cellAt i ahU]
   simp [MH, List.getD, List.getElem?_eq_getElem hi]
theorem Ec (c : Int → Ins) (st : Int) {D D' : List Int} (h : ∀ x, x ∈ D ↔ x ∈ D') (x : Int) : nB c st D x = nB c st D' x := by
 have : nB c st D x = true ↔ nB c st D' x = true := by
  rw [gF, gF]
  unfold tE
  constructor
  ·rintro (e | ⟨a, ha, hm⟩)
   ·exact .inl e
   ·exact .inr ⟨a, (h a).1 ha, hm⟩
  ·rintro (e | ⟨a, ha, hm⟩)
   ·exact .inl e
   ·exact .inr ⟨a, (h a).2 ha, hm⟩
 cases h1 : nB c st D x <;> cases h2 : nB c st D' x <;> simp_all
theorem pK (c : Int → Ins) (st : Int) {D D' : List Int} (h : ∀ x, x ∈ D ↔ x ∈ D') : ∀ m, blk c st D m = blk c st D' m
 | 0 => rfl
 | m + 1 => by
  unfold blk
  rw [pK c st h m, Ec c st h]
  simp only [h]
theorem yG {α : Type} {f : α → List Value} (hf : ∀ x, (f x).length = 6) : ∀ (L : List α) (k j : Nat) (x : α), L[k]? = some x → j < 6 → (L.flatMap f)[k * 6 + j]? = (f x)[j]?
 | y :: L, 0, j, x, h, hj => by
  simp at h; subst h
  rw [List.flatMap_cons, Nat.zero_mul, Nat.zero_add, List.getElem?_append_left (by rw [hf]; exact hj)]
 | y :: L, k + 1, j, x, h, hj => by
  have h' : L[k]? = some x := by simpa using h
  rw [List.flatMap_cons, List.getElem?_append_right (by rw [hf]; omega), hf, show (k + 1) * 6 + j - 6 = k * 6 + j by omega]
  exact yG hf L k j x h' hj
theorem xB {W : World} (h : laidMet Tryz.prog [("ontime/isa.formats", Rows.laid_ontime_isa_formats)] W) : gZ W := by
 have hv := ue h
 have hg : Tryz.prog.globalNamed "ontime/isa.formats" = some 0 := by kernel_rfl
 have hc : ∀ k, W.cell? ⟨0, k, none⟩ = gG.toArray[k]? := fun k => World.var?_cell hg hv k
 refine ⟨?_, fun k hk j v hv2 => ?_⟩
 ·have h0 : W.cell? ⟨0, 0, none⟩ = some (.string ⟨#[110, 111, 112]⟩) := by rw [hc 0]; kernel_rfl
  exact mW h0
 ·rw [hc]
  have hj : j < 6 := by
   have := (List.getElem?_eq_some_iff.1 hv2).1
   simpa [Fm.cells] using this
  have hf : LH[k]? = some (fm k) := by
   unfold fm
   have : k < LH.length := hk
   simp [List.getD, List.getElem?_eq_getElem this]
  have := yG (f := Fm.cells) (fun x => rfl) LH k j (fm k) hf hj
  simp only [List.getElem?_toArray]
  unfold gG
  rw [this]
  exact hv2
noncomputable def oZ (os : Os) : World :=
 { World.holding Tryz.prog os ⟨#[], #[], []⟩ with heap := (World.holding Tryz.prog os ⟨#[], #[], []⟩).heap.modify 0 fun
   | .cells _ t frozen => .cells gG.toArray t frozen
   | o => o }
theorem mR (os : Os) (args : Array Value) : ((oZ os).forCall (fun _ _ => 0) ⟨#[], args, []⟩).memory.heap[0]? = some (.cells gG.toArray 132 (0, 0)) := by kernel_rfl
theorem G2 (os : Os) (args : Array Value) : laidMet Tryz.prog [("ontime/isa.formats", Rows.laid_ontime_isa_formats)] ((oZ os).forCall (fun _ _ => 0) ⟨#[], args, []⟩).memory := by
 refine ⟨_, ⟨0, 132, gG.toArray, 8, [], [], by kernel_rfl, by kernel_rfl, by kernel_rfl, by kernel_rfl, rfl, rfl⟩, by decide +kernel, fun b off h => ?_⟩
 have hb : b = 0 := by
  have h' : MemPlace.cell b off ∈ (List.range 180).map (fun i => MemPlace.cell 0 (0 + i)) := by
   have e : (MemPlace.row ⟨0, 0, none⟩ gG.toArray.size ++ [] ++ [] : List MemPlace) = (List.range 180).map (fun i => MemPlace.cell 0 (0 + i)) := by decide +kernel
   rw [e] at h
   exact h
  obtain ⟨i, _, e⟩ := List.mem_map.1 h'
  cases e
  rfl
 subst hb
 refine ⟨⟨gG.toArray, 132, mR os args⟩, fun u v hc => ?_⟩
 simp only [World.cell?, mR os args] at hc
 exfalso
 have hm : Value.iface u v ∈ gG := List.mem_of_getElem? (by simpa using hc)
 unfold gG at hm
 obtain ⟨f, _, hf⟩ := List.mem_flatMap.1 hm
 simp [Fm.cells] at hf
theorem vN {α : Type} {P : Nat → α → Prop} (len : Nat) (h : ∀ i, i < len → ∃ x, P i x) : ∃ l : List α, l.length = len ∧ ∀ i x, l[i]? = some x → P i x := by
 induction len with
 | zero => exact ⟨[], rfl, fun i x hx => by simp at hx⟩
 | succ n ih =>
  obtain ⟨l, h1, h2⟩ := ih (fun i hi => h i ahU)
  obtain ⟨x, hx⟩ := h n ahU
  refine ⟨l ++ [x], by simp [h1], fun i y hy => ?_⟩
  by_cases hi : i < l.length
  ·rw [List.getElem?_append_left hi] at hy
   exact h2 i y hy
  ·rw [List.getElem?_append_right ahU] at hy
   have : i - l.length = 0 := by
    rcases Nat.eq_zero_or_pos (i - l.length) with e | e
    ·exact e
    ·rw [List.getElem?_eq_none ah3] at hy; cases hy
   rw [this] at hy
   simp at hy
   subst hy
   rw [show i = n by omega]
   exact hx
section
variable {H : Type} {enc : TypeId × Value → H} {P : Program} {w : World} {base : Nat} {spare : Nat → Bool} {held : Bool}
theorem mQ {t e : TypeId} {fuel : Nat} {cs0 : List Value} {y0 : DataW H × List MemPlace} (ht : P.underlying t = some (.slice e)) (c : Nat) (hC : P.cellsOf e = c) (hc : 0 < c)
  (hf : DataW.trod enc P w base spare held fuel t cs0 = some y0) :
  ∃ v len, cs0 = [v] ∧ kE w w.heap.size v len c (fun i cs => ∃ n y, DataW.trod enc P w base spare held n e cs = some y) := by
 rcases Go.Deep.open_slice ht hf with ⟨hcs, _⟩ | ⟨a, len, cap, m, n, D, Pl, hcs, _, hl, hm, hmm, _, hi⟩
 ·exact ⟨.slice none 0 0, 0, hcs, none, 0, rfl, Nat.le_refl _, by unfold maxLen; omega, fun h => absurd h ahU⟩
 ·refine ⟨.slice (some a) len cap, len, hcs, _, cap, rfl, hl, hm, fun h0 => ?_⟩
  have hlm : len ≤ m := by rw [hmm]; split <;> omega
  have cell : ∀ i, i < len → ∃ cs, (∃ n y, DataW.trod enc P w base spare held n e cs = some y) ∧ cs.length = c ∧ ∀ j, j < c → w.cell? ((a.add (i * c)).add j) = cs[j]? := by
   intro i hi'
   obtain ⟨cs, hcs, htr⟩ := hi i ahU
   rw [hC] at hcs
   obtain ⟨_, hl', hat⟩ := World.cells?_some hcs
   exact ⟨cs, ⟨n, _, htr⟩, hl', hat⟩
  have hspot : a.spot = none ∧ a.block < w.heap.size := by
   obtain ⟨cs, _, hl', hat⟩ := cell 0 h0
   have h1 := hat 0 hc
   rw [List.getElem?_eq_getElem ahU] at h1
   have e0 : ((a.add (0 * c)).add 0) = a := by simp [Addr.add]
   rw [e0] at h1
   exact ⟨World.cell?_spot h1, mW h1⟩
  obtain ⟨b, off, spot⟩ := a
  simp only at hspot
  obtain ⟨rfl, hb⟩ := hspot
  refine ⟨b, off, rfl, hb, fun i hi' => ?_⟩
  obtain ⟨cs, r, hl', hat⟩ := cell i hi'
  refine ⟨cs, r, hl', fun j hj => ?_⟩
  rw [← hat j hj]
  congr 1
  unfold Addr.add
  split <;> split <;> simp <;> omega
end
section
variable {H : Type} {enc : TypeId × Value → H} {w : World} {base : Nat} {spare : Nat → Bool} {held : Bool}
theorem yO : Tryz.prog.cellsOf 3 = 1 := by kernel_rfl
end
def inB (pc : Int) (x : aU) : Prop := x.lo ≤ pc ∧ pc < x.hi
instance (pc : Int) (x : aU) : Decidable (inB pc x) := by unfold inB; infer_instance
def jb (G : List aU) (k : Nat) (l : List Int) : List (Int × Int) := ((List.range k).flatMap fun b => ((G.getD b ⟨0, 0, []⟩).nx).map fun t => ((b : Int), t)) ++ l.map fun t => ((k : Int), t)
theorem LN (G : List aU) (k : Nat) (l : List Int) (t : Int) : jb G k (l ++ [t]) = jb G k l ++ [((k : Int), t)] := by simp [jb]
theorem Iy {G : List aU} {k : Nat} {x : aU} (hx : G[k]? = some x) : jb G k x.nx = jb G (k + 1) [] := by
 unfold jb
 have e : G.getD k ⟨0, 0, []⟩ = x := by simp [List.getD, hx]
 rw [List.range_succ, List.flatMap_append]
 simp only [List.flatMap_cons, List.flatMap_nil, List.append_nil, List.map_nil, e]
theorem Cp (G : List aU) (hn : ∀ x ∈ G, x.nx.length ≤ 5000) (k : Nat) (hk : k ≤ G.length) (l : List Int) : (jb G k l).length ≤ 5000 * k + l.length := by
 have c2 : ∀ k, k ≤ G.length → ((List.range k).flatMap fun b => ((G.getD b ⟨0, 0, []⟩).nx).map fun t => ((b : Int), t)).length ≤ 5000 * k := by
  intro k
  induction k with
  | zero => simp
  | succ k ih =>
   intro hk
   have := ih ahU
   rw [List.range_succ, List.flatMap_append, List.length_append]
   have h2 : (G.getD k ⟨0, 0, []⟩).nx.length ≤ 5000 := by
    have hk' : k < G.length := by omega
    rw [show G.getD k ⟨0, 0, []⟩ = G[k] by simp [List.getD, List.getElem?_eq_getElem hk']]
    exact hn _ (List.getElem_mem hk')
   simp only [List.flatMap_cons, List.flatMap_nil, List.append_nil, List.length_map]
   omega
 have := c2 k hk
 unfold jb
 rw [List.length_append, List.length_map]
 omega
def xQ (L : List (Int × Int)) : List Value := L.flatMap fun p => [.int .i64 p.1, .int .i64 p.2]
theorem rK (L : List (Int × Int)) (a b : Int) : xQ (L ++ [(a, b)]) = xQ L ++ [.int .i64 a, .int .i64 b] := by simp [xQ]
theorem zV : ∀ (L : List (Int × Int)) (i j : Nat) (p : Int × Int), L[i]? = some p → j < 2 → (xQ L)[i * 2 + j]? = [Value.int .i64 p.1, .int .i64 p.2][j]?
 | y :: L, 0, j, p, h, hj => by
  simp at h; subst h
  have e : xQ (y :: L) = [.int .i64 y.1, .int .i64 y.2] ++ xQ L := by simp [xQ]
  rw [e, Nat.zero_mul, Nat.zero_add, List.getElem?_append_left (by simpa using hj)]
 | y :: L, i + 1, j, p, h, hj => by
  have h' : L[i]? = some p := by simpa using h
  have e : xQ (y :: L) = [.int .i64 y.1, .int .i64 y.2] ++ xQ L := by simp [xQ]
  rw [e, List.getElem?_append_right ah3, show (i + 1) * 2 + j - [Value.int .i64 y.1, .int .i64 y.2].length = i * 2 + j by simp; omega]
  exact zV L i j p h' hj
def P7 (w : World) (v : Value) (L : List (Int × Int)) : Prop :=
 ∃ A cap, v = .slice A L.length cap ∧ L.length ≤ cap ∧ cap ≤ 2 ^ 63 - 1 ∧ (0 < L.length → ∃ b off, A = some ⟨b, off, none⟩ ∧ b < w.heap.size ∧ ∀ i p, L[i]? = some p → w.cell? ⟨b, off + i * 2, none⟩ = some (.int .i64 p.1) ∧ w.cell? ⟨b, off + i * 2 + 1, none⟩ = some (.int .i64 p.2))
theorem P7.below {w w' : World} {v : Value} {L : List (Int × Int)} (h : P7 w v L) (hb : Below w.heap.size w w') : P7 w' v L := by
 obtain ⟨A, cap, h1, h2, h3, h4⟩ := h
 refine ⟨A, cap, h1, h2, h3, fun h0 => ?_⟩
 obtain ⟨b, off, ha, hlt, hc⟩ := h4 h0
 refine ⟨b, off, ha, by have := hb.size; omega, fun i p hp => ?_⟩
 obtain ⟨c0, c1⟩ := hc i p hp
 exact ⟨(hb.cell (p := ⟨b, _, none⟩) hlt).trans c0, (hb.cell (p := ⟨b, _, none⟩) hlt).trans c1⟩
theorem B9 {w : World} {B : Nat} {e : TypeId} {v : Value} {L : List (Int × Int)} (h : w.ownsRow B e 2 v L.length (xQ L)) : P7 w v L := by
 rcases h.2 with ⟨rfl, h0⟩ | ⟨g, cap', cur, rfl, h1, h2, h3, h4, _, _⟩
 ·exact ⟨none, 0, by rw [h0], by omega, by omega, fun h => by omega⟩
 ·unfold maxLen at h4
  refine ⟨_, cap', rfl, h3, h4, fun _ => ⟨g, 0, rfl, (Array.getElem?_eq_some_iff.1 h2).1, fun i p hp => ?_⟩⟩
  have hi := (List.getElem?_eq_some_iff.1 hp).1
  refine ⟨?_, ?_⟩
  ·rw [Nat.zero_add, h.cellAt _ ahU, show i * 2 = i * 2 + 0 from rfl, zV L i 0 p hp ahU]; rfl
  ·rw [Nat.zero_add, h.cellAt _ ahU, zV L i 1 p hp ahU]; rfl
theorem nK (w : World) (a b : Value) (t : TypeId) : ∀ j u, [a, b][j]? = some u → (w.alloc (.cells #[a, b] t)).cell? ((⟨w.heap.size, 0, none⟩ : Addr).add j) = some u := by
 intro j u h
 have e : (⟨w.heap.size, 0, none⟩ : Addr).add j = ⟨w.heap.size, j, none⟩ := by cases j <;> simp [Addr.add]
 rw [e]
 unfold World.cell?
 rw [heap_alloc_new]
 simpa using h
theorem infoP : (Tryz.prog.info? 109).map (fun i => (i.zero, i.size, i.bytes)) = some (some (.agg #[.int .i64 0, .int .i64 0]), 2, 16) := by kernel_rfl
theorem EE (bv pv : Value) (G : List aU) (w : World) (HG : fL w bv G) (hn : G.length ≤ 5000) (fc : ∀ x ∈ G, x.nx.length ≤ 5000) :
  Calls Tryz.prog 38 #[.agg #[bv, pv]] w fun e w' => (∃ v, e = .returned v ∧ P7 w' v (jb G G.length [])) ∧ Below w.heap.size w w' := by
 obtain ⟨A, cap, rfl, hc1, hc2⟩ := HG.slice
 have JI := aiU HG
 have mY := aiU fc
 clear HG fc
 obtain ⟨V0, gC⟩ : ∃ V0, w.alloc (.cells #[.slice A G.length cap, pv] 31) = V0 := ⟨_, rfl⟩
 have b0 : Below w.heap.size w V0 := gC ▸ (Below.refl _ _).alloc (Nat.le_refl _) _
 have s0 : w.heap.size < V0.heap.size := by rw [← gC]; simp
 have k0 : V0.heap[w.heap.size]? = some (.cells #[.slice A G.length cap, pv] 31) := by rw [← gC]; exact heap_alloc_new _ _
 have y0 : V0.cell? ⟨w.heap.size, 0, none⟩ = some (.slice A G.length cap) := by simp [World.cell?, k0]
 have B0 := aiU b0
 clear k0 b0
 obtain ⟨iP, VI, VS, VR, VQ⟩ := info_parts infoP
 go_enter Tryz.func38, Tryz.ntmps38
 go_upto_region 3 with fail
 clear gC
 go_loopw [3, 4, 5, 7, 11] (fun a3 a4 a5 a7 a11 wr => ∃ k : Nat, k ≤ G.length ∧ a11 = .int .i64 (k : Int) ∧ wr.ownsRow V0.heap.size 109 2 a3 (jb G k []).length (xQ (jb G k [])) ∧ Below V0.heap.size V0 wr) (fun _ _ _ _ a11 _ => G.length - (intOf a11).toNat)
 case atStart => exact ⟨0, Nat.zero_le _, rfl, World.ownsRow_nil _ _ _ _, Below.refl _ _⟩
 case round =>
  obtain ⟨k, hk, rfl, hown, hb⟩ := hrel
  have HO := aiU hown
  have HB := aiU hb
  have BW := aiU (B0.out.trans (hb.mono ahU))
  have s1 := hb.size
  clear hown hb
  by_cases hlt : k < G.length
  ·obtain ⟨x, nx, b, off, hx, rfl, hbl, c0, c1, c2, hIx⟩ := JI.out.at_ BW.out hlt
   obtain ⟨NA, di, rfl, hn1, hn2⟩ := hIx.slice
   have HX := aiU (Iy hx)
   have hxl := mY.out x (List.mem_of_getElem? hx)
   have UT := aiU hIx
   have dl : decide ((k : Int) < (G.length : Int)) = true := decide_eq_true ahU
   clear hx hIx
   obtain ⟨X, hX⟩ : ∃ X, wr.alloc (.cells #[.int .i64 x.lo, .int .i64 x.hi, .slice NA x.nx.length di] 78) = X := ⟨_, rfl⟩
   have bX : Below wr.heap.size wr X := hX ▸ (Below.refl _ _).alloc (Nat.le_refl _) _
   have kX : X.heap[wr.heap.size]? = some (.cells #[.int .i64 x.lo, .int .i64 x.hi, .slice NA x.nx.length di] 78) := hX ▸ heap_alloc_new _ _
   have o2 : X.cell? ⟨wr.heap.size, 2, none⟩ = some (.slice NA x.nx.length di) := by simp [World.cell?, kX]
   have HOX := aiU (ak HO.out bX)
   have lH := aiU (HB.out.trans (bX.mono s1))
   clear kX bX
   go_upto_region 6 with fail
   clear hX c0 c1 c2 o2 HO HB BW
   obtain ⟨wo, rfl⟩ : ∃ wo : World, wo = wr := ⟨_, rfl⟩
   go_loopw [3, 7, 19] (fun a3 a7 a19 wr => ∃ j : Nat, j ≤ x.nx.length ∧ a19 = .int .i64 (j : Int) ∧ wr.ownsRow V0.heap.size 109 2 a3 (jb G k (x.nx.take j)).length (xQ (jb G k (x.nx.take j))) ∧ Below V0.heap.size V0 wr) (fun _ _ a19 _ => x.nx.length - (intOf a19).toNat)
   case atStart => exact ⟨0, Nat.zero_le _, rfl, HOX.out, lH.out⟩
   case round =>
    obtain ⟨j, hj, rfl, hown, hb⟩ := hrel
    have HO := aiU hown
    have HB := aiU hb
    have BW := aiU (B0.out.trans (hb.mono ahU))
    have s2 := hb.size
    clear hown hb HOX lH dl
    by_cases hjl : j < x.nx.length
    ·obtain ⟨s, nb, ie, hs, rfl, hnb, x1⟩ := UT.out.at_ BW.out hjl
     have HS := aiU (bT hs)
     have dl : decide ((j : Int) < (x.nx.length : Int)) = true := decide_eq_true ahU
     have hel := Cp G mY.out k ahU (x.nx.take j)
     have aeN : (jb G k (x.nx.take j)).length ≤ 30000000 := by
      have : (x.nx.take j).length ≤ 5000 := by simp; omega
      omega
     clear hs hel
     go_wp2_with (at_builtin; refine wpList_append_own_at _ rfl (.tmp 23) (.tmp 27) 57 rfl V0.heap.size 109 iP _ 2 16 Tryz.underlying57 VI VS VR VQ rfl ahW u3 _ _ rfl (HO.out.alloc _) ⟨wr.heap.size, 0, none⟩ 1 1 [.int .i64 (k : Int), .int .i64 s] rfl rfl (nK _ _ _ _) ahX ahY ahU ah6 ?_; intro v' W' hown' hgrow _ j6)
     have HN := aiU hown'
     have Rq := aiU ((HB.out.alloc s2 _).grown hgrow ah6 (fun k hk => (HO.out.lt k hk).1))
     go_roundw
     case rel =>
      refine ⟨j + 1, by omega, by go_num, ?_, Rq.out⟩
      rw [HS.out, LN, rK, List.length_append]
      exact HN.out
     case measure => simp [intOf]; omega
    ·obtain rfl : j = x.nx.length := by omega
     have dl : decide ((x.nx.length : Int) < (x.nx.length : Int)) = false := by simp
     rw [List.take_length] at HO
     go_wp2_with fail
     go_roundw
     case rel =>
      refine ⟨k + 1, by omega, by go_num, ?_, HB.out⟩
      rw [← HX.out]
      exact HO.out
     case measure => simp [intOf]; omega
  ·obtain rfl : k = G.length := by omega
   have dl : decide ((G.length : Int) < (G.length : Int)) = false := by simp
   go_wp2_with fail
   go_ret
   exact ⟨⟨u3, rfl, B9 HO.out⟩, BW.out⟩
structure kA (w : World) (v : Value) (n : Nat) (cd : Nat → Int) : Prop where
 wd : ∀ i, i < n → 0 ≤ cd i ∧ cd i < 4294967296
 at_ : ∃ A cap, v = .slice A n cap ∧ n ≤ cap ∧ cap ≤ maxLen ∧ (0 < n → ∃ b off, A = some ⟨b, off, none⟩ ∧ b < w.heap.size ∧ ∀ i, i < n → w.cell? ⟨b, off + i, none⟩ = some (.int .u32 (cd i)))
theorem kA.words {w : World} {v : Value} {n : Nat} {cd : Nat → Int} (h : kA w v n cd) (hn : n ≤ 1000000) : Words w v n cd := ⟨hn, h.wd, h.at_⟩
theorem Sj {cs : List Value} (h : cs.length = 4) : ∃ c0 c1 c2 c3, cs = [c0, c1, c2, c3] := by
 match cs, h with
 | [c0, c1, c2, c3], _ => exact ⟨c0, c1, c2, c3, rfl⟩
theorem array4 {α : Type} {cs : Array α} (h : cs.size = 4) : ∃ c0 c1 c2 c3, cs = #[c0, c1, c2, c3] := by
 obtain ⟨l⟩ := cs
 match l, h with
 | [c0, c1, c2, c3], _ => exact ⟨c0, c1, c2, c3, rfl⟩
theorem u32_in {p : Int} (h : (Lit.int .u32 p).wf = true) : 0 ≤ p ∧ p < 4294967296 := by
 simp [Lit.wf] at h
 have e1 : IntKind.u32.min = 0 := by decide
 have e2 : IntKind.u32.max = 4294967295 := by decide
 omega
theorem IV : Tryz.prog.cellsOf 9 = 1 := by kernel_rfl
theorem A9 : Tryz.prog.cellsOf 22 = 1 := by kernel_rfl
theorem EP : Tryz.prog.cellsOf 23 = 1 := by kernel_rfl
theorem Bb : Tryz.prog.cellsOf 25 = 4 := by kernel_rfl
theorem trod_struct4 {H : Type} {enc : TypeId × Value → H} {P : Program} {w : World} {base : Nat} {spare : Nat → Bool} {held : Bool} {t : TypeId} {f0 f1 f2 f3 : Field} {fuel : Nat} {cs : List Value} {x : DataW H × List MemPlace} (ht : P.underlying t = some (.struct #[f0, f1, f2, f3])) (h : DataW.trod enc P w base spare held fuel t cs = some x) :
  ∃ y0 y1 y2 y3 n, DataW.trod enc P w base spare held n f0.type ((cs.drop f0.offset).take (P.cellsOf f0.type)) = some y0 ∧ DataW.trod enc P w base spare held n f1.type ((cs.drop f1.offset).take (P.cellsOf f1.type)) = some y1 ∧
   DataW.trod enc P w base spare held n f2.type ((cs.drop f2.offset).take (P.cellsOf f2.type)) = some y2 ∧ DataW.trod enc P w base spare held n f3.type ((cs.drop f3.offset).take (P.cellsOf f3.type)) = some y3 := by
 obtain ⟨xs, n, _, rfl, hl, hlen, hf⟩ := DataW.trod_struct ht h
 match xs, hlen with
 | [y0, y1, y2, y3], _ => exact ⟨y0, y1, y2, y3, n, by simpa using hf 0 f0 rfl, by simpa using hf 1 f1 rfl, by simpa using hf 2 f2 rfl, by simpa using hf 3 f3 rfl⟩
section
variable {H : Type} {enc : TypeId × Value → H} {w : World} {base : Nat} {spare : Nat → Bool} {held : Bool}
theorem F6 {fuel : Nat} {cs : List Value} {y : DataW H × List MemPlace} (h : DataW.trod enc Tryz.prog w base spare held fuel 22 cs = some y) : ∃ v n cd, cs = [v] ∧ kA w v n cd := by
 obtain ⟨v, len, rfl, A, cap, rfl, h1, h2, hc⟩ := mQ Tryz.underlying22 1 ahV ahU h
 obtain ⟨l, hl, hp⟩ := vN (P := fun i (x : Int) => (0 ≤ x ∧ x < 4294967296) ∧ (0 < len → ∃ b off, A = some ⟨b, off, none⟩ ∧ b < w.heap.size ∧ w.cell? ⟨b, off + i, none⟩ = some (.int .u32 x))) len (fun i hi => by
  obtain ⟨b, off, rfl, hb, hx⟩ := hc ahU
  obtain ⟨cs, ⟨n, y, htr⟩, _, hj⟩ := hx i hi
  obtain ⟨z, rfl, _, hw⟩ := DataW.trod_int Tryz.underlying70 htr
  have := hj 0 ahU
  exact ⟨z, u32_in hw, fun _ => ⟨b, off, rfl, hb, by simpa using this⟩⟩)
 subst hl
 have hg : ∀ i, i < l.length → l.getD i 0 = l[i]?.getD 0 := fun i hi => by simp [List.getD]
 refine ⟨_, l.length, fun i => l.getD i 0, rfl, fun i hi => ?_, A, cap, rfl, h1, h2, fun h0 => ?_⟩
 ·have e : l.getD i 0 = l[i] := by simp [List.getD, List.getElem?_eq_getElem hi]
  show 0 ≤ l.getD i 0 ∧ l.getD i 0 < 4294967296
  rw [e]
  exact (hp i _ (List.getElem?_eq_getElem hi)).1
 ·obtain ⟨b, off, rfl, hb, hx⟩ := hc h0
  refine ⟨b, off, rfl, hb, fun i hi => ?_⟩
  obtain ⟨_, h4⟩ := hp i _ (List.getElem?_eq_getElem hi)
  obtain ⟨b', off', e, _, h5⟩ := h4 h0
  cases e
  rw [h5]
  simp [List.getD, List.getElem?_eq_getElem hi]
theorem Kt {fuel : Nat} {cs : List Value} {y : DataW H × List MemPlace} (h : DataW.trod enc Tryz.prog w base spare held fuel 23 cs = some y) : ∃ v l, cs = [v] ∧ nM w v l := by
 obtain ⟨v, len, rfl, A, cap, rfl, h1, h2, hc⟩ := mQ Tryz.underlying23 4 ahV ahU h
 obtain ⟨l, hl, hp⟩ := vN (P := fun i (x : gR) => x.nm.size ≤ maxLen ∧ (0 < len → ∃ b off, A = some ⟨b, off, none⟩ ∧ b < w.heap.size ∧ w.cell? ⟨b, off + i * 4, none⟩ = some (.string x.nm) ∧ w.cell? ⟨b, off + i * 4 + 1, none⟩ = some (.int .i64 x.st) ∧ w.cell? ⟨b, off + i * 4 + 2, none⟩ = some (.int .i64 x.en) ∧ w.cell? ⟨b, off + i * 4 + 3, none⟩ = some (.int .i64 x.da))) len (fun i hi => by
  obtain ⟨b, off, rfl, hb, hx⟩ := hc ahU
  obtain ⟨cs, ⟨n, y, htr⟩, hl, hj⟩ := hx i hi
  obtain ⟨y0, y1, y2, y3, n', g0, g1, g2, g3⟩ := trod_struct4 Tryz.underlying75 htr
  obtain ⟨c0, c1, c2, c3, rfl⟩ := Sj hl
  simp only [yO, IV, List.drop_zero, ai2, ai1, List.take_zero] at g0 g1 g2 g3
  obtain ⟨z0, e0, _, hz0⟩ := DataW.trod_string Tryz.underlying9 g0
  obtain ⟨z1, e1, _, _⟩ := DataW.trod_int Tryz.underlying3 g1
  obtain ⟨z2, e2, _, _⟩ := DataW.trod_int Tryz.underlying3 g2
  obtain ⟨z3, e3, _, _⟩ := DataW.trod_int Tryz.underlying3 g3
  simp at e0 e1 e2 e3
  subst e0 e1 e2 e3
  refine ⟨⟨z0, z1, z2, z3⟩, hz0, fun _ => ⟨b, off, rfl, hb, ?_, ?_, ?_, ?_⟩⟩
  ·simpa using hj 0 ahU
  ·simpa [Nat.add_assoc] using hj 1 ahU
  ·simpa [Nat.add_assoc] using hj 2 ahU
  ·simpa [Nat.add_assoc] using hj 3 ahU)
 subst hl
 refine ⟨_, l, rfl, fun e he => ?_, A, cap, rfl, h1, h2, fun h0 => ?_⟩
 ·obtain ⟨i, hi⟩ := List.mem_iff_getElem?.1 he
  exact (hp i e hi).1
 ·obtain ⟨b, off, rfl, hb, hx⟩ := hc h0
  refine ⟨b, off, rfl, hb, fun i x hi => ?_⟩
  obtain ⟨b', off', e, _, h5⟩ := (hp i x hi).2 h0
  cases e
  exact h5
theorem Ab {r : Reach} {b0 : Nat} {v : Value} {d : DataW H} {p : List MemPlace} (hv : Value.okWide Tryz.prog w r b0 25 v) (h : DataW.Trod enc Tryz.prog w base spare held 25 v d p) :
  ∃ cv ev sh lk n cd aC, v = .agg #[cv, ev, .int .i64 sh, .int .i64 lk] ∧ kA w cv n cd ∧ nM w ev aC := by
 obtain ⟨cs, rfl, hsz⟩ := okWide_struct Tryz.underlying25 hv
 obtain ⟨c0, c1, c2, c3, rfl⟩ := array4 (hsz.trans Bb)
 obtain ⟨fuel, hf⟩ := h
 obtain ⟨y0, y1, y2, y3, n, g0, g1, g2, g3⟩ := trod_struct4 Tryz.underlying25 hf
 simp only [Value.cells, A9, EP, yO, List.drop_zero, ai2, ai1, List.take_zero] at g0 g1 g2 g3
 obtain ⟨cv, m, cd, e0, hW⟩ := F6 g0
 obtain ⟨ev, aC, e1, hE⟩ := Kt g1
 obtain ⟨z2, e2, _, _⟩ := DataW.trod_int Tryz.underlying3 g2
 obtain ⟨z3, e3, _, _⟩ := DataW.trod_int Tryz.underlying3 g3
 simp at e0 e1 e2 e3
 subst e0 e1 e2 e3
 exact ⟨c0, c1, z2, z3, m, cd, aC, rfl, hW, hE⟩
end
inductive GR (G : List aU) : Nat → Prop
 | start : GR G 0
 | step {b t : Nat} {x : aU} : GR G b → G[b]? = some x → (t : Int) ∈ x.nx → GR G t
abbrev V7 (n : Nat) (sn : Nat → Bool) : List Value := (List.range n).map fun i => .bool (sn i)
theorem LW (n : Nat) (sn : Nat → Bool) {p : Nat} (hp : p < n) (b : Bool) : (V7 n sn).set p (.bool b) = V7 n (upd sn p b) := by
 apply List.ext_getElem?
 intro q
 rw [List.getElem?_set]
 simp only [V7, List.length_map, List.length_range, List.getElem?_map]
 by_cases e : p = q
 ·subst e
  rw [if_pos rfl, if_pos hp, List.getElem?_range hp]
  simp [upd]
 ·rw [if_neg e]
  by_cases hq : q < n
  ·rw [List.getElem?_range hq]
   have : q ≠ p := fun h => e h.symm
   simp [upd, this]
  ·rw [List.getElem?_eq_none (by simpa using hq)]
   rfl
theorem vR : (Tryz.prog.info? 4).map (fun i => (i.zero, i.size, i.bytes)) = some (some (.bool false), 1, 1) := by kernel_rfl
structure SM (w wr : World) (g n : Nat) (sn : Nat → Bool) : Prop where
 aD : Below w.heap.size w wr
 row : wr.ownsRow w.heap.size 4 1 (.slice (some ⟨g, 0, none⟩) n n) n (V7 n sn)
theorem SM.cells {w wr : World} {g n : Nat} {sn : Nat → Bool} (h : SM w wr g n sn) {i : Nat} (hi : i < n) : wr.cell? ⟨g, i, none⟩ = some (.bool (sn i)) ∧ wr.frozen? ⟨g, i, none⟩ = false :=
 ⟨by rw [h.row.cellAt _ ahU, List.getElem?_map, List.getElem?_range hi]; rfl, h.row.frozenAt _⟩
theorem SM.set {w wr : World} {g n : Nat} {sn : Nat → Bool} (h : SM w wr g n sn) {i : Nat} (hi : i < n) (b : Bool) : SM w (wr.setCell ⟨g, i, none⟩ (.bool b)) g n (upd sn i b) :=
 ⟨h.aD.setCell (h.row.lt g rfl).1 _, by rw [← LW n sn hi b]; exact (h.row.stored i (.bool b)).1⟩
structure RS (G : List aU) (sn : Nat → Bool) : Prop where
 zero : sn 0 = true
 sound : ∀ i, i < G.length → sn i = true → GR G i
theorem RS.add {G : List aU} {sn : Nat → Bool} (h : RS G sn) {b t : Nat} {x : aU} (hb : b < G.length) (hs : sn b = true) (hx : G[b]? = some x) (ht : (t : Int) ∈ x.nx) : RS G (upd sn t true) := by
 refine ⟨?_, fun i hi hs' => ?_⟩
 ·unfold upd; split; rfl; exact h.zero
 ·unfold upd at hs'
  split at hs'
  ·rename_i e; rw [e]; exact GR.step (h.sound b hb hs) hx ht
  ·exact h.sound i hi hs'
theorem Bp {l : List Int} (h : l.Nodup) (x : Int) : (mM l x).Nodup := by
 unfold mM
 split
 ·exact h
 ·rename_i hx
  rw [List.nodup_append]
  exact ⟨h, by simp, fun a ha b hb => by simp at hb; subst hb; exact fun e => hx (e ▸ ha)⟩
theorem uD (L : List (Int × Int)) (S : List Int) : (rQ L S).Nodup := by
 have : ∀ (S l : List Int), l.Nodup → (S.foldl (fun l s => mM l (idx L s : Int)) l).Nodup := by
  intro S
  induction S with
  | nil => intro l h; exact h
  | cons s S ih => intro l h; rw [List.foldl_cons]; exact ih _ (Bp h _)
 exact this S [] ahZ
theorem Gz {l : List Int} {x y : Int} : y ∈ mM l x ↔ y ∈ l ∨ y = x := by
 unfold mM
 split
 ·rename_i h
  constructor
  ·exact .inl
  ·rintro (h1 | rfl)
   ·exact h1
   ·exact h
 ·simp
theorem Ce (L : List (Int × Int)) (S : List Int) (y : Int) : y ∈ rQ L S ↔ ∃ s ∈ S, y = (idx L s : Int) := by
 have : ∀ (S l : List Int), y ∈ (S.foldl (fun l s => mM l (idx L s : Int)) l) ↔ y ∈ l ∨ ∃ s ∈ S, y = (idx L s : Int) := by
  intro S
  induction S with
  | nil => intro l; simp
  | cons s S ih =>
   intro l
   rw [List.foldl_cons, ih, Gz]
   simp [or_assoc]
 have h := this S []
 simpa [rQ] using h
structure gm (c : Int → Ins) (st en : Int) (D : List Int) (L : List (Int × Int)) : Prop where
 b : Vr c st D (en - st).toNat L
 mem : ∀ a, a ∈ D ↔ nL c st en a
 all : ∀ a ∈ D, ∀ t ∈ bL (c a) a, t ∈ D
 st0 : 0 ≤ st
 lt : st < en
theorem gm.of {c : Int → Ins} {st en : Int} {D : List Int} (h0 : 0 ≤ st) (h1 : st < en) (hR : fQ c st en D [] (-1)) : gm c st en D (blk c st D (en - st).toNat) := by
 refine ⟨mE c st D _, hR.mem h1, fun a ha t ht => ?_, h0, h1⟩
 have hb : ¬ nN c st en a := by
  rcases hR.b with h | h
  ·exact h.2 a ha
  ·have := (hR.dr _ h.1).range _ _ _ h1
   omega
 have hin : st ≤ t ∧ t < en := Classical.byContradiction fun h => hb ⟨t, ht, h⟩
 rcases hR.cl a ha t ht hin.1 hin.2 with h | h
 ·exact h
 ·cases h
section
variable {c : Int → Ins} {st en : Int} {D : List Int} {L : List (Int × Int)}
theorem gm.range (h : gm c st en D L) {a : Int} (ha : a ∈ D) : st ≤ a ∧ a < en := ((h.mem a).1 ha).range _ _ _ h.lt
theorem gm.succ (h : gm c st en D L) {p : Int × Int} (hp : p ∈ L) {s : Int} (hs : s ∈ bL (c (p.2 - 1)) (p.2 - 1)) : s ∈ D ∧ ∃ q ∈ L, q.1 = s := by
 have hla := h.b.last p hp
 have Lg := h.all _ hla s hs
 have hin := h.range Lg
 refine ⟨Lg, h.b.num s hin.1 aiI Lg ?_⟩
 by_cases hbr : eD (c (p.2 - 1)).op = true
 ·rw [gF]
  refine .inr ⟨_, hla, ?_⟩
  unfold dw
  rw [if_pos hbr]
  exact hs
 ·have : s = p.2 := by
   unfold bL at hs
   unfold eD at hbr
   split at hs
   ·cases hs
   ·split at hs
    ·simp_all
    ·split at hs
     ·rename_i h; rcases h with h | h <;> simp [h] at hbr
     ·simp at hs; omega
  rw [this] at Lg hin ⊢
  exact h.b.cl _ hp aiI Lg
theorem gm.next (h : gm c st en D L) {k : Nat} (hk : k < L.length) : ∀ t ∈ dD c L k, 0 ≤ t ∧ t < (L.length : Int) := by
 intro t ht
 unfold dD at ht
 obtain ⟨s, hs, rfl⟩ := (Ce _ _ _).1 ht
 have e1 : L.getD k (0, 0) = L[k] := by simp [List.getD, List.getElem?_eq_getElem hk]
 unfold gy at hs
 rw [e1] at hs
 obtain ⟨_, hq⟩ := h.succ (List.getElem_mem hk) hs
 have := (rT hq).2.1
 omega
theorem jO (c : Int → Ins) (L : List (Int × Int)) {k : Nat} (hk : k < L.length) : (cU c L)[k]? = some ⟨(L[k]).1, (L[k]).2, dD c L k⟩ := by
 unfold cU
 rw [List.getElem?_map, List.getElem?_range hk]
 simp [List.getD, List.getElem?_eq_getElem hk]
theorem fT (c : Int → Ins) (L : List (Int × Int)) : (cU c L).length = L.length := by simp [cU]
theorem Ov {n : Nat} {G : List aU} (h1 : ∀ (k : Nat) (x : aU), G[k]? = some x → x.lo < x.hi ∧ x.nx.length ≤ 2 ∧ (∀ t ∈ x.nx, 0 ≤ t ∧ t < (n : Int)) ∧ x.nx.Nodup) (h2 : ∀ x, G[0]? = some x → 0 ≤ x.lo) (h3 : ∀ (k : Nat) (x y : aU), G[k]? = some x → G[k + 1]? = some y → x.hi ≤ y.lo) : ∃ z, lS n 0 G z := by
 have key : ∀ m, m ≤ G.length → ∃ z, lS n 0 (G.take m) z ∧ (∀ x, G[m]? = some x → z ≤ x.lo) := by
  intro m
  induction m with
  | zero => intro _; exact ⟨0, rfl, h2⟩
  | succ m ih =>
   intro hm
   obtain ⟨z, hz, hl⟩ := ih ahU
   have hx : G[m]? = some G[m] := List.getElem?_eq_getElem ahU
   obtain ⟨a1, a2, a3, a4⟩ := h1 m _ hx
   refine ⟨G[m].hi, ?_, fun y hy => h3 m _ y hx hy⟩
   rw [bT hx]
   refine hz.snoc ⟨hl _ hx, a1, a2, a3, fun ⟨e1, e2⟩ => ?_⟩
   match fc : G[m].nx, e1, e2, a4 with
   | [u, v], _, e2, a4 => simp at e2 a4; exact a4 e2
 obtain ⟨z, hz, _⟩ := key G.length (Nat.le_refl _)
 rw [List.take_length] at hz
 exact ⟨z, hz⟩
theorem A4 {nx : List Int} (h : nx.Nodup) (p k : Nat) : nI nx p k = if (p : Int) ∈ nx then [(k : Int)] else [] := by
 induction nx with
 | nil => rfl
 | cons x nx ih =>
  obtain ⟨h1, h2⟩ := List.nodup_cons.1 h
  have ih := ih h2
  unfold nI at ih ⊢
  by_cases e : x = (p : Int)
  ·subst e
   rw [if_pos ahZ]
   simp only [List.filter_cons, decide_true, if_true, List.map_cons]
   rw [ih, if_neg h1]
  ·have e' : (p : Int) ≠ x := fun h => e h.symm
   simp only [List.filter_cons, e, decide_false, Bool.false_eq_true, if_false]
   rw [ih]
   simp [e']
theorem Ie (c : Int → Ins) (L : List (Int × Int)) : (List.range (cU c L).length).map (gw (cU c L) (cU c L).length []) = gi c L := by
 unfold gi
 rw [fT]
 apply List.map_congr_left
 intro p _
 unfold gw vG jY
 have : nI [] p L.length = [] := rfl
 rw [this, List.append_nil]
 have key : ∀ m, m ≤ L.length → (List.range m).flatMap (fun b => nI ((cU c L).getD b ⟨0, 0, []⟩).nx p b) = ((List.range m).filter (fun b => decide ((p : Int) ∈ dD c L b))).map (fun (b : Nat) => (b : Int)) := by
  intro m
  induction m with
  | zero => intro _; rfl
  | succ m ih =>
   intro hm
   rw [List.range_succ, List.flatMap_append, List.filter_append, List.map_append, ih ahU]
   congr 1
   have e : (cU c L).getD m ⟨0, 0, []⟩ = ⟨(L[m]).1, (L[m]).2, dD c L m⟩ := by simp [List.getD, jO c L (show m < L.length by omega)]
   simp only [List.flatMap_cons, List.flatMap_nil, List.append_nil, e]
   rw [A4 (show (dD c L m).Nodup from uD _ _)]
   by_cases hp : (p : Int) ∈ dD c L m
   ·rw [if_pos hp]; simp [hp]
   ·rw [if_neg hp]; simp [hp]
 exact key L.length (Nat.le_refl _)
theorem gm.valid (h : gm c st en D L) (hst : st ∈ D) : bQ (cU c L) (gi c L) := by
 have hn0 : L ≠ [] := h.b.ne hst aiI
 refine ⟨fun e => hn0 ?_, by simp [gi, cU], ?_, Ie c L⟩
 ·have := congrArg List.length e
  rw [fT] at this
  exact List.length_eq_zero_iff.1 this
 ·rw [fT]
  refine Ov (fun k x hx => ?_) (fun x hx => ?_) (fun k x y hx hy => ?_)
  ·have hk : k < L.length := by have := (List.getElem?_eq_some_iff.1 hx).1; rwa [fT] at this
   rw [jO c L hk] at hx
   cases hx
   refine ⟨(h.b.lo _ (List.getElem_mem hk)).2.1, Nat.le_trans (Ca _ _) (mj _ _), h.next hk, uD _ _⟩
  ·have hk : 0 < L.length := by have := (List.getElem?_eq_some_iff.1 hx).1; rwa [fT] at this
   rw [jO c L hk] at hx
   cases hx
   have := (h.b.lo _ (List.getElem_mem hk)).1
   have := h.st0
   simp only
   omega
  ·have hk : k + 1 < L.length := by have := (List.getElem?_eq_some_iff.1 hy).1; rwa [fT] at this
   rw [jO c L ahU] at hx
   rw [jO c L hk] at hy
   cases hx
   cases hy
   exact List.pairwise_iff_getElem.1 h.b.vK k (k + 1) ahU hk ahU
end
section
variable {c : Int → Ins} {st en : Int} {D : List Int} {L : List (Int × Int)}
structure NM (c : Int → Ins) (st : Int) (D : List Int) (x : Int) : Prop where
 ne : x ≠ st
 before : x - 1 ∈ D
 br : eD (c (x - 1)).op = false
 halt : (c (x - 1)).op ≠ 1
 unlock : (c (x - 1)).op ≠ 29
 lock : (c x).op ≠ 28
theorem gm.inner (h : gm c st en D L) {x : Int} (hx : x ∈ D) (hl : nB c st D x = false) : NM c st D x := by
 have hnl : ¬ tE c st D x := fun hh => by rw [(gF c st D x).2 hh] at hl; cases hl
 have hns : x ≠ st := fun e => hnl (.inl e)
 have key : ∃ a, a ∈ D ∧ x ∈ bL (c a) a := by
  have := (h.mem x).1 hx
  cases this with
  | start => exact absurd rfl hns
  | step h1 h2 h3 h4 => exact ⟨_, (h.mem _).2 h1, h2⟩
 obtain ⟨a, ha, hs⟩ := key
 have hbr : eD (c a).op = false := by
  rcases hb : eD (c a).op
  ·rfl
  ·exact absurd (.inr ⟨a, ha, by unfold dw; rw [if_pos hb]; exact hs⟩) hnl
 have hsa : (c a).op ≠ 1 ∧ x = a + 1 := by
  unfold bL at hs
  unfold eD at hbr
  split at hs
  ·cases hs
  ·rename_i h1
   refine ⟨h1, ?_⟩
   split at hs
   ·rename_i h2; simp [h2] at hbr
   ·split at hs
    ·rename_i h2; rcases h2 with h2 | h2 <;> simp [h2] at hbr
    ·simpa using hs
 obtain ⟨h1, rfl⟩ := hsa
 have e : a + 1 - 1 = a := by omega
 refine ⟨hns, by rw [e]; exact ha, by rw [e]; exact hbr, by rw [e]; exact h1, ?_, fun h28 => ?_⟩
 ·rw [e]
  intro h29
  exact hnl (.inr ⟨a, ha, by unfold dw; rw [if_neg (by simp [hbr]), if_neg ahU, if_pos h29]; simp⟩)
 ·refine hnl (.inr ⟨a + 1, hx, ?_⟩)
  have hb2 : eD (c (a + 1)).op = false := by simp [eD, h28]
  unfold dw
  rw [if_neg (by simp [hb2]), if_pos h28]
  simp
theorem mF (hg : ∀ x ∈ D, nB c st D x = false → x ≠ st ∧ x - 1 ∈ D) : ∀ m : Nat, (∀ p ∈ blk c st D m, ∀ x, p.1 < x → x < p.2 → x ∈ D ∧ nB c st D x = false) ∧ (0 < m → st + (m : Int) - 1 ∈ D → ∃ M a, blk c st D m = M ++ [(a, st + (m : Int))])
 | 0 => ⟨by simp [blk], fun h => by omega⟩
 | m + 1 => by
  obtain ⟨i1, i2⟩ := mF hg m
  have e0 : st + ((m + 1 : Nat) : Int) - 1 = st + m := by omega
  have e1 : st + ((m + 1 : Nat) : Int) = st + m + 1 := by omega
  rw [e0, e1]
  unfold blk
  by_cases hD : st + (m : Int) ∈ D
  ·rw [if_pos hD]
   by_cases hl : nB c st D (st + m) = true
   ·rw [if_pos hl]
    refine ⟨fun p hp x h1 h2 => ?_, fun _ _ => ⟨_, _, rfl⟩⟩
    rcases List.mem_append.1 hp with hp | hp
    ·exact i1 p hp x h1 h2
    ·simp at hp; subst hp; simp only at h1 h2; omega
   ·have hl' : nB c st D (st + m) = false := by simpa using hl
    rw [if_neg hl]
    obtain ⟨hn, hb⟩ := hg _ hD hl'
    have hm : 0 < m := by
     rcases Nat.eq_zero_or_pos m with e | e
     ·subst e; simp at hn
     ·exact e
    obtain ⟨M, a, hM⟩ := i2 hm hb
    rw [hM, fN]
    refine ⟨fun p hp x h1 h2 => ?_, fun _ _ => ⟨_, _, rfl⟩⟩
    rcases List.mem_append.1 hp with hp | hp
    ·exact i1 p (by rw [hM]; simp [hp]) x h1 h2
    ·simp at hp; subst hp
     simp only at h1 h2
     by_cases ex : x = st + m
     ·rw [ex]; exact ⟨hD, hl'⟩
     ·exact i1 (a, st + m) (by rw [hM]; simp) x h1 aiz
  ·rw [if_neg hD]
   exact ⟨i1, fun _ h => absurd h hD⟩
theorem rA {a t : Int} (hbr : eD (c a).op = false) (hs : t ∈ bL (c a) a) : t = a + 1 ∧ (c a).op ≠ 1 := by
 unfold bL at hs
 unfold eD at hbr
 split at hs
 ·cases hs
 ·rename_i h1
  refine ⟨?_, h1⟩
  split at hs
  ·rename_i h2; simp [h2] at hbr
  ·split at hs
   ·rename_i h2; rcases h2 with h2 | h2 <;> simp [h2] at hbr
   ·simpa using hs
theorem vo (hg : ∀ x ∈ D, nB c st D x = false → x ≠ st ∧ x - 1 ∈ D) : ∀ m : Nat, ∀ a ∈ D, st ≤ a → a < st + (m : Int) → ∃ p ∈ blk c st D m, p.1 ≤ a ∧ a < p.2
 | 0, a, _, h1, h2 => by omega
 | m + 1, a, ha, h1, h2 => by
  have ih := vo hg m
  unfold blk
  by_cases hD : st + (m : Int) ∈ D
  ·rw [if_pos hD]
   by_cases hl : nB c st D (st + m) = true
   ·rw [if_pos hl]
    by_cases e : a = st + m
    ·exact ⟨(st + m, st + m + 1), by simp, by simp only; omega, by simp only; omega⟩
    ·obtain ⟨p, hp, q⟩ := ih a ha h1 ahU
     exact ⟨p, by simp [hp], q⟩
   ·have hl' : nB c st D (st + m) = false := by simpa using hl
    rw [if_neg hl]
    obtain ⟨hn, hb⟩ := hg _ hD hl'
    have hm : 0 < m := by
     rcases Nat.eq_zero_or_pos m with e | e
     ·subst e; simp at hn
     ·exact e
    obtain ⟨M, a', hM⟩ := (mF hg m).2 hm hb
    have hlo := (mE c st D m).lo (a', st + m) (by rw [hM]; simp)
    rw [hM, fN]
    by_cases e : a = st + m
    ·exact ⟨(a', st + m + 1), by simp, by simp only at hlo ⊢; omega, by simp only; omega⟩
    ·obtain ⟨p, hp, q1, q2⟩ := ih a ha h1 ahU
     rw [hM] at hp
     rcases List.mem_append.1 hp with hp | hp
     ·exact ⟨p, by simp [hp], q1, q2⟩
     ·simp at hp; subst hp
      exact ⟨(a', st + m + 1), by simp, q1, by simp only at q2 ⊢; omega⟩
  ·rw [if_neg hD]
   by_cases e : a = st + m
   ·rw [e] at ha; exact absurd ha hD
   ·exact ih a ha h1 ahU
theorem gm.XG (h : gm c st en D (blk c st D (en - st).toNat)) {p : Int × Int} (hp : p ∈ blk c st D (en - st).toNat) {x : Int} (h1 : p.1 < x) (h2 : x < p.2) : x ∈ D ∧ nB c st D x = false :=
 (mF (c := c) (st := st) (D := D) (fun x hx hl => ⟨(h.inner hx hl).ne, (h.inner hx hl).before⟩) (en - st).toNat).1 p hp x h1 h2
theorem gm.cover (h : gm c st en D (blk c st D (en - st).toNat)) {a : Int} (ha : a ∈ D) : ∃ p ∈ blk c st D (en - st).toNat, p.1 ≤ a ∧ a < p.2 := by
 have hr := h.range ha
 exact vo (c := c) (st := st) (D := D) (fun x hx hl => ⟨(h.inner hx hl).ne, (h.inner hx hl).before⟩) _ a ha hr.1 ahU
theorem gm.bC (h : gm c st en D (blk c st D (en - st).toNat)) {p : Int × Int} (hp : p ∈ blk c st D (en - st).toNat) {x : Int} (h1 : p.1 < x) (h2 : x < p.2) : x ∈ D ∧ NM c st D x := by
 obtain ⟨a, b⟩ := (mF (c := c) (st := st) (D := D) (fun x hx hl => ⟨(h.inner hx hl).ne, (h.inner hx hl).before⟩) (en - st).toNat).1 p hp x h1 h2
 exact ⟨a, h.inner a b⟩
theorem gm.uniq (h : gm c st en D L) {i j : Nat} (hi : i < L.length) (hj : j < L.length) (e : (L[i]).1 = (L[j]).1) : i = j := by
 rcases Nat.lt_trichotomy i j with hlt | rfl | hlt
 ·have := List.pairwise_iff_getElem.1 h.b.vK i j hi hj hlt
  have := (h.b.lo _ (List.getElem_mem hi)).2.1
  omega
 ·rfl
 ·have := List.pairwise_iff_getElem.1 h.b.vK j i hj hi hlt
  have := (h.b.lo _ (List.getElem_mem hj)).2.1
  omega
theorem OO (h : gm c st en D L) {i : Nat} (hi : i < L.length) : idx L (L[i]).1 = i := by
 obtain ⟨_, h2, h3⟩ := rT (L := L) (x := (L[i]).1) ⟨L[i], List.getElem_mem hi, rfl⟩
 have e : L.getD (idx L (L[i]).1) (0, 0) = L[idx L (L[i]).1] := by simp [List.getD, List.getElem?_eq_getElem h2]
 rw [e] at h3
 exact h.uniq h2 hi h3
theorem gm.first (h : gm c st en D L) (hst : st ∈ D) (h0 : 0 < L.length) : (L[0]).1 = st := by
 obtain ⟨q, hq, e⟩ := h.b.num st (Int.le_refl _) aiI hst (Ag c st D)
 obtain ⟨j, hj, ej⟩ := List.getElem_of_mem hq
 rcases Nat.eq_zero_or_pos j with e0 | e0
 ·subst e0; rw [ej]; exact e
 ·have := List.pairwise_iff_getElem.1 h.b.vK 0 j h0 hj e0
  have := (h.b.lo _ (List.getElem_mem h0))
  rw [ej] at *
  omega
end
theorem gm.reached {c : Int → Ins} {st en : Int} {D : List Int} {L : List (Int × Int)} (hL : blk c st D (en - st).toNat = L) (h : gm c st en D L) (hst : st ∈ D) : ∀ i, i < (cU c L).length → GR (cU c L) i := by
 have h' : gm c st en D (blk c st D (en - st).toNat) := by rw [hL]; exact h
 have hn0 : 0 < L.length := List.length_pos_iff.2 (h.b.ne hst aiI)
 have key : ∀ a, nL c st en a → ∀ i (hi : i < L.length), (L[i]).1 ≤ a → a < (L[i]).2 → GR (cU c L) i := by
  intro a ha
  induction ha with
  | start =>
   intro i hi h1 h2
   have l0 := h.first hst hn0
   have li := h.b.lo _ (List.getElem_mem hi)
   have : i = 0 := h.uniq hi hn0 ahU
   subst this
   exact GR.start
  | @step a t h1 h2 h3 h4 ih =>
   intro i hi hl hu
   have QT := (h.mem a).2 h1
   by_cases O0 : t = (L[i]).1
   ·-- the block of a
    obtain ⟨k, hk, hka, hkb⟩ : ∃ (k : Nat) (hk : k < L.length), (L[k]).1 ≤ a ∧ a < (L[k]).2 := by
     obtain ⟨p, hp, q1, q2⟩ := h'.cover QT
     rw [hL] at hp
     obtain ⟨k, hk, ek⟩ := List.getElem_of_mem hp
     exact ⟨k, hk, by rw [ek]; exact q1, by rw [ek]; exact q2⟩
    have hg := ih k hk hka hkb
    by_cases gz : a = (L[k]).2 - 1
    ·refine GR.step hg (jO c L hk) ?_
     simp only
     unfold dD
     rw [Ce]
     refine ⟨t, ?_, by rw [O0, OO h hi]⟩
     unfold gy
     have e1 : L.getD k (0, 0) = L[k] := by simp [List.getD, List.getElem?_eq_getElem hk]
     rw [e1, ← gz]
     exact h2
    ·exfalso
     have hin := h'.bC (p := L[k]) (by rw [hL]; exact List.getElem_mem hk) (x := a + 1) ahU ahU
     have hb := hin.2.br
     rw [show a + 1 - 1 = a by omega] at hb
     have ht := (rA hb h2).1
     rcases Nat.lt_trichotomy i k with hlt | rfl | hlt
     ·have := List.pairwise_iff_getElem.1 h.b.vK i k hi hk hlt
      have := (h.b.lo _ (List.getElem_mem hi)).2.1
      omega
     ·omega
     ·have := List.pairwise_iff_getElem.1 h.b.vK k i hk hi hlt
      omega
   ·obtain ⟨aeG, S5⟩ := h'.XG (p := L[i]) (by rw [hL]; exact List.getElem_mem hi) (x := t) ahU hu
    have hbr : eD (c a).op = false := by
     rcases hb : eD (c a).op
     ·rfl
     ·have : nB c st D t = true := (gF c st D t).2 (.inr ⟨a, QT, by unfold dw; rw [if_pos hb]; exact h2⟩)
      rw [this] at S5; cases S5
    have ht := (rA hbr h2).1
    exact ih i hi ahU ahU
 intro i hi
 rw [fT] at hi
 have J0 := h.b.lead _ (List.getElem_mem hi)
 have hlo := h.b.lo _ (List.getElem_mem hi)
 exact key _ ((h.mem _).1 J0.1) i hi (Int.le_refl _) hlo.2.1
section
variable {c c' : Int → Ins} {st en : Int}
theorem uu (hlt : st < en) (h : ∀ a, st ≤ a → a < en → c a = c' a) {a : Int} (ha : nL c st en a) : nL c' st en a := by
 induction ha with
 | start => exact .start
 | step h1 h2 h3 h4 ih =>
  have hr := h1.range _ _ _ hlt
  exact .step ih (by rw [← h _ hr.1 hr.2]; exact h2) h3 h4
theorem KA (hlt : st < en) (h : ∀ a, st ≤ a → a < en → c a = c' a) (a : Int) : nL c st en a ↔ nL c' st en a :=
 ⟨uu hlt h, uu hlt (fun a h1 h2 => (h a h1 h2).symm)⟩
theorem Bk (h : ∀ a, st ≤ a → a < en → c a = c' a) {a : Int} (h1 : st ≤ a) (h2 : a < en) : nN c st en a ↔ nN c' st en a := by
 unfold nN
 rw [h a h1 h2]
theorem fQ.same {D D' : List Int} {bad TQ : Int} (h0 : 0 ≤ st) (hlt : st < en) (h : ∀ a, st ≤ a → a < en → c a = c' a) (hR : fQ c st en D [] bad) (J3 : fQ c' st en D' [] TQ) : (∀ x, x ∈ D ↔ x ∈ D') ∧ bad = TQ := by
 have hm : ∀ x, x ∈ D ↔ x ∈ D' := fun x => by rw [hR.mem hlt, J3.mem hlt, KA hlt h]
 have hb : ∀ x, x ∈ D → (nN c st en x ↔ nN c' st en x) := fun x hx => by
  have := (hR.dr x hx).range _ _ _ hlt
  exact Bk h this.1 this.2
 refine ⟨hm, ?_⟩
 rcases hR.b with ⟨e, h1⟩ | ⟨e, h1, h2⟩ <;> rcases J3.b with ⟨e', h1'⟩ | ⟨e', h1', h2'⟩
 ·rw [e, e']
 ·exact absurd ((hb _ ((hm _).2 e')).2 h1') (h1 _ ((hm _).2 e'))
 ·exact absurd ((hb _ e).1 h1) (h1' _ ((hm _).1 e))
 ·have a1 := h2 _ ((hm _).2 e') ((hb _ ((hm _).2 e')).2 h1')
  have a2 := h2' _ ((hm _).1 e) ((hb _ e).1 h1)
  omega
theorem GV {D : List Int} (h : ∀ a ∈ D, c a = c' a) (x : Int) : nB c st D x = nB c' st D x := by
 unfold nB
 congr 1
 apply Bool.eq_iff_iff.2
 simp only [List.any_eq_true, decide_eq_true_eq]
 constructor
 ·rintro ⟨a, ha, hx⟩; exact ⟨a, ha, by rw [← h a ha]; exact hx⟩
 ·rintro ⟨a, ha, hx⟩; exact ⟨a, ha, by rw [h a ha]; exact hx⟩
theorem yY {D : List Int} (h : ∀ a ∈ D, c a = c' a) : ∀ m, blk c st D m = blk c' st D m
 | 0 => rfl
 | m + 1 => by
  unfold blk
  rw [yY h m, GV h]
theorem Jj {D D' : List Int} (hm : ∀ x, x ∈ D ↔ x ∈ D') (h : ∀ a ∈ D, c a = c' a) (m : Nat) : blk c st D m = blk c' st D' m := by
 rw [yY h m, pK c' st hm m]
theorem pZ {L : List (Int × Int)} (h : ∀ p ∈ L, c (p.2 - 1) = c' (p.2 - 1)) {k : Nat} (hk : k < L.length) : dD c L k = dD c' L k := by
 unfold dD gy
 have e : L.getD k (0, 0) = L[k] := by simp [List.getD, List.getElem?_eq_getElem hk]
 rw [e, h _ (List.getElem_mem hk)]
theorem Az {L : List (Int × Int)} (h : ∀ p ∈ L, c (p.2 - 1) = c' (p.2 - 1)) : cU c L = cU c' L := by
 unfold cU
 apply List.map_congr_left
 intro k hk
 rw [pZ h (List.mem_range.1 hk)]
theorem Ay {L : List (Int × Int)} (h : ∀ p ∈ L, c (p.2 - 1) = c' (p.2 - 1)) : gi c L = gi c' L := by
 unfold gi
 apply List.map_congr_left
 intro p hp
 unfold jY
 congr 1
 apply List.filter_congr
 intro b hb
 rw [pZ h (List.mem_range.1 hb)]
end
structure Wd where
 G : List aU
 P : List (List Int)
 at_ : Int
 er : Int
inductive Out (c : Int → Ins) (st en : Int) : Wd → Prop
 | bad (D : List Int) (bad : Int) (h0 : 0 ≤ bad) (h : fQ c st en D [] bad) : Out c st en ⟨[], [], bad, 10⟩
 | ok (D : List Int) (h : fQ c st en D [] (-1)) : Out c st en ⟨cU c (blk c st D (en - st).toNat), gi c (blk c st D (en - st).toNat), -1, 0⟩
theorem Out.same {c c' : Int → Ins} {st en : Int} {r r' : Wd} (h0 : 0 ≤ st) (hlt : st < en) (hc : ∀ a, st ≤ a → a < en → c a = c' a) (h : Out c st en r) (h' : Out c' st en r') : r = r' := by
 have Lv : ∀ (D D' : List Int) (b b' : Int), fQ c st en D [] b → fQ c' st en D' [] b' → (∀ x, x ∈ D ↔ x ∈ D') ∧ b = b' := fun D D' b b' h1 h2 => fQ.same h0 hlt hc h1 h2
 cases h with
 | bad D b hb hR =>
  cases h' with
  | bad D' b' hb' J3 => rw [(Lv _ _ _ _ hR J3).2]
  | ok D' J3 => have := (Lv _ _ _ _ hR J3).2; omega
 | ok D hR =>
  cases h' with
  | bad D' b' hb' J3 => have := (Lv _ _ _ _ hR J3).2; omega
  | ok D' J3 =>
   obtain ⟨hm, _⟩ := Lv _ _ _ _ hR J3
   have hD : ∀ a ∈ D, c a = c' a := fun a ha => by
    have := (hR.dr a ha).range _ _ _ hlt
    exact hc a this.1 this.2
   rw [← Jj hm hD]
   have hL : ∀ p ∈ blk c st D (en - st).toNat, c (p.2 - 1) = c' (p.2 - 1) := fun p hp => hD _ ((mE c st D _).last p hp)
   rw [Az hL, Ay hL]
end
end Go.Proofs.YtlmgkipmfgijiaaGreatDoor
