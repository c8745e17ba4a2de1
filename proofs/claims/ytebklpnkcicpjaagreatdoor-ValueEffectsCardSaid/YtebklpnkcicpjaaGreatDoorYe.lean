/-
  What is proved here: parts bCc, bCd.
-/
import Derived.Test.YtebklpnkcicpjaaGreatDoorYa
import Derived.Test.YtebklpnkcicpjaaGreatDoorYd
import Derived.Test.YtebklpnkcicpjaaGreatDoorYb
import Derived.ChangeSame
import Derived.ChangeVars
import Derived.JoinedOf
import Derived.RowKit
import Derived.Deep.Strs
namespace Go.Proofs.YtebklpnkcicpjaaGreatDoor
set_option linter.unusedVariables false
set_option linter.unusedSimpArgs false
set_option maxRecDepth 100000
set_option maxHeartbeats 8000000
section
open Go.RowKit
def gl (L : List (Int × Int)) : List Value := L.flatMap fun p => [.int .i64 p.1, .int .i64 p.2, .slice none 0 0]
theorem mX (L : List (Int × Int)) : (gl L).length = L.length * 3 := by
 induction L with
 | nil => rfl
 | cons p L ih => simp only [gl, List.flatMap_cons, List.length_append, List.length_cons, List.length_nil] at ih ⊢; omega
theorem iY (L : List (Int × Int)) (a b : Int) : gl (L ++ [(a, b)]) = gl L ++ [.int .i64 a, .int .i64 b, .slice none 0 0] := by simp [gl]
theorem Al (L : List (Int × Int)) (a b t : Int) : (gl (L ++ [(a, b)])).set (L.length * 3 + 1) (.int .i64 t) = gl (L ++ [(a, t)]) := by
 rw [iY, iY, ← mX, List.set_append_right _ _ TX]
 simp
theorem uO (L : List (Int × Int)) (a b : Int) : (gl (L ++ [(a, b)]))[L.length * 3 + 1]? = some (.int .i64 b) := by
 rw [iY, ← mX, List.getElem?_append_right TX]
 simp
structure BM (V wr : World) (gb nb : Nat) (bv : Value) (L : List (Int × Int)) : Prop where
 gV : gb < V.heap.size
 nV : nb < V.heap.size
 gn : gb ≠ nb
 os : wr.os = V.os
 tape : wr.tape = V.tape
 output : wr.output = V.output
 sz : V.heap.size ≤ wr.heap.size
 blk : ∀ k, k < V.heap.size → k ≠ gb → k ≠ nb → wr.heap[k]? = V.heap[k]?
 g : wr.heap[gb]? = some (.cells #[bv, .slice none 0 0] 30 (0, 0))
 num : Im wr nb (x7 L)
 row : wr.ownsRow V.heap.size 36 3 bv L.length (gl L)
theorem BM.below {V wr wr' : World} {gb nb : Nat} {bv : Value} {L : List (Int × Int)} (h : BM V wr gb nb bv L) (hb : Below wr.heap.size wr wr') : BM V wr' gb nb bv L :=
 ⟨h.gV, h.nV, h.gn, hb.os.trans h.os, hb.tape.trans h.tape, hb.output.trans h.output, Nat.le_trans h.sz hb.size, fun k h1 h2 h3 => (hb.block k (by have := h.sz; omega)).trans (h.blk k h1 h2 h3), (hb.block _ (by have := h.sz; have := h.gV; omega)).trans h.g, h.num.below hb h.num.lt, bF h.row hb⟩
theorem xD (w : World) (a b c : Value) (t : TypeId) : ∀ j u, [a, b, c][j]? = some u → (w.alloc (.cells #[a, b, c] t)).cell? ((⟨w.heap.size, 0, none⟩ : Addr).add j) = some u := by
 intro j u h
 have e : (⟨w.heap.size, 0, none⟩ : Addr).add j = ⟨w.heap.size, j, none⟩ := by cases j <;> simp [Addr.add]
 rw [e]
 unfold World.cell?
 rw [heap_alloc_new]
 simpa using h
theorem Ak (L : List (Int × Int)) : jA L (fun _ => .slice none 0 0) = gl L := by
 apply List.ext_getElem?
 intro q
 by_cases hq : q < L.length * 3
 ·obtain ⟨a, b, hb, rfl⟩ : ∃ a b, b < 3 ∧ q = a * 3 + b := ⟨q / 3, q % 3, Nat.mod_lt _ TX, by omega⟩
  have ha : a < L.length := by omega
  rw [fF L _ ha hb]
  have : ∀ (L : List (Int × Int)) (a b : Nat), a < L.length → b < 3 → (gl L)[a * 3 + b]? = [.int .i64 (L.getD a (0, 0)).1, .int .i64 (L.getD a (0, 0)).2, .slice none 0 0][b]? := by
   intro L
   induction L with
   | nil => intro a b h; simp at h
   | cons p L ih =>
    intro a b h hb
    have e : gl (p :: L) = [.int .i64 p.1, .int .i64 p.2, .slice none 0 0] ++ gl L := by simp [gl]
    rw [e]
    cases a with
    | zero => rw [List.getElem?_append_left T9]; simp
    | succ a =>
     rw [List.getElem?_append_right T9]
     have := ih a b (by simp at h; omega) hb
     rw [show (a + 1) * 3 + b - [Value.int .i64 p.1, .int .i64 p.2, .slice none 0 0].length = a * 3 + b by simp; omega, this]
     simp [List.getD]
  exact (this L a b ha hb).symm
 ·rw [List.getElem?_eq_none (by rw [jP]; omega), List.getElem?_eq_none (by rw [mX]; omega)]
theorem sM {w : World} {b : Nat} {o : Obj} (h : w.heap[b]? = some o) : b < w.heap.size := (Array.getElem?_eq_some_iff.1 h).1
theorem JX : (Tryz.prog.info? 36).map (fun i => (i.zero, i.size, i.bytes)) = some (some (.agg #[.int .i64 0, .int .i64 0, .slice none 0 0]), 3, 40) := by kernel_rfl
theorem BM.im {V wr : World} {gb nb x : Nat} {bv : Value} {L : List (Int × Int)} {f : Int → Option Value} (h : BM V wr gb nb bv L) (hx : Im V x f) (h1 : x ≠ gb) (h2 : x ≠ nb) : Im wr x f := hx.keep (h.blk x hx.lt h1 h2)
theorem BM.tX {V wr : World} {gb nb : Nat} {bv : Value} {L : List (Int × Int)} (h : BM V wr gb nb bv L) {j : Nat} (hj : bv.ownBlock = some j) : V.heap.size ≤ j ∧ j < wr.heap.size := h.row.lt j hj
theorem BM.jh {V wr : World} {gb nb g cap : Nat} {M : List (Int × Int)} {a b t : Int} (h : BM V wr gb nb (.slice (some ⟨g, 0, none⟩) (M.length + 1) cap) (M ++ [(a, b)])) : BM V (wr.setCell ⟨g, M.length * 3 + 1, none⟩ (.int .i64 t)) gb nb (.slice (some ⟨g, 0, none⟩) (M.length + 1) cap) (M ++ [(a, t)]) := by
 have hr := h.row
 rw [show (M ++ [(a, b)]).length = M.length + 1 by simp] at hr
 obtain ⟨r1, r2⟩ := hr.stored (M.length * 3 + 1) (.int .i64 t)
 have hg := (h.tX (j := g) rfl)
 have Ja := h.gV
 have H7 := h.nV
 refine ⟨h.gV, h.nV, h.gn, h.os, h.tape, h.output, by simpa using h.sz, fun k h1 h2 h3 => ?_, ?_, ?_, ?_⟩
 ·rw [Below.heap_setCell _ _ _ _ (by show k ≠ g; omega)]; exact h.blk k h1 h2 h3
 ·rw [Below.heap_setCell _ _ _ _ (by show gb ≠ g; omega)]; exact h.g
 ·rw [EO M a t b]
  exact h.num.keep (Below.heap_setCell _ _ _ _ (by show nb ≠ g; omega))
 ·rw [show (M ++ [(a, t)]).length = M.length + 1 by simp, ← Al M a b t]
  exact r1
theorem BM.app {V wr w2 w3 : World} {gb nb : Nat} {bv v' : Value} {L : List (Int × Int)} {a : Int} {o : Obj} (h : BM V wr gb nb bv L) (hm : Im w2 nb (x7 (L ++ [(a, 0)]))) (ho : w2.os = wr.os) (ht : w2.tape = wr.tape) (hp : w2.output = wr.output) (hs : w2.heap.size = wr.heap.size) (hk : ∀ i, i ≠ nb → w2.heap[i]? = wr.heap[i]?)
  (hg : (w2.alloc o).grownBy w3 bv.ownBlock) (hown : w3.ownsRow V.heap.size 36 3 v' (L.length + 1) (gl (L ++ [(a, 0)]))) : BM V (w3.setCell ⟨gb, 0, none⟩ v') gb nb v' (L ++ [(a, 0)]) := by
 have Ja := h.gV
 have H7 := h.nV
 have hgn := h.gn
 have hsz := h.sz
 have hrl : ∀ j, bv.ownBlock = some j → V.heap.size ≤ j := fun j hj => (h.tX hj).1
 have hb : ∀ k, k < V.heap.size → w3.heap[k]? = w2.heap[k]? := fun k hk => by
  rw [hg.block k Uc (fun e => by have := hrl k e.symm; omega), heap_alloc_old _ _ TX]
 have hg3 : w3.heap[gb]? = some (.cells #[bv, .slice none 0 0] 30 (0, 0)) := (hb gb Ja).trans ((hk gb hgn).trans h.g)
 have M8 := hg.size
 rw [World.size_alloc] at M8
 refine ⟨h.gV, h.nV, h.gn, ?_, ?_, ?_, by simp; omega, fun k h1 h2 h3 => ?_, ?_, ?_, ?_⟩
 ·exact hg.os.trans (ho.trans h.os)
 ·exact hg.tape.trans (ht.trans h.tape)
 ·exact hg.output.trans (hp.trans h.output)
 ·rw [Below.heap_setCell _ _ _ _ (by exact h2)]
  exact (hb k h1).trans ((hk k h3).trans (h.blk k h1 h2 h3))
 ·have := heap_setCell_same w3 gb 0 _ _ v' hg3
  rw [this]
  rfl
 ·exact hm.keep ((Below.heap_setCell _ _ _ _ (by exact Ne.symm hgn)).trans (hb nb H7))
 ·rw [show (L ++ [(a, (0 : Int))]).length = L.length + 1 by simp]
  refine ownsRow_setCell_other hown ?_ _
  intro e
  have := (hown.lt gb e).1
  omega
theorem AG (cv ev : Value) (sh lk : Int) (n : Nat) (cd : Nat → Int) (aY : List tF) (task : Int) (w : World) (T : fM w) (HW : Words w cv n cd) (HE : td w ev aY) :
  Calls Tryz.prog 19 #[.agg #[cv, ev, .int .i64 sh, .int .i64 lk], .int .i64 task] w fun e w' =>
   (¬ nJ n cd aY sh lk ∧ e = .returned (.tuple #[.agg #[.slice none 0 0, .slice none 0 0], .int .i64 (-1), .int .i64 3]) ∧ Below w.heap.size w w') ∨
   (nJ n cd aY sh lk ∧ (task < 0 ∨ (aY.length : Int) ≤ task) ∧ e = .returned (.tuple #[.agg #[.slice none 0 0, .slice none 0 0], .int .i64 (-1), .int .i64 2]) ∧ Below w.heap.size w w') ∨
   (nJ n cd aY sh lk ∧ ∃ (k : Nat) (en : tF) (D : List Int) (bad : Int), task = (k : Int) ∧ aY[k]? = some en ∧ 0 ≤ bad ∧ fJ (aF cd) en.st en.en D [] bad ∧ e = .returned (.tuple #[.agg #[.slice none 0 0, .slice none 0 0], .int .i64 bad, .int .i64 10]) ∧ Below w.heap.size w w') ∨
   (nJ n cd aY sh lk ∧ ∃ (k : Nat) (en : tF) (D : List Int) (L : List (Int × Int)) (bv pv : Value), task = (k : Int) ∧ aY[k]? = some en ∧ fJ (aF cd) en.st en.en D [] (-1) ∧ blk (aF cd) en.st D (en.en - en.st).toNat = L ∧ e = .returned (.tuple #[.agg #[bv, pv], .int .i64 (-1), .int .i64 0]) ∧ jH w' bv (dS (aF cd) L) ∧ vw w' pv (gD (aF cd) L) ∧ Below w.heap.size w w') := by
 have hn := HW.le
 obtain ⟨A, cap, hcv, hc1, hc2, hrd⟩ := HW.at_
 obtain ⟨EA, jB, hev, he1, he2, Ns⟩ := HE.at_
 have h63 : aY.length ≤ 2 ^ 63 - 1 := by unfold maxLen at he2; omega
 have DN := UZ HW
 have FV := UZ HE
 have HT := UZ T
 clear hrd Ns HW HE T
 subst hcv hev
 obtain ⟨V0, gP⟩ : ∃ V0, (w.alloc (.cells #[.slice A n cap, .slice EA aY.length jB, .int .i64 sh, .int .i64 lk] 25)).alloc (.cells #[.slice none 0 0, .slice none 0 0] 30) = V0 := ⟨_, rfl⟩
 have b0 : Below w.heap.size w V0 := gP ▸ ((Below.refl _ _).alloc (Nat.le_refl _) _).alloc T4 _
 have s0 : w.heap.size + 2 = V0.heap.size := by rw [← gP]; simp
 have k0 : V0.heap[w.heap.size]? = some (.cells #[.slice A n cap, .slice EA aY.length jB, .int .i64 sh, .int .i64 lk] 25) := by rw [← gP, heap_alloc_old _ _ T4]; exact heap_alloc_new _ _
 have k1 : V0.heap[w.heap.size + 1]? = some (.cells #[.slice none 0 0, .slice none 0 0] 30) := by rw [← gP]; exact bg _ _ T4
 have y0 : V0.cell? ⟨w.heap.size, 0, none⟩ = some (.slice A n cap) := by simp [World.cell?, k0]
 have y1 : V0.cell? ⟨w.heap.size, 1, none⟩ = some (.slice EA aY.length jB) := by simp [World.cell?, k0]
 have y2 : V0.cell? ⟨w.heap.size, 2, none⟩ = some (.int .i64 sh) := by simp [World.cell?, k0]
 have y3 : V0.cell? ⟨w.heap.size, 3, none⟩ = some (.int .i64 lk) := by simp [World.cell?, k0]
 have K0 := UZ k0
 have K1 := UZ k1
 have B0 := UZ b0
 have Lz := UZ (Aw (.slice A n cap) (.slice EA aY.length jB) sh lk n cd aY V0 (HT.out.below b0) (DN.out.below b0) (FV.out.below b0))
 have f0 : V0.frozen? ⟨w.heap.size + 1, 0, none⟩ = false := by simp [World.frozen?, k1]
 have f1 : V0.frozen? ⟨w.heap.size + 1, 1, none⟩ = false := by simp [World.frozen?, k1]
 have r0 : V0.cell? ⟨w.heap.size + 1, 0, none⟩ = some (.slice none 0 0) := by simp [World.cell?, k1]
 have r1 : V0.cell? ⟨w.heap.size + 1, 1, none⟩ = some (.slice none 0 0) := by simp [World.cell?, k1]
 have s1 : w.heap.size + 1 < V0.heap.size := by omega
 have s2 : w.heap.size < V0.heap.size := by omega
 clear k0 k1 b0
 by_cases hg : nJ n cd aY sh lk
 case neg =>
  have HC := UZ (show Calls Tryz.prog 53 #[.agg #[.slice A n cap, .slice EA aY.length jB, .int .i64 sh, .int .i64 lk]] V0 fun e w' => ∃ r, e = .returned (.int .i64 r) ∧ (r != 0) = true ∧ ∃ y : Ext V0, y.w = w' from Lz.out.mono fun e w' ⟨⟨r, h1, h2⟩, h3⟩ => ⟨r, h1, by simp; intro h; exact hg (h2.1 h), ⟨w', h3⟩, rfl⟩)
  go_enter Tryz.func19, Tryz.ntmps19
  go_upto_region 1 with fail
  clear gP
  go_wp2_with (go_at_call 53; refine HC.out.mono ?_; rintro e w' ⟨r, rfl, dr, y, rfl⟩)
  refine bodyPost_ret (v := .tuple #[.agg #[.slice none 0 0, .slice none 0 0], .int .i64 (-1), .int .i64 3]) Ut rfl (.inl ⟨hg, rfl, ?_⟩)
  refine Below.setCell (Below.setCell (Ext.below B0.out TX y) ?_ _) ?_ _ <;> simp
 have HC := UZ (show Calls Tryz.prog 53 #[.agg #[.slice A n cap, .slice EA aY.length jB, .int .i64 sh, .int .i64 lk]] V0 fun e w' => e = .returned (.int .i64 0) ∧ ∃ y : Ext V0, y.w = w' from Lz.out.mono fun e w' ⟨⟨r, h1, h2⟩, h3⟩ => ⟨by rw [h1, h2.2 hg], ⟨w', h3⟩, rfl⟩)
 have Jr := UZ hg
 clear hg Lz
 by_cases ht : task < 0 ∨ (aY.length : Int) ≤ task
 case pos =>
  go_enter Tryz.func19, Tryz.ntmps19
  go_upto_region 1 with fail
  clear gP
  by_cases h0 : task < 0
  ·have d0 : decide (task < 0) = true := decide_eq_true h0
   go_wp2_with (go_at_call 53; refine HC.out.mono ?_; rintro e w' ⟨rfl, y, rfl⟩)
   refine bodyPost_ret (v := .tuple #[.agg #[.slice none 0 0, .slice none 0 0], .int .i64 (-1), .int .i64 2]) Ut rfl (.inr (.inl ⟨Jr.out, ht, rfl, ?_⟩))
   refine Below.setCell (Below.setCell (Ext.below B0.out TX y) ?_ _) ?_ _ <;> simp
  ·have d0 : decide (task < 0) = false := decide_eq_false h0
   have d1 : decide ((aY.length : Int) ≤ task) = true := decide_eq_true TX
   go_wp2_with (go_at_call 53; refine HC.out.mono ?_; rintro e w' ⟨rfl, y, rfl⟩)
   refine bodyPost_ret (v := .tuple #[.agg #[.slice none 0 0, .slice none 0 0], .int .i64 (-1), .int .i64 2]) Ut rfl (.inr (.inl ⟨Jr.out, ht, rfl, ?_⟩))
   refine Below.setCell (Below.setCell (Ext.below B0.out TX y) ?_ _) ?_ _ <;> simp
 obtain ⟨k, rfl⟩ : ∃ k : Nat, task = (k : Int) := ⟨task.toNat, by omega⟩
 have hk : k < aY.length := by omega
 have d0 : decide ((k : Int) < 0) = false := decide_eq_false TX
 have d1 : decide ((aY.length : Int) ≤ (k : Int)) = false := decide_eq_false TX
 obtain ⟨e, b, off, he, rfl, hbl, c0, c1, c2, c3⟩ := FV.out.cells B0.out hk
 have hem := List.mem_of_getElem? he
 obtain ⟨g1, g2, g3⟩ := Jr.out.ch.bounds e hem
 have hb2 : b < V0.heap.size := by omega
 have hcd := Jr.out.code
 clear ht FV
 go_enter Tryz.func19, Tryz.ntmps19
 go_upto_region 1 with fail
 clear gP
 go_upto_region 6 with (go_at_call 53; refine HC.out.mono ?_; rintro e w' ⟨rfl, y, rfl⟩)
 obtain ⟨W1, hW1⟩ : ∃ W1, y.w.alloc (.cells #[.string e.nm, .int .i64 e.st, .int .i64 e.en, .int .i64 e.da] 115) = W1 := ⟨_, rfl⟩
 have bW : Below V0.heap.size V0 W1 := hW1 ▸ y.h.alloc y.h.size _
 have kW : W1.heap[y.w.heap.size]? = some (.cells #[.string e.nm, .int .i64 e.st, .int .i64 e.en, .int .i64 e.da] 115) := hW1 ▸ heap_alloc_new _ _
 have sW : y.w.heap.size < W1.heap.size := by rw [← hW1]; simp
 have sy := y.h.size
 rw [hW1]
 obtain ⟨q, hq⟩ : ∃ q, y.w.heap.size = q := ⟨_, rfl⟩
 rw [hq] at kW sW sy ⊢
 have B1 := UZ (B0.out.trans (bW.mono TX))
 have DU := UZ (y8 (.slice A n cap) (.slice (some ⟨b, off, none⟩) aY.length jB) sh lk e.nm e.st e.en e.da n cd W1 (HT.out.below B1.out) (DN.out.below B1.out) g1 g2 g3)
 have z0 : W1.cell? ⟨w.heap.size, 0, none⟩ = some (.slice A n cap) := by rw [bW.cell (p := ⟨w.heap.size, 0, none⟩) s2]; exact y0
 have z1 : W1.cell? ⟨w.heap.size, 1, none⟩ = some (.slice (some ⟨b, off, none⟩) aY.length jB) := by rw [bW.cell (p := ⟨w.heap.size, 1, none⟩) s2]; exact y1
 have z2 : W1.cell? ⟨w.heap.size, 2, none⟩ = some (.int .i64 sh) := by rw [bW.cell (p := ⟨w.heap.size, 2, none⟩) s2]; exact y2
 have z3 : W1.cell? ⟨w.heap.size, 3, none⟩ = some (.int .i64 lk) := by rw [bW.cell (p := ⟨w.heap.size, 3, none⟩) s2]; exact y3
 have v0 : W1.cell? ⟨q, 0, none⟩ = some (.string e.nm) := by simp [World.cell?, kW]
 have v1 : W1.cell? ⟨q, 1, none⟩ = some (.int .i64 e.st) := by simp [World.cell?, kW]
 have v2 : W1.cell? ⟨q, 2, none⟩ = some (.int .i64 e.en) := by simp [World.cell?, kW]
 have v3 : W1.cell? ⟨q, 3, none⟩ = some (.int .i64 e.da) := by simp [World.cell?, kW]
 have kR : W1.heap[w.heap.size + 1]? = some (.cells #[.slice none 0 0, .slice none 0 0] 30) := (bW.block _ s1).trans K1.out
 have s3 : w.heap.size + 1 < W1.heap.size := by omega
 have KW := UZ kW
 have KR := UZ kR
 clear hW1 hq kW kR bW y y0 y1 y2 y3 r0 r1 f0 f1 c0 c1 c2 c3 HC K0 K1 B0 d0 d1
 go_upto_region 7 with (go_at_call 54; refine DU.out.mono ?_; rintro e' W2 ⟨D, bad, fb, rfl, hfb, Px, PJ, wT⟩)
 have I2 := (wT.block _ s3).trans KR.out
 have OP := (wT.block _ sW).trans KW.out
 have r0 : W2.cell? ⟨w.heap.size + 1, 0, none⟩ = some (.slice none 0 0) := by simp [World.cell?, I2]
 have r1 : W2.cell? ⟨w.heap.size + 1, 1, none⟩ = some (.slice none 0 0) := by simp [World.cell?, I2]
 have f0 : W2.frozen? ⟨w.heap.size + 1, 0, none⟩ = false := by simp [World.frozen?, I2]
 have f1 : W2.frozen? ⟨w.heap.size + 1, 1, none⟩ = false := by simp [World.frozen?, I2]
 have B2 := UZ (B1.out.trans (wT.mono TX))
 have tu := UZ Px
 have Q7 := wT.size
 have Mu := UZ PJ
 have Jn := UZ OP
 have Qf := UZ I2
 clear Px z0 z1 z2 z3 v0 v1 v2 v3 KW KR B1 DU wT PJ I2 OP
 rcases Classical.em (bad = -1) with hbd | hbd
 case inr =>
  have Pr : 0 ≤ bad := by
   rcases tu.out.b with h | h
   ·exact absurd h.1 hbd
   ·have := (tu.out.dr bad h.1).range _ _ _ g2
    omega
  have dd : decide (0 ≤ bad) = true := decide_eq_true Pr
  go_wp2_with fail
  refine bodyPost_ret (v := .tuple #[.agg #[.slice none 0 0, .slice none 0 0], .int .i64 bad, .int .i64 10]) Ut rfl (.inr (.inr (.inl ⟨Jr.out, k, e, D, bad, rfl, he, Pr, tu.out, rfl, ?_⟩)))
  refine Below.setCell (Below.setCell B2.out ?_ _) ?_ _ <;> simp
 subst hbd
 have NC : ∀ a ∈ D, (0 ≤ a ∧ a ≤ 1000000) ∧ (-1000000 ≤ (aF cd a).aR ∧ (aF cd a).aR ≤ 1000000) := fun a ha => by
  have h1 := (tu.out.dr a ha).range _ _ _ g2
  have h2 := pN (cd a.toNat) (DN.out.wd a.toNat TX).1
  unfold aF
  omega
 have FR := UZ (ux e.nm e.st e.en e.da fb (aF cd) D W2 TX NC Mu.out)
 have Ta := UZ NC
 have v0 : W2.cell? ⟨q, 0, none⟩ = some (.string e.nm) := by simp [World.cell?, Jn.out]
 have v1 : W2.cell? ⟨q, 1, none⟩ = some (.int .i64 e.st) := by simp [World.cell?, Jn.out]
 have v2 : W2.cell? ⟨q, 2, none⟩ = some (.int .i64 e.en) := by simp [World.cell?, Jn.out]
 have v3 : W2.cell? ⟨q, 3, none⟩ = some (.int .i64 e.da) := by simp [World.cell?, Jn.out]
 clear r0 r1 f0 f1 NC
 go_upto_region 10 with (go_at_call 55; refine FR.out.mono ?_; rintro e' W3 ⟨mb, mg, rfl, hmb, PE, NM, hb3⟩)
 have mk := fun W : World => (show (Instr.makeMap 121 none).run Tryz.prog W = .ok (.map (some W.heap.size)) (W.alloc (.map #[] 0)) from rfl)
 obtain ⟨V, hV⟩ : ∃ V, (W3.alloc (.cells #[.slice none 0 0, .slice none 0 0] 30)).alloc (.map #[] 0) = V := ⟨_, rfl⟩
 have sV : W3.heap.size + 2 = V.heap.size := by rw [← hV]; simp
 have bV : Below W3.heap.size W3 V := hV ▸ ((Below.refl _ _).alloc (Nat.le_refl _) _).alloc T4 _
 have kg : V.heap[W3.heap.size]? = some (.cells #[.slice none 0 0, .slice none 0 0] 30) := by rw [← hV, heap_alloc_old _ _ T4]; exact heap_alloc_new _ _
 have kn : Im V (W3.heap.size + 1) (x7 []) := by
  rw [← hV, EP]
  have := Im.made (W3.alloc (.cells #[.slice none 0 0, .slice none 0 0] 30))
  rwa [World.size_alloc] at this
 have OG := hb3.size
 have MS : V.heap[q]? = _ := (bV.block _ TX).trans ((hb3.block _ TX).trans Jn.out)
 have OQ : V.heap[w.heap.size + 1]? = _ := (bV.block _ TX).trans ((hb3.block _ TX).trans Qf.out)
 have PN := Mu.out.lt
 have L0 : Im V fb (qd (aF cd) D) := Mu.out.keep ((bV.block _ TX).trans (hb3.block _ PN))
 have PD := NM.lt
 have PG : Im V mb mg := NM.keep (bV.block _ PD)
 have NR : Below w.heap.size w V := B2.out.trans ((hb3.mono (by have := B2.out.size; omega)).trans (bV.mono (by have := B2.out.size; omega)))
 have u1 : V.cell? ⟨q, 1, none⟩ = some (.int .i64 e.st) := by simp [World.cell?, MS]
 have Sr := UZ MS
 have Qe := UZ OQ
 have QI := UZ L0
 have Oo := UZ PG
 have B3 := UZ NR
 have Mz := UZ (show BM V V W3.heap.size (W3.heap.size + 1) (.slice none 0 0) (blk (aF cd) e.st D 0) from ⟨by omega, by omega, by omega, rfl, rfl, rfl, Nat.le_refl _, fun _ _ _ _ => rfl, kg, kn, World.ownsRow_nil _ _ _ _⟩)
 have QB := UZ PE
 have v1' : W3.cell? ⟨q, 1, none⟩ = some (.int .i64 e.st) := by rw [hb3.cell (p := ⟨q, 1, none⟩) (by show q < _; omega)]; exact v1
 clear MS OQ L0 PG NR kg kn bV NM PE hb3 v0 v1 v2 v3 FR Jn Qf Mu
 go_upto_region 13 with fail
 clear hV
 obtain ⟨gb, hgb⟩ : ∃ gb, W3.heap.size = gb := ⟨_, rfl⟩
 rw [hgb] at Mz sV OG ⊢
 obtain ⟨nb, hnb⟩ : ∃ nb, gb + 1 = nb := ⟨_, rfl⟩
 rw [hnb] at Mz ⊢
 have hfg : fb < gb := by omega
 have TG : mb < gb := by omega
 obtain ⟨i1, hi1, hy0, hy1, hy2⟩ := info_parts JX
 have TC : q < gb := by omega
 have Ty : w.heap.size + 1 < gb := by omega
 have Kl : e.st ∈ D := by rcases tu.out.s with h | h; exact h; cases h
 clear u1 v1' mk hk hbl hb2 sy sW s3 Q7 hfb hmb PN PD OG hgb hc1 hc2 he1 he2 h63 s0 s1 s2
 go_loopw [13, 14, 15] (fun a13 a14 a15 wr => ∃ (m : Nat) (bv : Value), a13 = .int .i64 (e.st + (m : Int)) ∧ e.st + (m : Int) ≤ e.en ∧ BM V wr gb nb bv (blk (aF cd) e.st D m)) (fun a13 _ _ _ => (e.en - intOf a13).toNat)
 case atStart => exact ⟨0, _, by simp, by simp; omega, Mz.out⟩
 case round =>
  obtain ⟨m, bv, rfl, hme, hM⟩ := hrel
  have HM := UZ hM
  clear hM Mz
  have kq := (HM.out.blk q TX TX TX).trans Sr.out
  have v2 : wr.cell? ⟨q, 2, none⟩ = some (.int .i64 e.en) := by simp [World.cell?, kq]
  have hF := HM.out.im QI.out TX TX
  have Ki := HM.out.im Oo.out TX TX
  have PW := mA (aF cd) e.st D m
  have D5 := UZ PW
  have hbl := yo (aF cd) e.st D m
  clear kq PW
  by_cases hlt : e.st + (m : Int) < e.en
  ·-- Tg
   have dl : decide (e.st + (m : Int) < e.en) = true := decide_eq_true hlt
   have wr1 : IntKind.i64.wrap (e.st + (m : Int) + 1) = e.st + (m : Int) + 1 := IntWalk.i64_in _ TX
   have hm4 : m ≤ 4096 := by omega
   by_cases hD : e.st + (m : Int) ∈ D
   ·have l1 := hF.ie (P := Tryz.prog) (kt := 3) (t := 116) (e := 64) Tryz.underlying3 Tryz.underlying116 (k := e.st + (m : Int)) (v := (aF cd (e.st + m)).val) (by unfold qd; rw [if_pos hD]) true
    obtain ⟨i, hi⟩ : ∃ i, aF cd (e.st + m) = i := ⟨_, rfl⟩
    rw [hi] at l1
    simp only [↓reduceIte, bB.val, kv] at l1
    obtain ⟨X1, NI⟩ : ∃ X1, wr.alloc (.cells #[.int .u8 i.op, .int .i64 i.a, .int .i64 i.b, .int .i64 i.c, .int .i64 i.aR] 64) = X1 := ⟨_, rfl⟩
    have b1 : Below wr.heap.size wr X1 := NI ▸ (Below.refl _ _).alloc (Nat.le_refl _) _
    have vC := UZ (HM.out.below b1)
    have Kk : Im X1 mb mg := Ki.below b1 Ki.lt
    clear hi hF Ki
    by_cases hl : lQ (aF cd) e.st D (e.st + m) = true
    ·have l2 := Kk.ie (P := Tryz.prog) (kt := 3) (t := 119) (e := 4) Tryz.underlying3 Tryz.underlying119 (k := e.st + (m : Int)) (v := .bool true) (by
      rcases QB.out.lead (e.st + m) with h | h
      ·exact h.2
      ·exact absurd ((gB _ _ _ _).1 hl) h.1) false
     simp only [Bool.false_eq_true, ↓reduceIte, kv] at l2
     have Bj := UZ (show blk (aF cd) e.st D (m + 1) = blk (aF cd) e.st D m ++ [(e.st + m, e.st + m + 1)] by rw [blk, if_pos hD, if_pos hl])
     obtain ⟨L, hL⟩ : ∃ L, blk (aF cd) e.st D m = L := ⟨_, rfl⟩
     rw [hL] at Bj vC D5 hbl HM
     have xU := UZ (show ∀ p ∈ L, p.1 ≠ e.st + m from fun p hp => by have := D5.out.lo p hp; omega)
     clear hL hl hD HM Kk
     go_upto_region 18 with fail
     clear l1 l2 NI
     obtain ⟨bA, xH, rfl⟩ : ∃ bA xH, bv = .slice bA L.length xH := by
      rcases vC.out.row.2 with ⟨h, h'⟩ | ⟨g, cap', cur, h, _⟩
      ·exact ⟨_, _, by rw [h, h']⟩
      ·exact ⟨_, _, h⟩
     have t0 : X1.cell? ⟨gb, 0, none⟩ = some (.slice bA L.length xH) := by simp [World.cell?, vC.out.g]
     obtain ⟨X2, l3, m3, o1, o2, o3, o4, o5⟩ := vC.out.num.put (P := Tryz.prog) (kt := 3) (t := 121) (e := 3) Tryz.underlying3 Tryz.underlying121 (k := e.st + (m : Int)) (gN TX TX) (.int .i64 (L.length : Int))
     simp only [kv] at l3
     rw [Cs L (e.st + m) 0 xU.out] at m3
     have JG := (vC.out.row).kept (gj o1 o2 o3 o4 o5) (.inr (fun e' => by have := vC.out.tX e'; have := vC.out.nV; omega))
     have Fe : gb ≠ nb := by omega
     have NV := (o5 gb Fe).trans vC.out.g
     have t1 : X2.cell? ⟨gb, 0, none⟩ = some (.slice bA L.length xH) := by simp [World.cell?, NV]
     have t2 : X2.frozen? ⟨gb, 0, none⟩ = false := by simp [World.frozen?, NV]
     have Qs := UZ JG
     have FU := UZ (And.intro m3 (And.intro o1 (And.intro o2 (And.intro o3 (And.intro o4 o5)))))
     have Ag : gb < X2.heap.size := by have := vC.out.sz; omega
     have NK : V.heap.size ≤ X2.heap.size := by have := vC.out.sz; omega
     have Ol := UZ (show some gb ≠ Value.ownBlock (.slice bA L.length xH) from fun e' => by have := vC.out.tX e'.symm; omega)
     clear JG NV m3 o1 o2 o3 o4 o5 Fe
     go_upto_region 20 with (at_builtin; refine wpList_append_own_at _ rfl (.tmp 79) (.tmp 82) 27 rfl V.heap.size 36 i1 _ 3 40 Tryz.underlying27 hi1 hy0 hy1 hy2 rfl T1 (.slice bA L.length xH) _ _ rfl (Qs.out.alloc _) ⟨X2.heap.size, 0, none⟩ 1 1 [.int .i64 (e.st + m), .int .i64 0, .slice none 0 0] rfl rfl (xD _ _ _ _ _) T2 T3 TX Uc ?_; intro v' W' hown' hgrow _ rD; obtain ⟨g', cap', rfl⟩ := ownsRow_succ hown'; have hc1 := hgrow.cell (a := ⟨gb, 0, none⟩) (v := .slice bA L.length xH) Ug Ol.out; have hf1 : W'.frozen? ⟨gb, 0, none⟩ = false := (World.frozen?_of_block (hgrow.block gb T9 Ol.out)).trans Ug)
     have Kj := vC.out.app (a := e.st + m) FU.out.1 FU.out.2.1 FU.out.2.2.1 FU.out.2.2.2.1 FU.out.2.2.2.2.1 FU.out.2.2.2.2.2 hgrow (by rw [iY]; exact hown')
     obtain ⟨X4, Pv⟩ : ∃ X4, W'.setCell ⟨gb, 0, none⟩ (.slice (some ⟨g', 0, none⟩) (L.length + 1) cap') = X4 := ⟨_, rfl⟩
     rw [Pv] at Kj ⊢
     have hrw := Kj.row
     rw [show (L ++ [(e.st + (m : Int), (0 : Int))]).length = L.length + 1 by simp] at hrw
     have t3 : X4.cell? ⟨gb, 0, none⟩ = some (.slice (some ⟨g', 0, none⟩) (L.length + 1) cap') := by simp [World.cell?, Kj.g]
     have t4 : X4.cell? ⟨g', L.length * 3 + 1, none⟩ = some (.int .i64 0) := by rw [hrw.cellAt _ TX]; exact uO L _ _
     have t5 : X4.frozen? ⟨g', L.length * 3 + 1, none⟩ = false := hrw.frozenAt _
     have RL : L.length + 1 ≤ cap' := by
      rcases hrw.2 with ⟨h, _⟩ | ⟨_, _, _, h, _, _, h2, _⟩
      ·cases h
      ·cases h; exact h2
     have SU := UZ Kj
     clear Pv Kj hrw hc1 hf1 rD hgrow hown' t0 t1 t2 l3 FU Qs Ol Ag NK
     go_wp2_with fail
     go_roundw
     case rel =>
      refine ⟨m + 1, .slice (some ⟨g', 0, none⟩) (L.length + 1) cap', by rw [show ((m + 1 : Nat) : Int) = (m : Int) + 1 by omega, Int.add_assoc], by omega, ?_⟩
      rw [Bj.out]
      exact SU.out.jh
     case measure => simp [intOf]; omega
    ·have l2 := Kk.mQ (P := Tryz.prog) (kt := 3) (t := 119) (e := 4) Tryz.underlying3 Tryz.underlying119 (AH X1) (k := e.st + (m : Int)) (gN TX TX) (by
      rcases QB.out.lead (e.st + m) with h | h
      ·exact absurd ((gB _ _ _ _).2 h.1) hl
      ·exact h.2) false
     simp only [Bool.false_eq_true, ↓reduceIte, kv] at l2
     have hm0 : 0 < m := by
      rcases Nat.eq_zero_or_pos m with h | h
      ·subst h
       exact absurd (by simpa using wL (aF cd) e.st D) hl
      ·exact h
     obtain ⟨M, pa, pb, hL⟩ := mM _ (D5.out.ne Kl hm0)
     have Bj := UZ (show blk (aF cd) e.st D (m + 1) = M ++ [(pa, e.st + m + 1)] by rw [blk, if_pos hD, if_neg hl, hL, fX])
     rw [hL] at vC hbl
     clear hL hl hD HM Kk D5
     have hrw := vC.out.row
     rw [show (M ++ [(pa, pb)]).length = M.length + 1 by simp] at hrw
     obtain ⟨g', cap', rfl⟩ := ownsRow_succ hrw
     have t3 : X1.cell? ⟨gb, 0, none⟩ = some (.slice (some ⟨g', 0, none⟩) (M.length + 1) cap') := by simp [World.cell?, vC.out.g]
     have t4 : X1.cell? ⟨g', M.length * 3 + 1, none⟩ = some (.int .i64 pb) := by rw [hrw.cellAt _ TX]; exact uO M _ _
     have t5 : X1.frozen? ⟨g', M.length * 3 + 1, none⟩ = false := hrw.frozenAt _
     have RL : M.length + 1 ≤ cap' := by
      rcases hrw.2 with ⟨h, _⟩ | ⟨_, _, _, h, _, _, h2, _⟩
      ·cases h
      ·cases h; exact h2
     have RM : M.length + 1 ≤ m := by simpa using hbl
     clear hrw hbl
     go_upto_region 20 with fail
     clear l1 l2 NI
     go_wp2_with fail
     go_roundw
     case rel =>
      refine ⟨m + 1, .slice (some ⟨g', 0, none⟩) (M.length + 1) cap', by rw [show ((m + 1 : Nat) : Int) = (m : Int) + 1 by omega, Int.add_assoc], by omega, ?_⟩
      rw [Bj.out]
      exact vC.out.jh
     case measure => simp [intOf]; omega
   ·have l1 := hF.mQ (P := Tryz.prog) (kt := 3) (t := 116) (e := 64) Tryz.underlying3 Tryz.underlying116 (uE wr) (k := e.st + (m : Int)) (gN TX TX) (by unfold qd; rw [if_neg hD]) true
    simp only [↓reduceIte, kv] at l1
    have Bj := UZ (show blk (aF cd) e.st D (m + 1) = blk (aF cd) e.st D m by rw [blk, if_neg hD])
    clear hD hF Ki
    go_wp2_with fail
    go_roundw
    case rel =>
     refine ⟨m + 1, bv, by rw [show ((m + 1 : Nat) : Int) = (m : Int) + 1 by omega, Int.add_assoc], by omega, ?_⟩
     rw [Bj.out]
     exact HM.out.below ((Below.refl _ _).alloc (Nat.le_refl _) _)
    case measure => simp [intOf]; omega
  ·-- Tf
   have dl : decide (e.st + (m : Int) < e.en) = false := decide_eq_false hlt
   have QA := UZ (show m = (e.en - e.st).toNat by omega)
   have hm0 : 0 < m := by omega
   clear hF Ki
   obtain ⟨L, hL⟩ : ∃ L, blk (aF cd) e.st D m = L := ⟨_, rfl⟩
   rw [hL] at HM hbl D5
   have FR := UZ hL
   have hn0 : 0 < L.length := List.length_pos_iff.2 (D5.out.ne Kl hm0)
   have hL4 : L.length ≤ 4096 := by omega
   obtain ⟨g, cN, rfl⟩ : ∃ g cN, bv = .slice (some ⟨g, 0, none⟩) L.length cN := by
    rcases HM.out.row.2 with ⟨h, h'⟩ | ⟨g, cap', cur, h, _⟩
    ·omega
    ·exact ⟨_, _, h⟩
   have t0 : wr.cell? ⟨gb, 0, none⟩ = some (.slice (some ⟨g, 0, none⟩) L.length cN) := by simp [World.cell?, HM.out.g]
   obtain ⟨i2, hi2, hs0, hs1, hs2⟩ := info_parts Ge
   obtain ⟨U1, lm, si, gr1⟩ := run_make_full (P := Tryz.prog) wr V.heap.size 28 34 i2 (.slice none 0 0) 1 Tryz.underlying28 hi2 hs0 hs1 .i64 .i64 L.length (by rw [hs2]; omega) T3 HM.out.sz
   rw [Nat.mul_one, show (Value.slice none 0 0).cells = #[Value.slice none 0 0] from rfl, toList_madeCells_one] at si
   have gU : U1.heap[gb]? = _ := (gr1.block gb (by have := HM.out.sz; have := HM.out.gV; omega) T4).trans HM.out.g
   have u0 : U1.cell? ⟨gb, 0, none⟩ = some (.slice (some ⟨g, 0, none⟩) L.length cN) := by simp [World.cell?, gU]
   have u1 : U1.cell? ⟨gb, 1, none⟩ = some (.slice none 0 0) := by simp [World.cell?, gU]
   have u2 : U1.frozen? ⟨gb, 1, none⟩ = false := by simp [World.frozen?, gU]
   clear hL hlt hme hbl
   go_upto_region 23 with fail
   obtain ⟨pg, J2⟩ : ∃ pg, wr.heap.size = pg := ⟨_, rfl⟩
   rw [J2] at si ⊢
   obtain ⟨U2, yb⟩ : ∃ U2, U1.setCell ⟨gb, 1, none⟩ (.slice (some ⟨pg, 0, none⟩) L.length L.length) = U2 := ⟨_, rfl⟩
   have bN : BN V U2 gb nb g cN pg L (fun _ => .slice none 0 0) (dK (aF cd) L 0 []) := by
    have hgr := HM.out.tX (j := g) rfl
    have TD := si.lt pg rfl
    have hz := HM.out.sz
    have Ja := HM.out.gV
    have H7 := HM.out.nV
    have gs := gr1.size
    have sm : ∀ k, k < V.heap.size → k ≠ gb → U2.heap[k]? = wr.heap[k]? := fun k h1 h2 => by
     rw [← yb, Below.heap_setCell _ _ _ _ h2]
     exact gr1.block k TX T4
    refine ⟨Ja, H7, HM.out.gn, ?_, ?_, ?_, ?_, fun k h1 h2 h3 => (sm k h1 h2).trans (HM.out.blk k h1 h2 h3), ?_, HM.out.num.keep (sm nb H7 (Ne.symm HM.out.gn)), ?_, ?_, fun i hi => ?_, fun i j hi hj _ q hq => by cases hq⟩
    ·rw [← yb]; exact gr1.os.trans HM.out.os
    ·rw [← yb]; exact gr1.tape.trans HM.out.tape
    ·rw [← yb]; exact gr1.output.trans HM.out.output
    ·rw [← yb]; simp; omega
    ·rw [← yb, heap_setCell_same U1 gb 1 _ _ _ gU]
     rfl
    ·rw [Ak, ← yb]
     exact ownsRow_setCell_other (HM.out.row.kept gr1 (.inr (by simp [Value.ownBlock]))) UA _
    ·rw [← yb]
     have e : ((List.range L.length).map fun i => (fun _ => Value.slice none 0 0) (L.length + i)) = List.replicate L.length (Value.slice none 0 0) := by
      apply List.ext_getElem?
      intro q
      by_cases hq : q < L.length
      ·simp [hq]
      ·simp [hq]
     rw [e]
     exact ownsRow_setCell_other si UA _
    ·rw [wI]
     exact World.ownsRow_nil _ _ _ _
   rw [yb]
   have QV := UZ bN
   have IW := UZ (show ∀ k, k < L.length → (jw L k ∈ D ∧ jw L k + 1 = (L.getD k (0, 0)).2) ∧ ∀ s ∈ cx (aF cd (jw L k)) (jw L k), (∃ p ∈ L, p.1 = s) ∧ Gc s from fun k hk => by
    have hp : L[k] ∈ L := List.getElem_mem hk
    have e1 : L.getD k (0, 0) = L[k] := by simp [List.getD, List.getElem?_eq_getElem hk]
    have hla := D5.out.last _ hp
    have hlo := D5.out.lo _ hp
    unfold jw
    rw [e1]
    refine ⟨⟨hla, by omega⟩, fun s hs => ?_⟩
    have hnb : ¬ nX (aF cd) e.st e.en (L[k].2 - 1) := by
     rcases tu.out.b with h | h
     ·exact h.2 _ hla
     ·have := (tu.out.dr _ h.1).range _ _ _ g2
      omega
    have hin : e.st ≤ s ∧ s < e.en := Classical.byContradiction fun h => hnb ⟨s, hs, h⟩
    have EU : s ∈ D := by
     rcases tu.out.cl _ hla s hs hin.1 hin.2 with h | h
     ·exact h
     ·cases h
    refine ⟨?_, gN TX TX⟩
    have hmm := QA.out
    refine D5.out.num s hin.1 TX EU ?_
    by_cases hbr : eA (aF cd (L[k].2 - 1)).op = true
    ·rw [gB]
     refine .inr ⟨_, hla, ?_⟩
     unfold dH
     rw [if_pos hbr]
     exact hs
    ·have : s = L[k].2 := by
      unfold cx at hs
      unfold eA at hbr
      split at hs
      ·cases hs
      ·split at hs
       ·simp_all
       ·split at hs
        ·rename_i h; rcases h with h | h <;> simp [h] at hbr
        ·simp at hs; omega
     rw [this] at EU hin ⊢
     exact D5.out.cl _ hp TX EU)
   clear yb gU u0 u1 u2 lm si gr1 bN HM D5 t0 J2
   go_loopw [16, 17, 19, 20, 103] (fun a16 a17 a19 a20 Iz wr => ∃ (k : Nat) (val : Nat → Value), k ≤ L.length ∧ Iz = .int .i64 (k : Int) ∧ BN V wr gb nb g cN pg L val (dK (aF cd) L k [])) (fun _ _ _ _ Iz _ => L.length - (intOf Iz).toNat)
   case atStart => exact ⟨0, _, Nat.zero_le _, rfl, QV.out⟩
   case round =>
    obtain ⟨k', val, hk', rfl, hN⟩ := hrel
    clear QV
    have HN := UZ hN
    clear hN
    have t0 : wr.cell? ⟨gb, 0, none⟩ = some (.slice (some ⟨g, 0, none⟩) L.length cN) := by simp [World.cell?, HN.out.gg]
    have t1 : wr.cell? ⟨gb, 1, none⟩ = some (.slice (some ⟨pg, 0, none⟩) L.length L.length) := by simp [World.cell?, HN.out.gg]
    have hrg := HN.out.rg
    by_cases hlt : k' < L.length
    ·have dl : decide ((k' : Int) < (L.length : Int)) = true := by simpa using hlt
     obtain ⟨⟨LZ, hlt2⟩, hsu⟩ := IW.out k' hlt
     obtain ⟨p1, p2⟩ := Ta.out _ LZ
     obtain ⟨la, hla⟩ : ∃ la, jw L k' = la := ⟨_, rfl⟩
     have DV := UZ (show dR (aF cd) L k' = ri L (cx (aF cd la) la) by unfold dR; rw [hla])
     rw [hla] at LZ hlt2 hsu p1 p2
     have bt : wr.cell? ⟨g, k' * 3 + 1, none⟩ = some (.int .i64 (la + 1)) := by rw [HN.out.nP.cellAt _ TX, fF L val hlt TX, hlt2]; rfl
     have hF := HN.out.im QI.out TX TX
     obtain ⟨i, hi⟩ : ∃ i, aF cd la = i := ⟨_, rfl⟩
     have l1 : ∀ y : Ext wr, (Instr.lookup 116 (.map (some fb)) (.int .i64 la) false).run Tryz.prog y.w = .ok (.agg #[.int .u8 i.op, .int .i64 i.a, .int .i64 i.b, .int .i64 i.c, .int .i64 i.aR]) y.w := fun y => by
      have := (hF.ext y).ie (P := Tryz.prog) (kt := 3) (t := 116) (e := 64) Tryz.underlying3 Tryz.underlying116 (k := la) (v := i.val) (by unfold qd; rw [if_pos LZ, hi]) false
      simpa only [Bool.false_eq_true, ↓reduceIte, bB.val, kv] using this
     rw [hi] at DV hsu p2
     have w1 : IntKind.i64.wrap (la + 1 - 1) = la := by rw [IntWalk.i64_in _ TX]; omega
     have Eg := UZ (fun W : World => fW i la W p1.1 p1.2 p2.1 p2.2)
     have Qm := UZ hsu
     clear hi LZ hlt2 hla hF hsu p2
     obtain ⟨hrg1, hrg2, hrg3⟩ := hrg
     have sg : g < wr.heap.size := hrg1.2
     go_upto_region 26 with fail
     refine gH 12 14 _ _ rfl rfl rfl TY TY ?_
     simp only [Act.put, U5, U6, U7, U8, List.take_zero, U9, List.drop_zero, Nat.reduceSub]
     repeat (go_big_quiet_step (fail))
     refine wpQuiet_nil ?_
     rintro _ ⟨y, rfl⟩
     go_wp2_with (go_at_call 56; refine (Eg.out _).mono ?_; rintro e' W4 ⟨⟨v, rfl, ⟨SA, iJ, rfl, sc1, sc2, sc3⟩, sc4⟩, hb4⟩)
     refine NoPanic.normal ?_
     go_upto_region 27 with fail
     obtain ⟨S, hS⟩ : ∃ S, cx i la = S := ⟨_, rfl⟩
     have TN : S.length ≤ 2 := hS ▸ jJ _ _
     rw [hS] at DV Qm sc1 sc3 sc4 ⊢
     have hy := y.h.size
     have Qy := UZ ((HN.out.below y.h).below hb4)
     have I4 := UZ (show Ints W4 (.slice SA S.length iJ) S from ⟨SA, iJ, rfl, sc1, sc2, sc3⟩)
     have DJ := UZ (show ∀ q, (Value.slice SA S.length iJ).ownBlock = some q → q ≠ g ∧ q ≠ pg ∧ ∀ i, i < 2 * L.length → (val i).ownBlock ≠ some q from fun q hq => by
      have h1 := sc4 q hq
      refine ⟨by omega, by omega, fun i hi h2 => ?_⟩
      have := ((HN.out.own i hi).lt q h2).2
      omega)
     clear hS sc1 sc2 sc3 sc4 hb4 hy y HN t0 t1 bt l1 w1 Eg sg hrg1 hrg2 hrg3 p1
     obtain ⟨wo, rfl⟩ : ∃ wo : World, wo = wr := ⟨_, rfl⟩
     go_loopw [19, 20, 124] (fun a19 a20 a124 wr => ∃ (j : Nat) (val : Nat → Value), j ≤ S.length ∧ a124 = .int .i64 (j : Int) ∧ BN V wr gb nb g cN pg L val (dK (aF cd) L k' (ri L (S.take j))) ∧ Ints wr (.slice SA S.length iJ) S ∧ ∀ q, (Value.slice SA S.length iJ).ownBlock = some q → q ≠ g ∧ q ≠ pg ∧ ∀ i, i < 2 * L.length → (val i).ownBlock ≠ some q) (fun _ _ a124 _ => S.length - (intOf a124).toNat)
     case atStart => exact ⟨0, _, Nat.zero_le _, rfl, Qy.out, I4.out, DJ.out⟩
     case round =>
      clear Qy I4 DJ val
      obtain ⟨j, val, hj, rfl, hN, hI, PS⟩ := hrel
      have HN := UZ hN
      have HI := UZ hI
      have HD := UZ PS
      clear hN hI PS
      by_cases hjl : j < S.length
      ·obtain ⟨A', uY, hv, Tw, Rj, MV⟩ := HI.out
       cases hv
       obtain ⟨sb, so, rfl, Hx, hsc⟩ := MV TX
       obtain ⟨s, hs⟩ : ∃ s, S[j] = s := ⟨_, rfl⟩
       have x1 : wr.cell? ⟨sb, so + j, none⟩ = some (.int .i64 s) := by rw [hsc j hjl, ← hs]; simp [List.getD, List.getElem?_eq_getElem hjl]
       have NL : S[j]? = some s := by rw [List.getElem?_eq_getElem hjl, hs]
       obtain ⟨J4, O9⟩ := Qm.out s (List.mem_of_getElem? NL)
       obtain ⟨n1, n2, n3⟩ := oY J4
       obtain ⟨p, hp⟩ : ∃ p, idx L s = p := ⟨_, rfl⟩
       have Mq := UZ (Cr L S j s NL)
       rw [hp] at n1 n2 Mq
       have l2 := HN.out.num.ie (P := Tryz.prog) (kt := 3) (t := 121) (e := 3) Tryz.underlying3 Tryz.underlying121 (k := s) (v := .int .i64 (p : Int)) n1 false
       simp only [Bool.false_eq_true, ↓reduceIte, kv] at l2
       have dl2 : decide ((j : Int) < (S.length : Int)) = true := by simpa using hjl
       obtain ⟨l, hl⟩ : ∃ l, ri L (S.take j) = l := ⟨_, rfl⟩
       have TH : l.length ≤ 2 := by
        have := x6 L (S.take j)
        rw [hl] at this
        simp at this
        omega
       rw [hl] at HN Mq
       have bn : wr.cell? ⟨g, k' * 3 + 2, none⟩ = some (val k') := by rw [HN.out.nP.cellAt _ TX, fF L val hlt TX]; rfl
       have bf : wr.frozen? ⟨g, k' * 3 + 2, none⟩ = false := HN.out.nP.frozenAt _
       have hok := HN.out.own k' TX
       rw [kL _ _ _ _ hlt] at hok
       have Jv := UZ (qE (val k') l (p : Int) wr (jO hok))
       unfold maxLen at Rj
       obtain ⟨vA, mJ, hval⟩ : ∃ vA mJ, val k' = .slice vA l.length mJ := by
        rcases hok.2 with ⟨h, h'⟩ | ⟨g, cap', cur, h, _⟩
        ·exact ⟨_, _, by rw [h, h']⟩
        ·exact ⟨_, _, h⟩
       have rP := UZ hok
       have fu := UZ hval
       rw [hval] at bn Jv
       clear hsc MV hs J4 n1 n3 hp hl O9 hok hval NL
       by_cases hin : (p : Int) ∈ l
       ·have HAD := UZ (show j7 l (p : Int) = l by unfold j7; rw [if_pos hin])
        rw [decide_eq_true hin] at Jv
        clear hin
        go_wp2_with (go_at_call 57; refine Jv.out.mono ?_; rintro e' w' ⟨rfl, rfl⟩)
        go_roundw
        case rel =>
         refine ⟨j + 1, val, by omega, by go_num, ?_, HI.out, HD.out⟩
         rw [Mq.out, HAD.out]
         exact HN.out
        case measure => simp [intOf]; omega
       ·have HAD := UZ (show j7 l (p : Int) = l ++ [(p : Int)] by unfold j7; rw [if_neg hin])
        have tv := UZ hin
        rw [decide_eq_false hin] at Jv
        clear hin
        obtain ⟨iI, I9, Je, Fq, Fp⟩ := info_parts CR
        have hsz := HN.out.rg
        have Oi := UZ (show some g ≠ Value.ownBlock (.slice vA l.length mJ) from fun e' => by
         rw [← fu.out] at e'
         exact eI rP.out HN.out.nP T1 g e'.symm rfl)
        have hg0 : g < wr.heap.size := hsz.1.2
        have PC : wr.ownsRow V.heap.size 3 1 (.slice vA l.length mJ) l.length (pE l) := by rw [← fu.out]; exact rP.out
        have Qv := UZ PC
        have RV := HN.out.sz
        clear PC hsz
        go_upto_region 32 with (first | (go_at_call 57; refine Jv.out.mono ?_; rintro e' w' ⟨rfl, rfl⟩) | (at_builtin; refine wpList_append_own_at _ rfl (.tmp 142) (.tmp 144) 34 rfl V.heap.size 3 iI (.int .i64 0) 1 8 Tryz.underlying34 I9 Je Fq Fp rfl T1 (.slice vA l.length mJ) _ _ rfl (Qv.out.alloc _) ⟨wr.heap.size, 0, none⟩ 1 1 [.int .i64 (p : Int)] rfl rfl (cell_one_new _ _ _) T2 T3 TX Uc ?_; intro v' W' hown' hgrow _ rD; obtain ⟨g', cap', rfl⟩ := ownsRow_succ hown'; have hc1 := hgrow.cell (a := ⟨g, k' * 3 + 2, none⟩) (v := .slice vA l.length mJ) Ug Oi.out; have hf1 : W'.frozen? ⟨g, k' * 3 + 2, none⟩ = false := (World.frozen?_of_block (hgrow.block g T9 Oi.out)).trans Ug))
        have wV := HN.out.app (x := 0) (i := k') (y := (p : Int)) TX ((Below.refl wr.heap.size wr).alloc (Nat.le_refl _) (.cells #[.int .i64 (p : Int)] 3)) (by rw [fu.out]; exact hgrow) (by rw [kL _ _ _ _ hlt]; simpa [pE] using hown') (by rw [fu.out]; exact rD) g (k' * 3 + 2) (.inl ⟨hlt, rfl, rfl⟩)
        rw [kL _ _ _ _ hlt] at wV
        have NP := ((HI.out.below ((Below.refl wr.heap.size wr).alloc (Nat.le_refl _) (.cells #[.int .i64 (p : Int)] 3))).grown hgrow (fun q hq hq2 => (HD.out q hq).2.2 k' TX (by rw [fu.out]; exact hq2))).grown (dB W' g (k' * 3 + 2) (.slice (some ⟨g', 0, none⟩) (l.length + 1) cap')) (fun q hq hq2 => (HD.out q hq).1 (by simpa using hq2.symm))
        have NQ : ∀ q, (Value.slice (some ⟨sb, so, none⟩) S.length iJ).ownBlock = some q → q ≠ g ∧ q ≠ pg ∧ ∀ i, i < 2 * L.length → (upd val k' (.slice (some ⟨g', 0, none⟩) (l.length + 1) cap') i).ownBlock ≠ some q := fun q hq => by
         obtain ⟨d1, d2, d3⟩ := HD.out q hq
         refine ⟨d1, d2, fun i hi => ?_⟩
         unfold upd
         split
         ·rcases rD with h | h
          ·rw [h, ← fu.out]; exact d3 k' TX
          ·rw [h, World.size_alloc]
           intro e'
           simp [Value.ownBlock] at hq e'
           omega
         ·exact d3 i hi
        obtain ⟨X, hX⟩ : ∃ X, W'.setCell ⟨g, k' * 3 + 2, none⟩ (.slice (some ⟨g', 0, none⟩) (l.length + 1) cap') = X := ⟨_, rfl⟩
        rw [hX] at wV NP ⊢
        obtain ⟨qm, Gf⟩ : ∃ qm, upd val k' (.slice (some ⟨g', 0, none⟩) (l.length + 1) cap') = qm := ⟨_, rfl⟩
        rw [Gf] at wV NQ
        have hop := wV.own (L.length + p) TX
        have hpl : upd (dK (aF cd) L k' l) k' (l ++ [(p : Int)]) (L.length + p) = dK (aF cd) L k' l (L.length + p) := by unfold upd; rw [if_neg TX]
        rw [hpl] at hop
        have Lm := UZ (z6 (aF cd) L k' p l hlt n2 tv.out)
        have Eh := UZ hpl
        obtain ⟨pl, Hz⟩ : ∃ pl, dK (aF cd) L k' l (L.length + p) = pl := ⟨_, rfl⟩
        have Nc : pl.length ≤ 5000 := by
         rw [← Hz]
         unfold dK
         rw [if_neg TX]
         have h1 := wF (aF cd) L k' (L.length + p - L.length)
         have h2 : (if ((L.length + p - L.length : Nat) : Int) ∈ l then [(k' : Int)] else []).length ≤ 1 := by split <;> simp
         rw [List.length_append]
         omega
        rw [Hz] at hop Lm Eh
        obtain ⟨pA, eW, hvp⟩ : ∃ pA eW, qm (L.length + p) = .slice pA pl.length eW := by
         rcases hop.2 with ⟨h, h'⟩ | ⟨g, cap', cur, h, _⟩
         ·exact ⟨_, _, by rw [h, h']⟩
         ·exact ⟨_, _, h⟩
        have GG := UZ hvp
        have q0 : X.cell? ⟨gb, 1, none⟩ = some (.slice (some ⟨pg, 0, none⟩) L.length L.length) := by simp [World.cell?, wV.gg]
        have q1 : X.cell? ⟨pg, p, none⟩ = some (.slice pA pl.length eW) := by rw [wV.dD.cellAt _ TX, List.getElem?_map, List.getElem?_range n2, ← hvp]; rfl
        have q2 : X.frozen? ⟨pg, p, none⟩ = false := wV.dD.frozenAt _
        have Jq := UZ (show some pg ≠ Value.ownBlock (.slice pA pl.length eW) from fun e' => by
         rw [← hvp] at e'
         exact eI hop wV.dD T1 pg e'.symm rfl)
        have Lg := UZ (show some gb ≠ Value.ownBlock (.slice pA pl.length eW) from fun e' => by
         rw [← hvp] at e'
         have := (hop.lt gb e'.symm).1
         have := wV.gV
         omega)
        rw [hvp] at hop
        have qL := UZ hop
        have vH := UZ wV
        have Ot := UZ NP
        have Mv := UZ NQ
        have Nd : pg < X.heap.size := wV.rg.2.1.2
        have RH : gb < X.heap.size := by have := wV.sz; have := wV.gV; omega
        have TM := wV.sz
        clear hX wV NP NQ hop hvp Gf hpl Hz hc1 hf1 rD hgrow hown' HN HI HD Jv rP fu Qv Oi hg0 RV bn bf l2 x1 Hx
        have Ei := UZ (show ∀ (W2 : World) (v2 : Value), ((X.alloc (.cells #[.int .i64 (k' : Int)] 3)).drew).grownBy W2 (Value.slice pA pl.length eW).ownBlock → W2.ownsRow V.heap.size 3 1 v2 (pl.length + 1) (pE pl ++ [.int .i64 (k' : Int)]) → (v2.ownBlock = (Value.slice pA pl.length eW).ownBlock ∨ v2.ownBlock = some ((X.alloc (.cells #[.int .i64 (k' : Int)] 3)).drew).heap.size) →
          ∃ En, BN V (W2.setCell ⟨pg, p, none⟩ v2) gb nb g cN pg L En (dK (aF cd) L k' (l ++ [(p : Int)])) ∧ Ints (W2.setCell ⟨pg, p, none⟩ v2) (.slice (some ⟨sb, so, none⟩) S.length iJ) S ∧ ∀ q, (Value.slice (some ⟨sb, so, none⟩) S.length iJ).ownBlock = some q → q ≠ g ∧ q ≠ pg ∧ ∀ i, i < 2 * L.length → (En i).ownBlock ≠ some q from fun W2 v2 hg2 ho2 hb2 => by
         have bD : Below X.heap.size X ((X.alloc (.cells #[.int .i64 (k' : Int)] 3)).drew) := Below.drew ((Below.refl _ _).alloc (Nat.le_refl _) _)
         have h3 := vH.out.app (x := 0) (i := L.length + p) (y := (k' : Int)) TX bD (by rw [GG.out]; exact hg2) (by rw [Eh.out]; simpa [pE] using ho2) (by rw [GG.out]; exact hb2) pg p (.inr ⟨by omega, rfl, by omega⟩)
         rw [Eh.out] at h3
         refine ⟨_, by rw [Lm.out]; exact h3, ((Ot.out.below bD).grown hg2 (fun q hq hq2 => (Mv.out q hq).2.2 (L.length + p) TX (by rw [GG.out]; exact hq2))).grown (dB W2 pg p v2) (fun q hq hq2 => (Mv.out q hq).2.1 (by simpa using hq2.symm)), fun q hq => ?_⟩
         obtain ⟨d1, d2, d3⟩ := Mv.out q hq
         refine ⟨d1, d2, fun i hi => ?_⟩
         unfold upd
         split
         ·rcases hb2 with h | h
          ·rw [h, ← GG.out]; exact d3 _ TX
          ·rw [h]
           intro e'
           have hlt3 : q < X.heap.size := by
            obtain ⟨A5, Sd, hv5, _, _, h5⟩ := Ot.out
            cases hv5
            obtain ⟨b5, o5, Db, C0, _⟩ := h5 TX
            cases Db
            simp [Value.ownBlock] at hq
            omega
           have e2 : (X.alloc (.cells #[.int .i64 (k' : Int)] 3)).drew.heap.size = X.heap.size + 1 := by show (X.alloc _).heap.size = _; simp
           rw [e2] at e'
           cases e'
           omega
         ·exact d3 i hi)
        clear Ot Mv vH Lm Eh GG
        refine wp_region_noPanic ?_
        go_region_law (refine jg rfl (.tmp 155) (.tmp 157) 34 rfl V.heap.size 3 iI (.int .i64 0) 1 8 Tryz.underlying34 I9 Je Fq Fp rfl T1 (.slice pA pl.length eW) pl.length (pE pl) UO (World.ownsRow.alloc (World.ownsRow.drew qL.out) _) ⟨X.heap.size, 0, none⟩ 1 1 [.int .i64 (k' : Int)] UO rfl (cell_one_new _ _ _) T2 T3 TX (by show V.heap.size ≤ (World.alloc _ _).heap.size; rw [World.size_alloc]; omega) ?_; intro v' W2 hown2 hgrow2 C8; obtain ⟨g2, uY, rfl⟩ := ownsRow_succ hown2; have hc1 := hgrow2.cell (a := ⟨pg, p, none⟩) (v := .slice pA pl.length eW) Ug Jq.out; have hc2 := hgrow2.cell (a := ⟨gb, 1, none⟩) (v := .slice (some ⟨pg, 0, none⟩) L.length L.length) Ug Lg.out; have hf1 : W2.frozen? ⟨pg, p, none⟩ = false := (World.frozen?_of_block (hgrow2.block pg T9 Jq.out)).trans Ug)
        all_goals
         obtain ⟨En, f1, f2, f3⟩ := Ei.out W2 _ hgrow2 hown2 C8
         have F1 := UZ f1
         have F2 := UZ f2
         have F3 := UZ f3
         clear f1 f2 f3 hgrow2 hown2 C8 hc1 hc2 hf1
         refine NoPanic.normal ?_
         go_wp2_with fail
         go_roundw
         case rel =>
          refine ⟨j + 1, En, by omega, by go_num, ?_, F2.out, F3.out⟩
          rw [Mq.out, HAD.out]
          exact F1.out
         case measure => simp [intOf]; omega
      ·obtain rfl : j = S.length := by omega
       have dl2 : decide ((S.length : Int) < (S.length : Int)) = false := by simp
       rw [List.take_length] at HN
       go_wp2_with fail
       go_roundw
       case rel =>
        refine ⟨k' + 1, val, by omega, by go_num, ?_⟩
        rw [← wJ, DV.out]
        exact HN.out
       case measure => simp [intOf]; omega
    ·obtain rfl : k' = L.length := by omega
     have dl : decide ((L.length : Int) < (L.length : Int)) = false := by simp
     have NR := B3.out.size
     have sR : w.heap.size + 1 < V.heap.size := sM Qe.out
     have rq : w.heap.size + 1 ≠ gb := by omega
     have kR := (HN.out.blk (w.heap.size + 1) sR rq TX).trans Qe.out
     have r0 : wr.cell? ⟨w.heap.size + 1, 0, none⟩ = some (.slice none 0 0) := by simp [World.cell?, kR]
     have r1 : wr.cell? ⟨w.heap.size + 1, 1, none⟩ = some (.slice none 0 0) := by simp [World.cell?, kR]
     have f0 : wr.frozen? ⟨w.heap.size + 1, 0, none⟩ = false := by simp [World.frozen?, kR]
     have f1 : wr.frozen? ⟨w.heap.size + 1, 1, none⟩ = false := by simp [World.frozen?, kR]
     go_wp2_with fail
     have G1 : wr.grownBy ((wr.setCell ⟨w.heap.size + 1, 0, none⟩ (.slice (some ⟨g, 0, none⟩) L.length cN)).setCell ⟨w.heap.size + 1, 1, none⟩ (.slice (some ⟨pg, 0, none⟩) L.length L.length)) (some (w.heap.size + 1)) := by
      refine ⟨rfl, rfl, rfl, by simp, fun j _ hne => ?_⟩
      have : j ≠ w.heap.size + 1 := fun e => hne (by rw [e])
      rw [Below.heap_setCell _ _ _ _ this, Below.heap_setCell _ _ _ _ this]
     have hgr := HN.out.graph G1 sR
     have vu : Below w.heap.size w ((wr.setCell ⟨w.heap.size + 1, 0, none⟩ (.slice (some ⟨g, 0, none⟩) L.length cN)).setCell ⟨w.heap.size + 1, 1, none⟩ (.slice (some ⟨pg, 0, none⟩) L.length L.length)) := by
      refine Below.setCell (Below.setCell ⟨HN.out.os.trans B3.out.os, HN.out.tape.trans B3.out.tape, HN.out.output.trans B3.out.output, Nat.le_trans B3.out.size HN.out.sz, fun j hj => ?_⟩ ?_ _) ?_ _
      ·exact (HN.out.blk j TX TX TX).trans (B3.out.block j hj)
      ·simp
      ·simp
     refine bodyPost_ret (v := .tuple #[.agg #[.slice (some ⟨g, 0, none⟩) L.length cN, .slice (some ⟨pg, 0, none⟩) L.length L.length], .int .i64 (-1), .int .i64 0]) Ut rfl (.inr (.inr (.inr ⟨Jr.out, k, e, D, L, _, _, rfl, he, tu.out, ?_, rfl, hgr.1, hgr.2, vu⟩)))
     rw [← QA.out]; exact FR.out
end
section
open Go.RowKit
open Go.RowKit
open Go.RowKit
open Go.ChangeShapes Go.WideShapes Go.ChangeAt Go.RowKit
open Go.ChangeShapes Go.WideShapes Go.ChangeAt Go.RowKit
open Go.RowKit
open Go.RowKit
open Go.RowKit
open Go.ChangeShapes Go.WideShapes Go.ChangeAt Go.RowKit
open Go.RowKit
open Go.RowKit
open Go.RowKit
open Go.RowKit
open Go.RowKit
open Go.RowKit
open Go.RowKit
structure Jm (n : Nat) (e : Int) (x : ew) : Prop where
 lo : e ≤ x.lo
 hi : x.lo < x.hi
 two : x.nx.length ≤ 2
 nx : ∀ t ∈ x.nx, 0 ≤ t ∧ t < n
 ne : ¬ (x.nx.length = 2 ∧ x.nx.getD 0 0 = x.nx.getD 1 0)
def nE (n : Nat) : Int → List ew → Int → Prop
 | a, [], z => a = z
 | a, x :: xs, z => Jm n a x ∧ nE n x.hi xs z
theorem nE.append {n : Nat} {l2 : List ew} : ∀ {l1 : List ew} {a z : Int}, nE n a (l1 ++ l2) z ↔ ∃ m, nE n a l1 m ∧ nE n m l2 z
 | [], a, z => ⟨fun h => ⟨a, rfl, h⟩, fun ⟨m, h1, h2⟩ => by cases h1; exact h2⟩
 | e :: l1, a, z => by
  constructor
  ·rintro ⟨h1, h3⟩
   obtain ⟨m, h4, h5⟩ := nE.append.1 h3
   exact ⟨m, ⟨h1, h4⟩, h5⟩
  ·rintro ⟨m, ⟨h1, h3⟩, h4⟩
   exact ⟨h1, nE.append.2 ⟨m, h3, h4⟩⟩
theorem nE.Gu {n : Nat} : ∀ {l : List ew} {a z z' : Int}, nE n a l z → nE n a l z' → z = z'
 | [], a, z, z', h, h' => by cases h; exact h'
 | e :: l, a, z, z', h, h' => nE.Gu h.2 h'.2
theorem nE.snoc {n : Nat} {l : List ew} {x : ew} {a m : Int} (h : nE n a l m) (h1 : Jm n m x) : nE n a (l ++ [x]) x.hi := nE.append.2 ⟨m, h, h1, rfl⟩
theorem nE.no {n : Nat} {G : List ew} {k : Nat} {x : ew} {m : Int} (hx : G[k]? = some x) (h : nE n 0 (G.take k) m) (hno : ¬ Jm n m x) : ∀ z, ¬ nE n 0 G z := by
 intro z hz
 have hk : k < G.length := (List.getElem?_eq_some_iff.1 hx).1
 have e1 : G = G.take k ++ (x :: G.drop (k + 1)) := by
  have := List.take_append_drop k G
  rw [List.drop_eq_getElem_cons hk] at this
  have e2 : G[k] = x := by rw [List.getElem?_eq_getElem hk] at hx; exact Option.some.inj hx
  rw [e2] at this
  exact this.symm
 rw [e1] at hz
 obtain ⟨m', h1, h2⟩ := nE.append.1 hz
 have := nE.Gu h h1
 subst this
 exact hno h2.1
structure p5 (G : List ew) (P : List (List Int)) : Prop where
 ne : G ≠ []
 len : P.length = G.length
 ok : ∃ z, nE G.length 0 G z
 prev : (List.range G.length).map (fB G G.length []) = P
theorem jH.slice {w : World} {v : Value} {G : List ew} (h : jH w v G) : ∃ A cap, v = .slice A G.length cap ∧ G.length ≤ cap ∧ cap ≤ 2 ^ 63 - 1 := by
 obtain ⟨A, cap, h1, h2, h3, _⟩ := h
 unfold maxLen at h3
 exact ⟨A, cap, h1, h2, h3⟩
theorem jH.at_ {w wr : World} {A : Option Addr} {cap : Nat} {G : List ew} (h : jH w (.slice A G.length cap) G) (hb : Below w.heap.size w wr) {j : Nat} (hj : j < G.length) :
  ∃ x nv b off, G[j]? = some x ∧ A = some ⟨b, off, none⟩ ∧ b < w.heap.size ∧ wr.cell? ⟨b, off + j * 3, none⟩ = some (.int .i64 x.lo) ∧ wr.cell? ⟨b, off + j * 3 + 1, none⟩ = some (.int .i64 x.hi) ∧ wr.cell? ⟨b, off + j * 3 + 2, none⟩ = some nv ∧ Ints w nv x.nx := by
 obtain ⟨A', cap', hv, _, _, h4⟩ := h
 cases hv
 obtain ⟨b, off, rfl, hlt, hc⟩ := h4 TX
 obtain ⟨c0, c1, nv, c2, c3⟩ := hc j _ (List.getElem?_eq_getElem hj)
 exact ⟨G[j], nv, b, off, List.getElem?_eq_getElem hj, rfl, hlt, (hb.cell (p := ⟨b, _, none⟩) hlt).trans c0, (hb.cell (p := ⟨b, _, none⟩) hlt).trans c1, (hb.cell (p := ⟨b, _, none⟩) hlt).trans c2, c3⟩
theorem Ints.slice {w : World} {v : Value} {l : List Int} (h : Ints w v l) : ∃ A cap, v = .slice A l.length cap ∧ l.length ≤ cap ∧ cap ≤ 2 ^ 63 - 1 := by
 obtain ⟨A, cap, h1, h2, h3, _⟩ := h
 unfold maxLen at h3
 exact ⟨A, cap, h1, h2, h3⟩
theorem Ints.at_ {w wr : World} {A : Option Addr} {cap : Nat} {l : List Int} (h : Ints w (.slice A l.length cap) l) (hb : Below w.heap.size w wr) {j : Nat} (hj : j < l.length) :
  ∃ s b off, l[j]? = some s ∧ A = some ⟨b, off, none⟩ ∧ b < w.heap.size ∧ wr.cell? ⟨b, off + j, none⟩ = some (.int .i64 s) := by
 obtain ⟨A', cap', hv, _, _, h4⟩ := h
 cases hv
 obtain ⟨b, off, rfl, hlt, hc⟩ := h4 TX
 refine ⟨l[j], b, off, List.getElem?_eq_getElem hj, rfl, hlt, ?_⟩
 rw [hb.cell (p := ⟨b, _, none⟩) hlt, hc j hj]
 simp [List.getD, List.getElem?_eq_getElem hj]
theorem xZ {w : World} {q B s n : Nat} {cs : Array Value} {t e : TypeId} {fr : Nat × Nat} {v : Value} {xs : List Value} (hq : w.heap[q]? = some (.cells cs t fr)) (h : w.ownsRow B e s v n xs) (hne : t ≠ e) : some q ≠ v.ownBlock := by
 intro e1
 rcases h.2 with ⟨rfl, _⟩ | ⟨g, cap, cur, rfl, _, hg, _⟩
 ·cases e1
 ·simp [Value.ownBlock] at e1
  subst e1
  rw [hq] at hg
  cases hg
  exact hne rfl
theorem vQ (bv pv : Value) (G : List ew) (P : List (List Int)) (w : World) (HG : jH w bv G) (HP : vw w pv P) (hn : G.length ≤ 5000) (gy : ∀ x ∈ G, x.nx.length ≤ 5000) :
  Calls Tryz.prog 23 #[.agg #[bv, pv]] w fun e w' => (∃ r : Bool, e = .returned (.bool r) ∧ (r = true ↔ p5 G P)) ∧ Below w.heap.size w w' := by
 obtain ⟨A, cap, rfl, hc1, hc2⟩ := HG.slice
 obtain ⟨PA, eW, rfl, hp1, hp2⟩ := HP.slice
 have Js := UZ HG
 have SK := UZ HP
 have DV := UZ gy
 clear HG HP gy
 obtain ⟨V0, gP⟩ : ∃ V0, w.alloc (.cells #[.slice A G.length cap, .slice PA P.length eW] 30) = V0 := ⟨_, rfl⟩
 have b0 : Below w.heap.size w V0 := gP ▸ (Below.refl _ _).alloc (Nat.le_refl _) _
 have s0 : w.heap.size < V0.heap.size := by rw [← gP]; simp
 have k0 : V0.heap[w.heap.size]? = some (.cells #[.slice A G.length cap, .slice PA P.length eW] 30) := by rw [← gP]; exact heap_alloc_new _ _
 have y0 : V0.cell? ⟨w.heap.size, 0, none⟩ = some (.slice A G.length cap) := by simp [World.cell?, k0]
 have y1 : V0.cell? ⟨w.heap.size, 1, none⟩ = some (.slice PA P.length eW) := by simp [World.cell?, k0]
 have K0 := UZ k0
 have B0 := UZ b0
 clear k0 b0
 go_enter Tryz.func23, Tryz.ntmps23
 by_cases q1 : G.length = 0
 ·have d1 : ((G.length : Int) == 0) = true := by simp [q1]
  have HQ := UZ q1
  clear q1
  go_wp2_with fail
  go_ret
  exact ⟨⟨false, rfl, by simp; intro h; exact h.ne (List.length_eq_zero_iff.1 HQ.out)⟩, B0.out⟩
 have d1 : ((G.length : Int) == 0) = false := beq_eq_false_iff_ne.2 TX
 by_cases q2 : P.length = G.length
 case neg =>
  have d2 : ((P.length : Int) != (G.length : Int)) = true := by simp; omega
  have HQ := UZ q2
  clear q2
  go_wp2_with fail
  go_ret
  exact ⟨⟨false, rfl, by simp; intro h; exact HQ.out h.len⟩, B0.out⟩
 have d2 : ((P.length : Int) != (G.length : Int)) = false := by simp; omega
 have SJ := UZ q1
 have SI := UZ q2
 have hn0 : 0 < G.length := by omega
 clear q1 q2
 obtain ⟨i2, hi2, hs0, hs1, hs2⟩ := info_parts Ge
 obtain ⟨U1, lm, si, gr1⟩ := run_make_full (P := Tryz.prog) V0 V0.heap.size 28 34 i2 (.slice none 0 0) 1 Tryz.underlying28 hi2 hs0 hs1 .i64 .i64 G.length (by rw [hs2]; omega) T3 (Nat.le_refl _)
 rw [Nat.mul_one, show (Value.slice none 0 0).cells = #[Value.slice none 0 0] from rfl, toList_madeCells_one] at si
 have Lf := UZ (PM.made gr1 (Below.refl _ _) si)
 have u0 : U1.cell? ⟨w.heap.size, 0, none⟩ = some (.slice A G.length cap) := by rw [Lf.out.aB.cell (p := ⟨w.heap.size, 0, none⟩) s0]; exact y0
 clear si gr1
 go_upto_region 6 with fail
 obtain ⟨pg, J2⟩ : ∃ pg, V0.heap.size = pg := ⟨_, rfl⟩
 rw [J2] at Lf ⊢
 clear gP lm u0 d1 d2 J2
 rw [← wE G] at Lf
 go_loopw [4, 5, 6, 8, 29] (fun a4 a5 a6 a8 a29 wr => ∃ (k : Nat) (e : Int) (val : Nat → Value), k ≤ G.length ∧ a29 = .int .i64 (k : Int) ∧ a4 = .int .i64 e ∧ nE G.length 0 (G.take k) e ∧ PM V0 wr pg G.length val (fB G k [])) (fun _ _ _ _ a29 _ => G.length - (intOf a29).toNat)
 case atStart => exact ⟨0, 0, _, Nat.zero_le _, rfl, rfl, rfl, Lf.out⟩
 case round =>
  obtain ⟨k, e, val, hk, rfl, rfl, hok, Da⟩ := hrel
  clear Lf
  have rP := UZ hok
  have HM := UZ Da
  have BW := UZ (B0.out.trans (Da.aB.mono TX))
  have sB := Da.aB.size
  clear hok Da
  by_cases hlt : k < G.length
  ·obtain ⟨x, nv, b, off, hx, rfl, hbl, c0, c1, c2, hI⟩ := Js.out.at_ BW.out hlt
   obtain ⟨NA, dY, rfl, hn1, hn2⟩ := hI.slice
   have HI := UZ hI
   have HX := UZ hx
   have Sy := UZ (List.mem_of_getElem? hx)
   have hxl := DV.out x Sy.out
   have s8 := UZ (show ¬ Jm G.length e x → ∀ z, ¬ nE G.length 0 G z from fun h => nE.no hx rP.out h)
   have dl : decide ((k : Int) < (G.length : Int)) = true := by simpa using hlt
   clear hx hI
   by_cases q3 : e ≤ x.lo
   case neg =>
    have d3 : decide (x.lo < e) = true := by simp; omega
    have HQ := UZ (s8.out (fun h => q3 h.lo))
    clear q3
    go_wp2_with fail
    go_ret
    exact ⟨⟨false, rfl, by simp; intro h; obtain ⟨z, hz⟩ := h.ok; exact HQ.out z hz⟩, BW.out.alloc TX _⟩
   have d3 : decide (x.lo < e) = false := by simp; omega
   by_cases q4 : x.lo < x.hi
   case neg =>
    have d4 : decide (x.hi ≤ x.lo) = true := by simp; omega
    have HQ := UZ (s8.out (fun h => q4 h.hi))
    clear q4 q3
    go_wp2_with fail
    go_ret
    exact ⟨⟨false, rfl, by simp; intro h; obtain ⟨z, hz⟩ := h.ok; exact HQ.out z hz⟩, BW.out.alloc TX _⟩
   have d4 : decide (x.hi ≤ x.lo) = false := by simp; omega
   by_cases q5 : x.nx.length ≤ 2
   case neg =>
    have d5 : decide ((2 : Int) < (x.nx.length : Int)) = true := by simp; omega
    have HQ := UZ (s8.out (fun h => q5 h.two))
    clear q5 q4 q3
    go_wp2_with fail
    go_ret
    exact ⟨⟨false, rfl, by simp; intro h; obtain ⟨z, hz⟩ := h.ok; exact HQ.out z hz⟩, BW.out.alloc TX _⟩
   have d5 : decide ((2 : Int) < (x.nx.length : Int)) = false := by simp; omega
   go_upto_region 12 with fail
   obtain ⟨X, hX⟩ : ∃ X, wr.alloc (.cells #[.int .i64 x.lo, .int .i64 x.hi, .slice NA x.nx.length dY] 36) = X := ⟨_, rfl⟩
   have kX : X.heap[wr.heap.size]? = some (.cells #[.int .i64 x.lo, .int .i64 x.hi, .slice NA x.nx.length dY] 36) := hX ▸ heap_alloc_new _ _
   have Qz := UZ (hX ▸ HM.out.below ((Below.refl _ _).alloc (Nat.le_refl _) _))
   have sX : wr.heap.size < X.heap.size := by rw [← hX]; simp
   rw [hX]
   obtain ⟨q, hq⟩ : ∃ q, wr.heap.size = q := ⟨_, rfl⟩
   rw [hq] at kX sX ⊢
   have KX := UZ kX
   have rO := UZ (And.intro q3 (And.intro q4 q5))
   clear kX hX c0 c1 c2 d3 d4 d5 dl q3 q4 HM BW hq
   obtain ⟨iI, I9, Je, Fq, Fp⟩ := info_parts CR
   obtain ⟨wo, rfl⟩ : ∃ wo : World, wo = wr := ⟨_, rfl⟩
   go_loopw [8, 56] (fun a8 a56 wr => ∃ (j : Nat) (val : Nat → Value), j ≤ x.nx.length ∧ a56 = .int .i64 (j : Int) ∧ (∀ t ∈ x.nx.take j, 0 ≤ t ∧ t < (G.length : Int)) ∧ wr.heap[q]? = some (.cells #[.int .i64 x.lo, .int .i64 x.hi, .slice NA x.nx.length dY] 36) ∧ PM V0 wr pg G.length val (fB G k (x.nx.take j))) (fun _ a56 _ => x.nx.length - (intOf a56).toNat)
   case atStart => exact ⟨0, val, Nat.zero_le _, rfl, by simp, KX.out, Qz.out⟩
   case round =>
    clear Qz KX val
    obtain ⟨j, val, hj, rfl, hin, Jb, Da⟩ := hrel
    have tv := UZ hin
    have vH := UZ Jb
    have HM := UZ Da
    have BW := UZ (B0.out.trans (Da.aB.mono TX))
    have Q8 := Da.aB.size
    have hrg := Da.rg
    have z0 : wr.cell? ⟨w.heap.size, 0, none⟩ = some (.slice (some ⟨b, off, none⟩) G.length cap) := by rw [Da.aB.cell (p := ⟨w.heap.size, 0, none⟩) s0]; exact y0
    have v2 : wr.cell? ⟨q, 2, none⟩ = some (.slice NA x.nx.length dY) := by simp [World.cell?, Jb]
    clear hin Jb Da
    by_cases hjl : j < x.nx.length
    ·obtain ⟨s, nb, gM, hs, rfl, hnb, x1⟩ := HI.out.at_ BW.out hjl
     have HS := UZ (cu hs)
     have Qo := UZ (List.mem_of_getElem? hs)
     have dl : decide ((j : Int) < (x.nx.length : Int)) = true := by simpa using hjl
     clear hs
     by_cases q6 : 0 ≤ s
     case neg =>
      have d6 : decide (s < 0) = true := decide_eq_true TX
      have HQ := UZ (s8.out (fun h => q6 (h.nx s Qo.out).1))
      clear q6
      go_wp2_with fail
      go_ret
      exact ⟨⟨false, rfl, by simp; intro h; obtain ⟨z, hz⟩ := h.ok; exact HQ.out z hz⟩, BW.out⟩
     have d6 : decide (s < 0) = false := decide_eq_false TX
     by_cases q7 : s < (G.length : Int)
     case neg =>
      have d7 : decide ((G.length : Int) ≤ s) = true := decide_eq_true TX
      have HQ := UZ (s8.out (fun h => q7 (h.nx s Qo.out).2))
      clear q7 q6
      go_wp2_with fail
      go_ret
      exact ⟨⟨false, rfl, by simp; intro h; obtain ⟨z, hz⟩ := h.ok; exact HQ.out z hz⟩, BW.out⟩
     have d7 : decide ((G.length : Int) ≤ s) = false := decide_eq_false TX
     obtain ⟨p, rfl⟩ : ∃ p : Nat, s = (p : Int) := ⟨s.toNat, by omega⟩
     have hp : p < G.length := by omega
     obtain ⟨t1, t2⟩ := HM.out.cells hp
     have hop := HM.out.own p hp
     obtain ⟨pl, hpl⟩ : ∃ pl, fB G k (x.nx.take j) p = pl := ⟨_, rfl⟩
     have Nc : pl.length ≤ 30000000 := by
      rw [← hpl]
      have := zG G DV.out k TX (x.nx.take j) p
      have h2 : (x.nx.take j).length ≤ 2 := by simp; omega
      omega
     rw [hpl] at hop
     obtain ⟨pA, qX, hvp⟩ : ∃ pA qX, val p = .slice pA pl.length qX := by
      rcases hop.2 with ⟨h, h'⟩ | ⟨g, cap', cur, h, _⟩
      ·exact ⟨_, _, by rw [h, h']⟩
      ·exact ⟨_, _, h⟩
     have GG := UZ hvp
     have Eh := UZ hpl
     have Jq := UZ (show some pg ≠ Value.ownBlock (.slice pA pl.length qX) from fun e' => by
      rw [← hvp] at e'
      exact eI hop HM.out.dD T1 pg e'.symm rfl)
     have Qw := UZ (show some q ≠ Value.ownBlock (.slice pA pl.length qX) from fun e' => xZ vH.out hop T1 (by rw [hvp]; exact e'))
     have Rt : q ≠ pg := fun e' => xZ vH.out HM.out.dD T1 (by rw [e']; rfl)
     rw [hvp] at hop t1
     have qL := UZ hop
     have hq3 : q < wr.heap.size := (Array.getElem?_eq_some_iff.1 vH.out).1
     have Nd := hrg.2
     clear hop hvp hpl q6 q7
     go_upto_region 17 with (at_builtin; refine wpList_append_own_at _ rfl (.tmp 74) (.tmp 76) 34 rfl V0.heap.size 3 iI (.int .i64 0) 1 8 Tryz.underlying34 I9 Je Fq Fp rfl T1 (.slice pA pl.length qX) _ _ rfl (qL.out.alloc _) ⟨wr.heap.size, 0, none⟩ 1 1 [.int .i64 (k : Int)] rfl rfl (cell_one_new _ _ _) T2 T3 TX Uc ?_; intro v' W' hown' hgrow _ rD; obtain ⟨g', cap', rfl⟩ := ownsRow_succ hown'; have hc1 := hgrow.cell (a := ⟨pg, p, none⟩) (v := .slice pA pl.length qX) Ug Jq.out; have hf1 : W'.frozen? ⟨pg, p, none⟩ = false := (World.frozen?_of_block (hgrow.block pg T9 Jq.out)).trans Ug)
     have hB := HM.out.app (y := (k : Int)) hp ((Below.refl wr.heap.size wr).alloc (Nat.le_refl _) (.cells #[.int .i64 (k : Int)] 3)) (by rw [GG.out]; exact hgrow) (by rw [Eh.out]; simpa [pE] using hown') (by rw [GG.out]; exact rD)
     rw [Eh.out] at hB
     have PV : (W'.setCell ⟨pg, p, none⟩ (.slice (some ⟨g', 0, none⟩) (pl.length + 1) cap')).heap[q]? = some (.cells #[.int .i64 x.lo, .int .i64 x.hi, .slice (some ⟨nb, gM, none⟩) x.nx.length dY] 36) := by
      rw [Below.heap_setCell _ _ _ _ Rt, hgrow.block q Uc Qw.out, heap_alloc_old _ _ hq3]
      exact vH.out
     have HB := UZ hB
     have Tc := UZ PV
     clear hB PV hc1 hf1 rD hgrow hown' t1 t2 qL Jq Qw
     go_wp2_with fail
     go_roundw
     case rel =>
      refine ⟨j + 1, upd val p (.slice (some ⟨g', 0, none⟩) (pl.length + 1) cap'), by omega, by go_num, fun t ht => ?_, Tc.out, ?_⟩
      ·rw [HS.out] at ht
       rcases List.mem_append.1 ht with h | h
       ·exact tv.out t h
       ·simp at h; omega
      ·rw [HS.out, zH, Eh.out]
       exact HB.out
     case measure => simp [intOf]; omega
    ·obtain rfl : j = x.nx.length := by omega
     have dl : decide ((x.nx.length : Int) < (x.nx.length : Int)) = false := by simp
     rw [List.take_length] at tv HM
     have hq3 : q < wr.heap.size := (Array.getElem?_eq_some_iff.1 vH.out).1
     by_cases q8 : x.nx.length = 2
     ·obtain ⟨LP, nb, gM, hs, rfl, hnb, x1⟩ := HI.out.at_ BW.out (j := 0) TX
      obtain ⟨s1', Tn, OL, hs', hA, Ru, x2⟩ := HI.out.at_ BW.out (j := 1) TX
      cases hA
      have TQ := BW.out.size
      have TF : nb < wr.heap.size := by omega
      have d8 : ((x.nx.length : Int) == 2) = true := by simp; omega
      have e0 : x.nx.getD 0 0 = LP := by simp [List.getD, hs]
      have e1 : x.nx.getD 1 0 = s1' := by simp [List.getD, hs']
      have i0 : (0 : Int) < (x.nx.length : Int) := by omega
      have i1 : (1 : Int) < (x.nx.length : Int) := by omega
      rw [Nat.add_zero] at x1
      by_cases q9 : LP = s1'
      ·have d9 : (LP == s1') = true := by simp [q9]
       have HQ := UZ (s8.out (fun h => h.ne ⟨q8, by rw [e0, e1, q9]⟩))
       clear q9 e0 e1 q8 hs hs' q5
       go_upto_region 18 with fail
       refine ay TY TY ?_
       repeat (go_big_quiet_step (fail))
       refine wpQuiet_nil ?_
       rintro _ ⟨y, rfl⟩
       go_wp2_with fail
       go_ret
       exact ⟨⟨false, rfl, by simp; intro h; obtain ⟨z, hz⟩ := h.ok; exact HQ.out z hz⟩, Ext.below BW.out BW.out.size y⟩
      ·have d9 : (LP == s1') = false := by simp [q9]
       have IM := UZ (show Jm G.length e x from ⟨rO.out.1, rO.out.2.1, rO.out.2.2, tv.out, fun h => q9 (by rw [← e0, ← e1]; exact h.2)⟩)
       clear q9 e0 e1 q8 hs hs' q5
       go_upto_region 18 with fail
       refine ay TY TY ?_
       repeat (go_big_quiet_step (fail))
       refine wpQuiet_nil ?_
       rintro _ ⟨y, rfl⟩
       go_wp2_with fail
       go_roundw
       case rel => exact ⟨k + 1, x.hi, val, by omega, by go_num, rfl, by rw [cu HX.out]; exact rP.out.snoc IM.out, by rw [← oW G k x HX.out]; exact HM.out.below y.h⟩
       case measure => simp [intOf]; omega
     ·have d8 : ((x.nx.length : Int) == 2) = false := beq_eq_false_iff_ne.2 TX
      have IM := UZ (show Jm G.length e x from ⟨rO.out.1, rO.out.2.1, rO.out.2.2, tv.out, fun h => q8 h.1⟩)
      clear q8 q5
      go_upto_region 18 with fail
      refine ay TY TY ?_
      repeat (go_big_quiet_step (fail))
      refine wpQuiet_nil ?_
      rintro _ ⟨y, rfl⟩
      go_wp2_with fail
      go_roundw
      case rel => exact ⟨k + 1, x.hi, val, by omega, by go_num, rfl, by rw [cu HX.out]; exact rP.out.snoc IM.out, by rw [← oW G k x HX.out]; exact HM.out.below y.h⟩
      case measure => simp [intOf]; omega
  ·obtain rfl : k = G.length := by omega
   have dl : decide ((G.length : Int) < (G.length : Int)) = false := by simp
   rw [List.take_length] at rP
   have z1 : wr.cell? ⟨w.heap.size, 1, none⟩ = some (.slice PA P.length eW) := by rw [HM.out.aB.cell (p := ⟨w.heap.size, 1, none⟩) s0]; exact y1
   have S5 := UZ (qF _ _ _ P wr HM.out.lls (SK.out.below BW.out))
   go_wp2_with (go_at_call 60; refine S5.out.mono ?_; rintro e w' ⟨rfl, hb5⟩)
   go_ret
   refine ⟨⟨_, rfl, ?_⟩, BW.out.trans (hb5.mono (by have := BW.out.size; omega))⟩
   rw [decide_eq_true_eq]
   constructor
   ·intro h
    exact ⟨fun e => SJ.out UI, SI.out, ⟨_, rP.out⟩, h⟩
   ·intro h
    exact h.prev
theorem JW : (Tryz.prog.info? 96).map (fun i => (i.zero, i.size, i.bytes)) = some (some (.int .u32 0), 1, 4) := by kernel_rfl
abbrev GU (l : List Int) : List Value := l.map (Value.int .u32)
def js : ByteArray := { data := #[116, 97] }
structure IG (V wr : World) (ib : Nat) (cv ev : Value) (ws : List Int) : Prop where
 ib1 : ib < V.heap.size
 os : wr.os = V.os
 tape : wr.tape = V.tape
 output : wr.output = V.output
 sz : V.heap.size ≤ wr.heap.size
 blk : ∀ k, k < V.heap.size → k ≠ ib → wr.heap[k]? = V.heap[k]?
 im : wr.heap[ib]? = some (.cells #[cv, ev, .int .i64 0, .int .i64 0] 25 (0, 0))
 row : wr.ownsRow V.heap.size 96 1 cv ws.length (GU ws)
theorem IG.below {V wr wr' : World} {ib : Nat} {cv ev : Value} {ws : List Int} (h : IG V wr ib cv ev ws) (hb : Below wr.heap.size wr wr') : IG V wr' ib cv ev ws :=
 ⟨h.ib1, hb.os.trans h.os, hb.tape.trans h.tape, hb.output.trans h.output, Nat.le_trans h.sz hb.size, fun k h1 h2 => (hb.block k (by have := h.sz; omega)).trans (h.blk k h1 h2), (hb.block _ (by have := h.sz; have := h.ib1; omega)).trans h.im, bF h.row hb⟩
theorem IG.base {V wr w : World} {ib : Nat} {cv ev : Value} {ws : List Int} (h : IG V wr ib cv ev ws) (hb : Below w.heap.size w V) (hi : w.heap.size ≤ ib) : Below w.heap.size w wr :=
 ⟨h.os.trans hb.os, h.tape.trans hb.tape, h.output.trans hb.output, Nat.le_trans hb.size h.sz, fun k hk => (h.blk k (by have := hb.size; omega) TX).trans (hb.block k hk)⟩
theorem IG.app {V wr w2 W' : World} {ib : Nat} {cv ev v' : Value} {ws : List Int} {x : Int} (h : IG V wr ib cv ev ws) (hb : Below wr.heap.size wr w2) (hg : w2.grownBy W' cv.ownBlock) (hown : W'.ownsRow V.heap.size 96 1 v' (ws.length + 1) (GU (ws ++ [x]))) : IG V (W'.setCell ⟨ib, 0, none⟩ v') ib v' ev (ws ++ [x]) := by
 have G := grown_of hb hg
 have i1 := h.ib1
 have hsz := h.sz
 have Ag := G.size
 have rl : ∀ q, cv.ownBlock = some q → V.heap.size ≤ q := fun q hq => (h.row.lt q hq).1
 have sm : ∀ k, k < V.heap.size → W'.heap[k]? = wr.heap[k]? := fun k hk => G.block k TX (fun e => by have := rl k e.symm; omega)
 refine ⟨i1, G.os.trans h.os, G.tape.trans h.tape, G.output.trans h.output, by simp; omega, fun k h1 h2 => ?_, ?_, ?_⟩
 ·rw [Below.heap_setCell _ _ _ _ h2]; exact (sm k h1).trans (h.blk k h1 h2)
 ·rw [heap_setCell_same W' ib 0 _ _ v' ((sm ib i1).trans h.im)]; rfl
 ·rw [show (ws ++ [x]).length = ws.length + 1 by simp]
  exact ownsRow_setCell_other hown (fun e => by have := (hown.lt ib e).1; omega) _
theorem zJ {w : World} {B : Nat} {v : Value} {ws : List Int} (h : w.ownsRow B 96 1 v ws.length (GU ws)) (hl : ws.length ≤ 1000000) (hw : ∀ x ∈ ws, 0 ≤ x ∧ x < 4294967296) : Words w v ws.length (fun i => ws.getD i 0) := by
 refine ⟨hl, fun i hi => ?_, ?_⟩
 ·have : ws.getD i 0 = ws[i] := by simp [List.getD, List.getElem?_eq_getElem hi]
  rw [this]
  exact hw _ (List.getElem_mem hi)
 ·rcases h.2 with ⟨rfl, h0⟩ | ⟨g, cap, cur, rfl, _, hg, h1, h2, _, _⟩
  ·rw [h0]
   exact ⟨none, 0, rfl, Nat.le_refl _, by unfold maxLen; omega, fun h => by omega⟩
  ·refine ⟨_, cap, rfl, h1, h2, fun _ => ⟨g, 0, rfl, (Array.getElem?_eq_some_iff.1 hg).1, fun i hi => ?_⟩⟩
   rw [Nat.zero_add, h.cellAt i TX]
   simp [GU, List.getD, List.getElem?_eq_getElem hi]
theorem z8 (c : Int → bB) (st : Int) {D D' : List Int} (h : ∀ x, x ∈ D ↔ x ∈ D') (x : Int) : lQ c st D x = lQ c st D' x := by
 have : lQ c st D x = true ↔ lQ c st D' x = true := by
  rw [gB, gB]
  unfold qK
  constructor
  ·rintro (e | ⟨a, ha, hm⟩)
   ·exact .inl e
   ·exact .inr ⟨a, (h a).1 ha, hm⟩
  ·rintro (e | ⟨a, ha, hm⟩)
   ·exact .inl e
   ·exact .inr ⟨a, (h a).2 ha, hm⟩
 cases h1 : lQ c st D x <;> cases h2 : lQ c st D' x <;> simp_all
theorem ng (c : Int → bB) (st : Int) {D D' : List Int} (h : ∀ x, x ∈ D ↔ x ∈ D') : ∀ m, blk c st D m = blk c st D' m
 | 0 => rfl
 | m + 1 => by
  unfold blk
  rw [ng c st h m, z8 c st h]
  simp only [h]
theorem uP {α : Type} {f : α → List Value} (hf : ∀ x, (f x).length = 6) : ∀ (L : List α) (k j : Nat) (x : α), L[k]? = some x → j < 6 → (L.flatMap f)[k * 6 + j]? = (f x)[j]?
 | y :: L, 0, j, x, h, hj => by
  simp at h; subst h
  rw [List.flatMap_cons, Nat.zero_mul, Nat.zero_add, List.getElem?_append_left (by rw [hf]; exact hj)]
 | y :: L, k + 1, j, x, h, hj => by
  have h' : L[k]? = some x := by simpa using h
  rw [List.flatMap_cons, List.getElem?_append_right (by rw [hf]; omega), hf, show (k + 1) * 6 + j - 6 = k * 6 + j by omega]
  exact uP hf L k j x h' hj
theorem tL {W : World} (h : laidMet Tryz.prog [("ontime/isa.formats", Rows.laid_ontime_isa_formats)] W) : fM W := by
 have hv := qH h
 have hg : Tryz.prog.globalNamed "ontime/isa.formats" = some 0 := by kernel_rfl
 have hc : ∀ k, W.cell? ⟨0, k, none⟩ = fk.toArray[k]? := fun k => World.var?_cell hg hv k
 refine ⟨?_, fun k hk j v hv2 => ?_⟩
 ·have h0 : W.cell? ⟨0, 0, none⟩ = some (.string ⟨#[110, 111, 112]⟩) := by rw [hc 0]; kernel_rfl
  exact qI h0
 ·rw [hc]
  have hj : j < 6 := by
   have := (List.getElem?_eq_some_iff.1 hv2).1
   simpa [Fm.cells] using this
  have hf : Fw[k]? = some (fm k) := by
   unfold fm
   have : k < Fw.length := hk
   simp [List.getD, List.getElem?_eq_getElem this]
  have := uP (f := Fm.cells) (fun x => rfl) Fw k j (fm k) hf hj
  simp only [List.getElem?_toArray]
  unfold fk
  rw [this]
  exact hv2
noncomputable def mR (os : Os) : World :=
 { World.holding Tryz.prog os ⟨#[], #[], []⟩ with heap := (World.holding Tryz.prog os ⟨#[], #[], []⟩).heap.modify 0 fun
   | .cells _ t frozen => .cells fk.toArray t frozen
   | o => o }
theorem j9 (os : Os) (args : Array Value) : ((mR os).forCall (fun _ _ => 0) ⟨#[], args, []⟩).memory.heap[0]? = some (.cells fk.toArray 141 (0, 0)) := by kernel_rfl
theorem CH (os : Os) (args : Array Value) : laidMet Tryz.prog [("ontime/isa.formats", Rows.laid_ontime_isa_formats)] ((mR os).forCall (fun _ _ => 0) ⟨#[], args, []⟩).memory := by
 refine ⟨_, ⟨0, 141, fk.toArray, 8, [], [], by kernel_rfl, by kernel_rfl, by kernel_rfl, by kernel_rfl, rfl, rfl⟩, by decide +kernel, fun b off h => ?_⟩
 have hb : b = 0 := by
  have h' : MemPlace.cell b off ∈ (List.range 180).map (fun i => MemPlace.cell 0 (0 + i)) := by
   have e : (MemPlace.row ⟨0, 0, none⟩ fk.toArray.size ++ [] ++ [] : List MemPlace) = (List.range 180).map (fun i => MemPlace.cell 0 (0 + i)) := by decide +kernel
   rw [e] at h
   exact h
  obtain ⟨i, _, e⟩ := List.mem_map.1 h'
  cases e
  rfl
 subst hb
 refine ⟨⟨fk.toArray, 141, j9 os args⟩, fun u v hc => ?_⟩
 simp only [World.cell?, j9 os args] at hc
 exfalso
 have hm : Value.iface u v ∈ fk := List.mem_of_getElem? (by simpa using hc)
 unfold fk at hm
 obtain ⟨f, _, hf⟩ := List.mem_flatMap.1 hm
 simp [Fm.cells] at hf
section
variable {H : Type} {enc : TypeId × Value → H} {P : Program} {w : World} {base : Nat} {spare : Nat → Bool} {held : Bool}
end
section
variable {H : Type} {enc : TypeId × Value → H} {w : World} {base : Nat} {spare : Nat → Bool} {held : Bool}
end
def ES (pc : Int) (x : ew) : Prop := x.lo ≤ pc ∧ pc < x.hi
instance (pc : Int) (x : ew) : Decidable (ES pc x) := by unfold ES; infer_instance
def jl (G : List ew) (pc : Int) : Option Nat := G.findIdx? (fun x => decide (ES pc x))
theorem xd {G : List ew} {pc : Int} {j : Nat} {x : ew} (hx : G[j]? = some x) (hin : ES pc x) (hno : ∀ y ∈ G.take j, ¬ ES pc y) : jl G pc = some j := by
 unfold jl
 obtain ⟨hj, e⟩ := List.getElem?_eq_some_iff.1 hx
 rw [List.findIdx?_eq_some_iff_getElem]
 refine ⟨hj, by rw [e]; simpa using hin, fun i hi => ?_⟩
 have : G[i] ∈ G.take j := by
  rw [List.mem_iff_getElem?]
  exact ⟨i, by rw [List.getElem?_take, if_pos hi, List.getElem?_eq_getElem TX]⟩
 simpa using hno _ this
theorem xe {G : List ew} {pc : Int} (hno : ∀ y ∈ G, ¬ ES pc y) : jl G pc = none := by
 unfold jl
 rw [List.findIdx?_eq_none_iff]
 intro x hx
 simpa using hno x hx
theorem AK (bv pv : Value) (G : List ew) (pc : Int) (w : World) (HG : jH w bv G) :
  Calls Tryz.prog 59 #[.agg #[bv, pv], .int .i64 pc] w fun e w' => e = .returned (.tuple #[.int .i64 (((jl G pc).getD 0 : Nat) : Int), .bool (jl G pc).isSome]) ∧ Below w.heap.size w w' := by
 obtain ⟨A, cap, rfl, hc1, hc2⟩ := HG.slice
 have Js := UZ HG
 clear HG
 obtain ⟨V0, gP⟩ : ∃ V0, w.alloc (.cells #[.slice A G.length cap, pv] 30) = V0 := ⟨_, rfl⟩
 have b0 : Below w.heap.size w V0 := gP ▸ (Below.refl _ _).alloc (Nat.le_refl _) _
 have s0 : w.heap.size < V0.heap.size := by rw [← gP]; simp
 have k0 : V0.heap[w.heap.size]? = some (.cells #[.slice A G.length cap, pv] 30) := by rw [← gP]; exact heap_alloc_new _ _
 have y0 : V0.cell? ⟨w.heap.size, 0, none⟩ = some (.slice A G.length cap) := by simp [World.cell?, k0]
 have B0 := UZ b0
 clear k0 b0
 go_enter Tryz.func59, Tryz.ntmps59
 go_upto_region 2 with fail
 clear gP
 go_loopw [6, 7, 11] (fun a6 a7 a11 wr => ∃ j : Nat, j ≤ G.length ∧ a11 = .int .i64 (j : Int) ∧ (∀ x ∈ G.take j, ¬ ES pc x) ∧ Below V0.heap.size V0 wr) (fun _ _ a11 _ => G.length - (intOf a11).toNat)
 case atStart => exact ⟨0, Nat.zero_le _, rfl, by simp, Below.refl _ _⟩
 case round =>
  obtain ⟨j, hj, rfl, hno, hb⟩ := hrel
  have s8 := UZ hno
  have HB := UZ hb
  have BW := UZ (B0.out.trans (hb.mono TX))
  have s1 := hb.size
  clear hno hb
  by_cases hlt : j < G.length
  ·obtain ⟨x, nv, b, off, hx, rfl, hbl, c0, c1, c2, hI⟩ := Js.out.at_ BW.out hlt
   obtain ⟨NA, dY, rfl, hn1, hn2⟩ := hI.slice
   have HX := UZ hx
   have dl : decide ((j : Int) < (G.length : Int)) = true := decide_eq_true TX
   clear hx hI
   by_cases q : ES pc x
   ·have d1 : decide (x.lo ≤ pc) = true := decide_eq_true q.1
    have d2 : decide (pc < x.hi) = true := decide_eq_true q.2
    have HQ := UZ (xd HX.out q s8.out)
    clear q
    go_wp2_with fail
    go_ret2
    refine ⟨?_, BW.out.alloc TX _⟩
    rw [HQ.out]; rfl
   ·have HQ := UZ q
    by_cases q1 : x.lo ≤ pc
    ·have d1 : decide (x.lo ≤ pc) = true := decide_eq_true q1
     have d2 : decide (pc < x.hi) = false := decide_eq_false (fun h => q ⟨q1, h⟩)
     clear q q1
     go_wp2_with fail
     go_roundw
     case rel =>
      refine ⟨j + 1, by omega, by go_num, fun t ht => ?_, HB.out.alloc TX _⟩
      rw [cu HX.out] at ht
      rcases List.mem_append.1 ht with h | h
      ·exact s8.out t h
      ·simp at h; rw [h]; exact HQ.out
     case measure => simp [intOf]; omega
    ·have d1 : decide (x.lo ≤ pc) = false := decide_eq_false q1
     clear q q1
     go_wp2_with fail
     go_roundw
     case rel =>
      refine ⟨j + 1, by omega, by go_num, fun t ht => ?_, HB.out.alloc TX _⟩
      rw [cu HX.out] at ht
      rcases List.mem_append.1 ht with h | h
      ·exact s8.out t h
      ·simp at h; rw [h]; exact HQ.out
     case measure => simp [intOf]; omega
  ·obtain rfl : j = G.length := by omega
   have dl : decide ((G.length : Int) < (G.length : Int)) = false := by simp
   rw [List.take_length] at s8
   have HQ := UZ (xe s8.out)
   go_wp2_with fail
   go_ret2
   refine ⟨?_, BW.out⟩
   rw [HQ.out]; rfl
def wD (L : List (Int × Int)) : List Value := L.flatMap fun p => [.int .i64 p.1, .int .i64 p.2]
theorem uj (L : List (Int × Int)) (a b : Int) : wD (L ++ [(a, b)]) = wD L ++ [.int .i64 a, .int .i64 b] := by simp [wD]
theorem wC : ∀ (L : List (Int × Int)) (i j : Nat) (p : Int × Int), L[i]? = some p → j < 2 → (wD L)[i * 2 + j]? = [Value.int .i64 p.1, .int .i64 p.2][j]?
 | y :: L, 0, j, p, h, hj => by
  simp at h; subst h
  have e : wD (y :: L) = [.int .i64 y.1, .int .i64 y.2] ++ wD L := by simp [wD]
  rw [e, Nat.zero_mul, Nat.zero_add, List.getElem?_append_left (by simpa using hj)]
 | y :: L, i + 1, j, p, h, hj => by
  have h' : L[i]? = some p := by simpa using h
  have e : wD (y :: L) = [.int .i64 y.1, .int .i64 y.2] ++ wD L := by simp [wD]
  rw [e, List.getElem?_append_right T9, show (i + 1) * 2 + j - [Value.int .i64 y.1, .int .i64 y.2].length = i * 2 + j by simp; omega]
  exact wC L i j p h' hj
def FN (w : World) (v : Value) (L : List (Int × Int)) : Prop :=
 ∃ A cap, v = .slice A L.length cap ∧ L.length ≤ cap ∧ cap ≤ 2 ^ 63 - 1 ∧ (0 < L.length → ∃ b off, A = some ⟨b, off, none⟩ ∧ b < w.heap.size ∧ ∀ i p, L[i]? = some p → w.cell? ⟨b, off + i * 2, none⟩ = some (.int .i64 p.1) ∧ w.cell? ⟨b, off + i * 2 + 1, none⟩ = some (.int .i64 p.2))
theorem FN.below {w w' : World} {v : Value} {L : List (Int × Int)} (h : FN w v L) (hb : Below w.heap.size w w') : FN w' v L := by
 obtain ⟨A, cap, h1, h2, h3, h4⟩ := h
 refine ⟨A, cap, h1, h2, h3, fun h0 => ?_⟩
 obtain ⟨b, off, ha, hlt, hc⟩ := h4 h0
 refine ⟨b, off, ha, by have := hb.size; omega, fun i p hp => ?_⟩
 obtain ⟨c0, c1⟩ := hc i p hp
 exact ⟨(hb.cell (p := ⟨b, _, none⟩) hlt).trans c0, (hb.cell (p := ⟨b, _, none⟩) hlt).trans c1⟩
theorem EK {w : World} {B : Nat} {e : TypeId} {v : Value} {L : List (Int × Int)} (h : w.ownsRow B e 2 v L.length (wD L)) : FN w v L := by
 rcases h.2 with ⟨rfl, h0⟩ | ⟨g, cap', cur, rfl, h1, h2, h3, h4, _, _⟩
 ·exact ⟨none, 0, by rw [h0], by omega, by omega, fun h => by omega⟩
 ·unfold maxLen at h4
  refine ⟨_, cap', rfl, h3, h4, fun _ => ⟨g, 0, rfl, (Array.getElem?_eq_some_iff.1 h2).1, fun i p hp => ?_⟩⟩
  have hi := (List.getElem?_eq_some_iff.1 hp).1
  refine ⟨?_, ?_⟩
  ·rw [Nat.zero_add, h.cellAt _ TX, show i * 2 = i * 2 + 0 from rfl, wC L i 0 p hp TX]; rfl
  ·rw [Nat.zero_add, h.cellAt _ TX, wC L i 1 p hp TX]; rfl
theorem pR (w : World) (a b : Value) (t : TypeId) : ∀ j u, [a, b][j]? = some u → (w.alloc (.cells #[a, b] t)).cell? ((⟨w.heap.size, 0, none⟩ : Addr).add j) = some u := by
 intro j u h
 have e : (⟨w.heap.size, 0, none⟩ : Addr).add j = ⟨w.heap.size, j, none⟩ := by cases j <;> simp [Addr.add]
 rw [e]
 unfold World.cell?
 rw [heap_alloc_new]
 simpa using h
theorem infoP : (Tryz.prog.info? 89).map (fun i => (i.zero, i.size, i.bytes)) = some (some (.agg #[.int .i64 0, .int .i64 0]), 2, 16) := by kernel_rfl
structure Dz (w : World) (v : Value) (n : Nat) (cd : Nat → Int) : Prop where
 wd : ∀ i, i < n → 0 ≤ cd i ∧ cd i < 4294967296
 at_ : ∃ A cap, v = .slice A n cap ∧ n ≤ cap ∧ cap ≤ maxLen ∧ (0 < n → ∃ b off, A = some ⟨b, off, none⟩ ∧ b < w.heap.size ∧ ∀ i, i < n → w.cell? ⟨b, off + i, none⟩ = some (.int .u32 (cd i)))
theorem Dz.words {w : World} {v : Value} {n : Nat} {cd : Nat → Int} (h : Dz w v n cd) (hn : n ≤ 1000000) : Words w v n cd := ⟨hn, h.wd, h.at_⟩
theorem u32_in {p : Int} (h : (Lit.int .u32 p).wf = true) : 0 ≤ p ∧ p < 4294967296 := by
 simp [Lit.wf] at h
 have e1 : IntKind.u32.min = 0 := by decide
 have e2 : IntKind.u32.max = 4294967295 := by decide
 omega
section
variable {H : Type} {enc : TypeId × Value → H} {w : World} {base : Nat} {spare : Nat → Bool} {held : Bool}
end
inductive GR (G : List ew) : Nat → Prop
 | start : GR G 0
 | step {b t : Nat} {x : ew} : GR G b → G[b]? = some x → (t : Int) ∈ x.nx → GR G t
abbrev L8 (n : Nat) (sn : Nat → Bool) : List Value := (List.range n).map fun i => .bool (sn i)
theorem FB (n : Nat) (sn : Nat → Bool) {p : Nat} (hp : p < n) (b : Bool) : (L8 n sn).set p (.bool b) = L8 n (upd sn p b) := by
 apply List.ext_getElem?
 intro q
 rw [List.getElem?_set]
 simp only [L8, List.length_map, List.length_range, List.getElem?_map]
 by_cases e : p = q
 ·subst e
  rw [if_pos rfl, if_pos hp, List.getElem?_range hp]
  simp [upd]
 ·rw [if_neg e]
  by_cases hq : q < n
  ·rw [List.getElem?_range hq]
   have : q ≠ p := fun h => e h.symm
   simp [upd, this]
  ·rw [List.getElem?_eq_none (by simpa using hq)]
   rfl
structure SM (w wr : World) (g n : Nat) (sn : Nat → Bool) : Prop where
 aB : Below w.heap.size w wr
 row : wr.ownsRow w.heap.size 4 1 (.slice (some ⟨g, 0, none⟩) n n) n (L8 n sn)
theorem SM.cells {w wr : World} {g n : Nat} {sn : Nat → Bool} (h : SM w wr g n sn) {i : Nat} (hi : i < n) : wr.cell? ⟨g, i, none⟩ = some (.bool (sn i)) ∧ wr.frozen? ⟨g, i, none⟩ = false :=
 ⟨by rw [h.row.cellAt _ TX, List.getElem?_map, List.getElem?_range hi]; rfl, h.row.frozenAt _⟩
theorem SM.set {w wr : World} {g n : Nat} {sn : Nat → Bool} (h : SM w wr g n sn) {i : Nat} (hi : i < n) (b : Bool) : SM w (wr.setCell ⟨g, i, none⟩ (.bool b)) g n (upd sn i b) :=
 ⟨h.aB.setCell (h.row.lt g rfl).1 _, by rw [← FB n sn hi b]; exact (h.row.stored i (.bool b)).1⟩
structure RS (G : List ew) (sn : Nat → Bool) : Prop where
 zero : sn 0 = true
 sound : ∀ i, i < G.length → sn i = true → GR G i
theorem RS.add {G : List ew} {sn : Nat → Bool} (h : RS G sn) {b t : Nat} {x : ew} (hb : b < G.length) (hs : sn b = true) (hx : G[b]? = some x) (ht : (t : Int) ∈ x.nx) : RS G (upd sn t true) := by
 refine ⟨?_, fun i hi hs' => ?_⟩
 ·unfold upd; split; rfl; exact h.zero
 ·unfold upd at hs'
  split at hs'
  ·rename_i e; rw [e]; exact GR.step (h.sound b hb hs) hx ht
  ·exact h.sound i hi hs'
theorem xQ {l : List Int} (h : l.Nodup) (x : Int) : (j7 l x).Nodup := by
 unfold j7
 split
 ·exact h
 ·rename_i hx
  rw [List.nodup_append]
  exact ⟨h, by simp, fun a ha b hb => by simp at hb; subst hb; exact fun e => hx (e ▸ ha)⟩
theorem qZ (L : List (Int × Int)) (S : List Int) : (ri L S).Nodup := by
 have : ∀ (S l : List Int), l.Nodup → (S.foldl (fun l s => j7 l (idx L s : Int)) l).Nodup := by
  intro S
  induction S with
  | nil => intro l h; exact h
  | cons s S ih => intro l h; rw [List.foldl_cons]; exact ih _ (xQ h _)
 exact this S [] T4
theorem Cx {l : List Int} {x y : Int} : y ∈ j7 l x ↔ y ∈ l ∨ y = x := by
 unfold j7
 split
 ·rename_i h
  constructor
  ·exact .inl
  ·rintro (h1 | rfl)
   ·exact h1
   ·exact h
 ·simp
theorem x8 (L : List (Int × Int)) (S : List Int) (y : Int) : y ∈ ri L S ↔ ∃ s ∈ S, y = (idx L s : Int) := by
 have : ∀ (S l : List Int), y ∈ (S.foldl (fun l s => j7 l (idx L s : Int)) l) ↔ y ∈ l ∨ ∃ s ∈ S, y = (idx L s : Int) := by
  intro S
  induction S with
  | nil => intro l; simp
  | cons s S ih =>
   intro l
   rw [List.foldl_cons, ih, Cx]
   simp [or_assoc]
 have h := this S []
 simpa [ri] using h
structure fK (c : Int → bB) (st en : Int) (D : List Int) (L : List (Int × Int)) : Prop where
 b : LO c st D (en - st).toNat L
 mem : ∀ a, a ∈ D ↔ nU c st en a
 all : ∀ a ∈ D, ∀ t ∈ cx (c a) a, t ∈ D
 st0 : 0 ≤ st
 lt : st < en
theorem fK.of {c : Int → bB} {st en : Int} {D : List Int} (h0 : 0 ≤ st) (h1 : st < en) (hR : fJ c st en D [] (-1)) : fK c st en D (blk c st D (en - st).toNat) := by
 refine ⟨mA c st D _, hR.mem h1, fun a ha t ht => ?_, h0, h1⟩
 have hb : ¬ nX c st en a := by
  rcases hR.b with h | h
  ·exact h.2 a ha
  ·have := (hR.dr _ h.1).range _ _ _ h1
   omega
 have hin : st ≤ t ∧ t < en := Classical.byContradiction fun h => hb ⟨t, ht, h⟩
 rcases hR.cl a ha t ht hin.1 hin.2 with h | h
 ·exact h
 ·cases h
section
variable {c : Int → bB} {st en : Int} {D : List Int} {L : List (Int × Int)}
theorem fK.range (h : fK c st en D L) {a : Int} (ha : a ∈ D) : st ≤ a ∧ a < en := ((h.mem a).1 ha).range _ _ _ h.lt
theorem fK.succ (h : fK c st en D L) {p : Int × Int} (hp : p ∈ L) {s : Int} (hs : s ∈ cx (c (p.2 - 1)) (p.2 - 1)) : s ∈ D ∧ ∃ q ∈ L, q.1 = s := by
 have hla := h.b.last p hp
 have EU := h.all _ hla s hs
 have hin := h.range EU
 refine ⟨EU, h.b.num s hin.1 UM EU ?_⟩
 by_cases hbr : eA (c (p.2 - 1)).op = true
 ·rw [gB]
  refine .inr ⟨_, hla, ?_⟩
  unfold dH
  rw [if_pos hbr]
  exact hs
 ·have : s = p.2 := by
   unfold cx at hs
   unfold eA at hbr
   split at hs
   ·cases hs
   ·split at hs
    ·simp_all
    ·split at hs
     ·rename_i h; rcases h with h | h <;> simp [h] at hbr
     ·simp at hs; omega
  rw [this] at EU hin ⊢
  exact h.b.cl _ hp UM EU
theorem fK.next (h : fK c st en D L) {k : Nat} (hk : k < L.length) : ∀ t ∈ dR c L k, 0 ≤ t ∧ t < (L.length : Int) := by
 intro t ht
 unfold dR at ht
 obtain ⟨s, hs, rfl⟩ := (x8 _ _ _).1 ht
 have e1 : L.getD k (0, 0) = L[k] := by simp [List.getD, List.getElem?_eq_getElem hk]
 unfold jw at hs
 rw [e1] at hs
 obtain ⟨_, hq⟩ := h.succ (List.getElem_mem hk) hs
 have := (oY hq).2.1
 omega
theorem iu (c : Int → bB) (L : List (Int × Int)) {k : Nat} (hk : k < L.length) : (dS c L)[k]? = some ⟨(L[k]).1, (L[k]).2, dR c L k⟩ := by
 unfold dS
 rw [List.getElem?_map, List.getElem?_range hk]
 simp [List.getD, List.getElem?_eq_getElem hk]
theorem fh (c : Int → bB) (L : List (Int × Int)) : (dS c L).length = L.length := by simp [dS]
theorem G6 {n : Nat} {G : List ew} (h1 : ∀ (k : Nat) (x : ew), G[k]? = some x → x.lo < x.hi ∧ x.nx.length ≤ 2 ∧ (∀ t ∈ x.nx, 0 ≤ t ∧ t < (n : Int)) ∧ x.nx.Nodup) (h2 : ∀ x, G[0]? = some x → 0 ≤ x.lo) (h3 : ∀ (k : Nat) (x y : ew), G[k]? = some x → G[k + 1]? = some y → x.hi ≤ y.lo) : ∃ z, nE n 0 G z := by
 have key : ∀ m, m ≤ G.length → ∃ z, nE n 0 (G.take m) z ∧ (∀ x, G[m]? = some x → z ≤ x.lo) := by
  intro m
  induction m with
  | zero => intro _; exact ⟨0, rfl, h2⟩
  | succ m ih =>
   intro hm
   obtain ⟨z, hz, hl⟩ := ih TX
   have hx : G[m]? = some G[m] := List.getElem?_eq_getElem TX
   obtain ⟨a1, a2, a3, a4⟩ := h1 m _ hx
   refine ⟨G[m].hi, ?_, fun y hy => h3 m _ y hx hy⟩
   rw [cu hx]
   refine hz.snoc ⟨hl _ hx, a1, a2, a3, fun ⟨e1, e2⟩ => ?_⟩
   match gy : G[m].nx, e1, e2, a4 with
   | [u, v], _, e2, a4 => simp at e2 a4; exact a4 e2
 obtain ⟨z, hz, _⟩ := key G.length (Nat.le_refl _)
 rw [List.take_length] at hz
 exact ⟨z, hz⟩
theorem xB {nx : List Int} (h : nx.Nodup) (p k : Nat) : nO nx p k = if (p : Int) ∈ nx then [(k : Int)] else [] := by
 induction nx with
 | nil => rfl
 | cons x nx ih =>
  obtain ⟨h1, h2⟩ := List.nodup_cons.1 h
  have ih := ih h2
  unfold nO at ih ⊢
  by_cases e : x = (p : Int)
  ·subst e
   rw [if_pos T4]
   simp only [List.filter_cons, decide_true, if_true, List.map_cons]
   rw [ih, if_neg h1]
  ·have e' : (p : Int) ≠ x := fun h => e h.symm
   simp only [List.filter_cons, e, decide_false, Bool.false_eq_true, if_false]
   rw [ih]
   simp [e']
theorem Dc (c : Int → bB) (L : List (Int × Int)) : (List.range (dS c L).length).map (fB (dS c L) (dS c L).length []) = gD c L := by
 unfold gD
 rw [fh]
 apply List.map_congr_left
 intro p _
 unfold fB zF jv
 have : nO [] p L.length = [] := rfl
 rw [this, List.append_nil]
 have key : ∀ m, m ≤ L.length → (List.range m).flatMap (fun b => nO ((dS c L).getD b ⟨0, 0, []⟩).nx p b) = ((List.range m).filter (fun b => decide ((p : Int) ∈ dR c L b))).map (fun (b : Nat) => (b : Int)) := by
  intro m
  induction m with
  | zero => intro _; rfl
  | succ m ih =>
   intro hm
   rw [List.range_succ, List.flatMap_append, List.filter_append, List.map_append, ih TX]
   congr 1
   have e : (dS c L).getD m ⟨0, 0, []⟩ = ⟨(L[m]).1, (L[m]).2, dR c L m⟩ := by simp [List.getD, iu c L (show m < L.length by omega)]
   simp only [List.flatMap_cons, List.flatMap_nil, List.append_nil, e]
   rw [xB (show (dR c L m).Nodup from qZ _ _)]
   by_cases hp : (p : Int) ∈ dR c L m
   ·rw [if_pos hp]; simp [hp]
   ·rw [if_neg hp]; simp [hp]
 exact key L.length (Nat.le_refl _)
theorem fK.valid (h : fK c st en D L) (hst : st ∈ D) : p5 (dS c L) (gD c L) := by
 have hn0 : L ≠ [] := h.b.ne hst UM
 refine ⟨fun e => hn0 ?_, by simp [gD, dS], ?_, Dc c L⟩
 ·have := congrArg List.length e
  rw [fh] at this
  exact List.length_eq_zero_iff.1 this
 ·rw [fh]
  refine G6 (fun k x hx => ?_) (fun x hx => ?_) (fun k x y hx hy => ?_)
  ·have hk : k < L.length := by have := (List.getElem?_eq_some_iff.1 hx).1; rwa [fh] at this
   rw [iu c L hk] at hx
   cases hx
   refine ⟨(h.b.lo _ (List.getElem_mem hk)).2.1, Nat.le_trans (x6 _ _) (jJ _ _), h.next hk, qZ _ _⟩
  ·have hk : 0 < L.length := by have := (List.getElem?_eq_some_iff.1 hx).1; rwa [fh] at this
   rw [iu c L hk] at hx
   cases hx
   have := (h.b.lo _ (List.getElem_mem hk)).1
   have := h.st0
   simp only
   omega
  ·have hk : k + 1 < L.length := by have := (List.getElem?_eq_some_iff.1 hy).1; rwa [fh] at this
   rw [iu c L TX] at hx
   rw [iu c L hk] at hy
   cases hx
   cases hy
   exact List.pairwise_iff_getElem.1 h.b.sD k (k + 1) TX hk TX
end
section
variable {c : Int → bB} {st en : Int} {D : List Int} {L : List (Int × Int)}
structure Gz (c : Int → bB) (st : Int) (D : List Int) (x : Int) : Prop where
 ne : x ≠ st
 before : x - 1 ∈ D
 br : eA (c (x - 1)).op = false
 halt : (c (x - 1)).op ≠ 1
 unlock : (c (x - 1)).op ≠ 29
 lock : (c x).op ≠ 28
theorem fK.inner (h : fK c st en D L) {x : Int} (hx : x ∈ D) (hl : lQ c st D x = false) : Gz c st D x := by
 have hnl : ¬ qK c st D x := fun hh => by rw [(gB c st D x).2 hh] at hl; cases hl
 have O4 : x ≠ st := fun e => hnl (.inl e)
 have key : ∃ a, a ∈ D ∧ x ∈ cx (c a) a := by
  have := (h.mem x).1 hx
  cases this with
  | start => exact absurd rfl O4
  | step h1 h2 h3 h4 => exact ⟨_, (h.mem _).2 h1, h2⟩
 obtain ⟨a, ha, hs⟩ := key
 have hbr : eA (c a).op = false := by
  rcases hb : eA (c a).op
  ·rfl
  ·exact absurd (.inr ⟨a, ha, by unfold dH; rw [if_pos hb]; exact hs⟩) hnl
 have Rn : (c a).op ≠ 1 ∧ x = a + 1 := by
  unfold cx at hs
  unfold eA at hbr
  split at hs
  ·cases hs
  ·rename_i h1
   refine ⟨h1, ?_⟩
   split at hs
   ·rename_i h2; simp [h2] at hbr
   ·split at hs
    ·rename_i h2; rcases h2 with h2 | h2 <;> simp [h2] at hbr
    ·simpa using hs
 obtain ⟨h1, rfl⟩ := Rn
 have e : a + 1 - 1 = a := by omega
 refine ⟨O4, by rw [e]; exact ha, by rw [e]; exact hbr, by rw [e]; exact h1, ?_, fun h28 => ?_⟩
 ·rw [e]
  intro h29
  exact hnl (.inr ⟨a, ha, by unfold dH; rw [if_neg (by simp [hbr]), if_neg TX, if_pos h29]; simp⟩)
 ·refine hnl (.inr ⟨a + 1, hx, ?_⟩)
  have hb2 : eA (c (a + 1)).op = false := by simp [eA, h28]
  unfold dH
  rw [if_neg (by simp [hb2]), if_pos h28]
  simp
theorem jS (hg : ∀ x ∈ D, lQ c st D x = false → x ≠ st ∧ x - 1 ∈ D) : ∀ m : Nat, (∀ p ∈ blk c st D m, ∀ x, p.1 < x → x < p.2 → x ∈ D ∧ lQ c st D x = false) ∧ (0 < m → st + (m : Int) - 1 ∈ D → ∃ M a, blk c st D m = M ++ [(a, st + (m : Int))])
 | 0 => ⟨by simp [blk], fun h => by omega⟩
 | m + 1 => by
  obtain ⟨i1, i2⟩ := jS hg m
  have e0 : st + ((m + 1 : Nat) : Int) - 1 = st + m := by omega
  have e1 : st + ((m + 1 : Nat) : Int) = st + m + 1 := by omega
  rw [e0, e1]
  unfold blk
  by_cases hD : st + (m : Int) ∈ D
  ·rw [if_pos hD]
   by_cases hl : lQ c st D (st + m) = true
   ·rw [if_pos hl]
    refine ⟨fun p hp x h1 h2 => ?_, fun _ _ => ⟨_, _, rfl⟩⟩
    rcases List.mem_append.1 hp with hp | hp
    ·exact i1 p hp x h1 h2
    ·simp at hp; subst hp; simp only at h1 h2; omega
   ·have hl' : lQ c st D (st + m) = false := by simpa using hl
    rw [if_neg hl]
    obtain ⟨hn, hb⟩ := hg _ hD hl'
    have hm : 0 < m := by
     rcases Nat.eq_zero_or_pos m with e | e
     ·subst e; simp at hn
     ·exact e
    obtain ⟨M, a, hM⟩ := i2 hm hb
    rw [hM, fX]
    refine ⟨fun p hp x h1 h2 => ?_, fun _ _ => ⟨_, _, rfl⟩⟩
    rcases List.mem_append.1 hp with hp | hp
    ·exact i1 p (by rw [hM]; simp [hp]) x h1 h2
    ·simp at hp; subst hp
     simp only at h1 h2
     by_cases ex : x = st + m
     ·rw [ex]; exact ⟨hD, hl'⟩
     ·exact i1 (a, st + m) (by rw [hM]; simp) x h1 Us
  ·rw [if_neg hD]
   exact ⟨i1, fun _ h => absurd h hD⟩
theorem oH {a t : Int} (hbr : eA (c a).op = false) (hs : t ∈ cx (c a) a) : t = a + 1 ∧ (c a).op ≠ 1 := by
 unfold cx at hs
 unfold eA at hbr
 split at hs
 ·cases hs
 ·rename_i h1
  refine ⟨?_, h1⟩
  split at hs
  ·rename_i h2; simp [h2] at hbr
  ·split at hs
   ·rename_i h2; rcases h2 with h2 | h2 <;> simp [h2] at hbr
   ·simpa using hs
theorem rK (hg : ∀ x ∈ D, lQ c st D x = false → x ≠ st ∧ x - 1 ∈ D) : ∀ m : Nat, ∀ a ∈ D, st ≤ a → a < st + (m : Int) → ∃ p ∈ blk c st D m, p.1 ≤ a ∧ a < p.2
 | 0, a, _, h1, h2 => by omega
 | m + 1, a, ha, h1, h2 => by
  have ih := rK hg m
  unfold blk
  by_cases hD : st + (m : Int) ∈ D
  ·rw [if_pos hD]
   by_cases hl : lQ c st D (st + m) = true
   ·rw [if_pos hl]
    by_cases e : a = st + m
    ·exact ⟨(st + m, st + m + 1), by simp, by simp only; omega, by simp only; omega⟩
    ·obtain ⟨p, hp, q⟩ := ih a ha h1 TX
     exact ⟨p, by simp [hp], q⟩
   ·have hl' : lQ c st D (st + m) = false := by simpa using hl
    rw [if_neg hl]
    obtain ⟨hn, hb⟩ := hg _ hD hl'
    have hm : 0 < m := by
     rcases Nat.eq_zero_or_pos m with e | e
     ·subst e; simp at hn
     ·exact e
    obtain ⟨M, a', hM⟩ := (jS hg m).2 hm hb
    have hlo := (mA c st D m).lo (a', st + m) (by rw [hM]; simp)
    rw [hM, fX]
    by_cases e : a = st + m
    ·exact ⟨(a', st + m + 1), by simp, by simp only at hlo ⊢; omega, by simp only; omega⟩
    ·obtain ⟨p, hp, q1, q2⟩ := ih a ha h1 TX
     rw [hM] at hp
     rcases List.mem_append.1 hp with hp | hp
     ·exact ⟨p, by simp [hp], q1, q2⟩
     ·simp at hp; subst hp
      exact ⟨(a', st + m + 1), by simp, q1, by simp only at q2 ⊢; omega⟩
  ·rw [if_neg hD]
   by_cases e : a = st + m
   ·rw [e] at ha; exact absurd ha hD
   ·exact ih a ha h1 TX
theorem fK.MU (h : fK c st en D (blk c st D (en - st).toNat)) {p : Int × Int} (hp : p ∈ blk c st D (en - st).toNat) {x : Int} (h1 : p.1 < x) (h2 : x < p.2) : x ∈ D ∧ lQ c st D x = false :=
 (jS (c := c) (st := st) (D := D) (fun x hx hl => ⟨(h.inner hx hl).ne, (h.inner hx hl).before⟩) (en - st).toNat).1 p hp x h1 h2
theorem fK.cover (h : fK c st en D (blk c st D (en - st).toNat)) {a : Int} (ha : a ∈ D) : ∃ p ∈ blk c st D (en - st).toNat, p.1 ≤ a ∧ a < p.2 := by
 have hr := h.range ha
 exact rK (c := c) (st := st) (D := D) (fun x hx hl => ⟨(h.inner hx hl).ne, (h.inner hx hl).before⟩) _ a ha hr.1 TX
theorem fK.cJ (h : fK c st en D (blk c st D (en - st).toNat)) {p : Int × Int} (hp : p ∈ blk c st D (en - st).toNat) {x : Int} (h1 : p.1 < x) (h2 : x < p.2) : x ∈ D ∧ Gz c st D x := by
 obtain ⟨a, b⟩ := (jS (c := c) (st := st) (D := D) (fun x hx hl => ⟨(h.inner hx hl).ne, (h.inner hx hl).before⟩) (en - st).toNat).1 p hp x h1 h2
 exact ⟨a, h.inner a b⟩
theorem fK.uniq (h : fK c st en D L) {i j : Nat} (hi : i < L.length) (hj : j < L.length) (e : (L[i]).1 = (L[j]).1) : i = j := by
 rcases Nat.lt_trichotomy i j with hlt | rfl | hlt
 ·have := List.pairwise_iff_getElem.1 h.b.sD i j hi hj hlt
  have := (h.b.lo _ (List.getElem_mem hi)).2.1
  omega
 ·rfl
 ·have := List.pairwise_iff_getElem.1 h.b.sD j i hj hi hlt
  have := (h.b.lo _ (List.getElem_mem hj)).2.1
  omega
theorem Hs (h : fK c st en D L) {i : Nat} (hi : i < L.length) : idx L (L[i]).1 = i := by
 obtain ⟨_, h2, h3⟩ := oY (L := L) (x := (L[i]).1) ⟨L[i], List.getElem_mem hi, rfl⟩
 have e : L.getD (idx L (L[i]).1) (0, 0) = L[idx L (L[i]).1] := by simp [List.getD, List.getElem?_eq_getElem h2]
 rw [e] at h3
 exact h.uniq h2 hi h3
theorem fK.first (h : fK c st en D L) (hst : st ∈ D) (h0 : 0 < L.length) : (L[0]).1 = st := by
 obtain ⟨q, hq, e⟩ := h.b.num st (Int.le_refl _) UM hst (wL c st D)
 obtain ⟨j, hj, ej⟩ := List.getElem_of_mem hq
 rcases Nat.eq_zero_or_pos j with e0 | e0
 ·subst e0; rw [ej]; exact e
 ·have := List.pairwise_iff_getElem.1 h.b.sD 0 j h0 hj e0
  have := (h.b.lo _ (List.getElem_mem h0))
  rw [ej] at *
  omega
end
theorem fK.reached {c : Int → bB} {st en : Int} {D : List Int} {L : List (Int × Int)} (hL : blk c st D (en - st).toNat = L) (h : fK c st en D L) (hst : st ∈ D) : ∀ i, i < (dS c L).length → GR (dS c L) i := by
 have h' : fK c st en D (blk c st D (en - st).toNat) := by rw [hL]; exact h
 have hn0 : 0 < L.length := List.length_pos_iff.2 (h.b.ne hst UM)
 have key : ∀ a, nU c st en a → ∀ i (hi : i < L.length), (L[i]).1 ≤ a → a < (L[i]).2 → GR (dS c L) i := by
  intro a ha
  induction ha with
  | start =>
   intro i hi h1 h2
   have l0 := h.first hst hn0
   have li := h.b.lo _ (List.getElem_mem hi)
   have : i = 0 := h.uniq hi hn0 TX
   subst this
   exact GR.start
  | @step a t h1 h2 h3 h4 ih =>
   intro i hi hl hu
   have Jc := (h.mem a).2 h1
   by_cases H8 : t = (L[i]).1
   ·-- the block of a
    obtain ⟨k, hk, hka, hkb⟩ : ∃ (k : Nat) (hk : k < L.length), (L[k]).1 ≤ a ∧ a < (L[k]).2 := by
     obtain ⟨p, hp, q1, q2⟩ := h'.cover Jc
     rw [hL] at hp
     obtain ⟨k, hk, ek⟩ := List.getElem_of_mem hp
     exact ⟨k, hk, by rw [ek]; exact q1, by rw [ek]; exact q2⟩
    have hg := ih k hk hka hkb
    by_cases eY : a = (L[k]).2 - 1
    ·refine GR.step hg (iu c L hk) ?_
     simp only
     unfold dR
     rw [x8]
     refine ⟨t, ?_, by rw [H8, Hs h hi]⟩
     unfold jw
     have e1 : L.getD k (0, 0) = L[k] := by simp [List.getD, List.getElem?_eq_getElem hk]
     rw [e1, ← eY]
     exact h2
    ·exfalso
     have hin := h'.cJ (p := L[k]) (by rw [hL]; exact List.getElem_mem hk) (x := a + 1) TX TX
     have hb := hin.2.br
     rw [show a + 1 - 1 = a by omega] at hb
     have ht := (oH hb h2).1
     rcases Nat.lt_trichotomy i k with hlt | rfl | hlt
     ·have := List.pairwise_iff_getElem.1 h.b.sD i k hi hk hlt
      have := (h.b.lo _ (List.getElem_mem hi)).2.1
      omega
     ·omega
     ·have := List.pairwise_iff_getElem.1 h.b.sD k i hk hi hlt
      omega
   ·obtain ⟨Ry, J9⟩ := h'.MU (p := L[i]) (by rw [hL]; exact List.getElem_mem hi) (x := t) TX hu
    have hbr : eA (c a).op = false := by
     rcases hb : eA (c a).op
     ·rfl
     ·have : lQ c st D t = true := (gB c st D t).2 (.inr ⟨a, Jc, by unfold dH; rw [if_pos hb]; exact h2⟩)
      rw [this] at J9; cases J9
    have ht := (oH hbr h2).1
    exact ih i hi TX TX
 intro i hi
 rw [fh] at hi
 have Rv := h.b.lead _ (List.getElem_mem hi)
 have hlo := h.b.lo _ (List.getElem_mem hi)
 exact key _ ((h.mem _).1 Rv.1) i hi (Int.le_refl _) hlo.2.1
section
variable {c c' : Int → bB} {st en : Int}
theorem qT (hlt : st < en) (h : ∀ a, st ≤ a → a < en → c a = c' a) {a : Int} (ha : nU c st en a) : nU c' st en a := by
 induction ha with
 | start => exact .start
 | step h1 h2 h3 h4 ih =>
  have hr := h1.range _ _ _ hlt
  exact .step ih (by rw [← h _ hr.1 hr.2]; exact h2) h3 h4
theorem EF (hlt : st < en) (h : ∀ a, st ≤ a → a < en → c a = c' a) (a : Int) : nU c st en a ↔ nU c' st en a :=
 ⟨qT hlt h, qT hlt (fun a h1 h2 => (h a h1 h2).symm)⟩
theorem xI (h : ∀ a, st ≤ a → a < en → c a = c' a) {a : Int} (h1 : st ≤ a) (h2 : a < en) : nX c st en a ↔ nX c' st en a := by
 unfold nX
 rw [h a h1 h2]
theorem fJ.same {D D' : List Int} {bad KI : Int} (h0 : 0 ≤ st) (hlt : st < en) (h : ∀ a, st ≤ a → a < en → c a = c' a) (hR : fJ c st en D [] bad) (Ed : fJ c' st en D' [] KI) : (∀ x, x ∈ D ↔ x ∈ D') ∧ bad = KI := by
 have hm : ∀ x, x ∈ D ↔ x ∈ D' := fun x => by rw [hR.mem hlt, Ed.mem hlt, EF hlt h]
 have hb : ∀ x, x ∈ D → (nX c st en x ↔ nX c' st en x) := fun x hx => by
  have := (hR.dr x hx).range _ _ _ hlt
  exact xI h this.1 this.2
 refine ⟨hm, ?_⟩
 rcases hR.b with ⟨e, h1⟩ | ⟨e, h1, h2⟩ <;> rcases Ed.b with ⟨e', h1'⟩ | ⟨e', h1', h2'⟩
 ·rw [e, e']
 ·exact absurd ((hb _ ((hm _).2 e')).2 h1') (h1 _ ((hm _).2 e'))
 ·exact absurd ((hb _ e).1 h1) (h1' _ ((hm _).1 e))
 ·have a1 := h2 _ ((hm _).2 e') ((hb _ ((hm _).2 e')).2 h1')
  have a2 := h2' _ ((hm _).1 e) ((hb _ e).1 h1)
  omega
theorem CG {D : List Int} (h : ∀ a ∈ D, c a = c' a) (x : Int) : lQ c st D x = lQ c' st D x := by
 unfold lQ
 congr 1
 apply Bool.eq_iff_iff.2
 simp only [List.any_eq_true, decide_eq_true_eq]
 constructor
 ·rintro ⟨a, ha, hx⟩; exact ⟨a, ha, by rw [← h a ha]; exact hx⟩
 ·rintro ⟨a, ha, hx⟩; exact ⟨a, ha, by rw [h a ha]; exact hx⟩
theorem uZ {D : List Int} (h : ∀ a ∈ D, c a = c' a) : ∀ m, blk c st D m = blk c' st D m
 | 0 => rfl
 | m + 1 => by
  unfold blk
  rw [uZ h m, CG h]
theorem Du {D D' : List Int} (hm : ∀ x, x ∈ D ↔ x ∈ D') (h : ∀ a ∈ D, c a = c' a) (m : Nat) : blk c st D m = blk c' st D' m := by
 rw [uZ h m, ng c' st hm m]
theorem nG {L : List (Int × Int)} (h : ∀ p ∈ L, c (p.2 - 1) = c' (p.2 - 1)) {k : Nat} (hk : k < L.length) : dR c L k = dR c' L k := by
 unfold dR jw
 have e : L.getD k (0, 0) = L[k] := by simp [List.getD, List.getElem?_eq_getElem hk]
 rw [e, h _ (List.getElem_mem hk)]
theorem wX {L : List (Int × Int)} (h : ∀ p ∈ L, c (p.2 - 1) = c' (p.2 - 1)) : dS c L = dS c' L := by
 unfold dS
 apply List.map_congr_left
 intro k hk
 rw [nG h (List.mem_range.1 hk)]
theorem wW {L : List (Int × Int)} (h : ∀ p ∈ L, c (p.2 - 1) = c' (p.2 - 1)) : gD c L = gD c' L := by
 unfold gD
 apply List.map_congr_left
 intro p hp
 unfold jv
 congr 1
 apply List.filter_congr
 intro b hb
 rw [nG h (List.mem_range.1 hb)]
end
structure Mf where
 G : List ew
 P : List (List Int)
 at_ : Int
 er : Int
inductive Out (c : Int → bB) (st en : Int) : Mf → Prop
 | bad (D : List Int) (bad : Int) (h0 : 0 ≤ bad) (h : fJ c st en D [] bad) : Out c st en ⟨[], [], bad, 10⟩
 | ok (D : List Int) (h : fJ c st en D [] (-1)) : Out c st en ⟨dS c (blk c st D (en - st).toNat), gD c (blk c st D (en - st).toNat), -1, 0⟩
theorem Out.same {c c' : Int → bB} {st en : Int} {r r' : Mf} (h0 : 0 ≤ st) (hlt : st < en) (hc : ∀ a, st ≤ a → a < en → c a = c' a) (h : Out c st en r) (h' : Out c' st en r') : r = r' := by
 have Fh : ∀ (D D' : List Int) (b b' : Int), fJ c st en D [] b → fJ c' st en D' [] b' → (∀ x, x ∈ D ↔ x ∈ D') ∧ b = b' := fun D D' b b' h1 h2 => fJ.same h0 hlt hc h1 h2
 cases h with
 | bad D b hb hR =>
  cases h' with
  | bad D' b' hb' Ed => rw [(Fh _ _ _ _ hR Ed).2]
  | ok D' Ed => have := (Fh _ _ _ _ hR Ed).2; omega
 | ok D hR =>
  cases h' with
  | bad D' b' hb' Ed => have := (Fh _ _ _ _ hR Ed).2; omega
  | ok D' Ed =>
   obtain ⟨hm, _⟩ := Fh _ _ _ _ hR Ed
   have hD : ∀ a ∈ D, c a = c' a := fun a ha => by
    have := (hR.dr a ha).range _ _ _ hlt
    exact hc a this.1 this.2
   rw [← Du hm hD]
   have hL : ∀ p ∈ blk c st D (en - st).toNat, c (p.2 - 1) = c' (p.2 - 1) := fun p hp => hD _ ((mA c st D _).last p hp)
   rw [wX hL, wW hL]
theorem AE (cv ev : Value) (sh lk : Int) (n : Nat) (cd : Nat → Int) (aY : List tF) (k : Nat) (e : tF) (w : World) (T : fM w) (HW : Words w cv n cd) (HE : td w ev aY) (hg : nJ n cd aY sh lk) (he : aY[k]? = some e) :
  Calls Tryz.prog 19 #[.agg #[cv, ev, .int .i64 sh, .int .i64 lk], .int .i64 (k : Int)] w fun x w' => ∃ (r : Mf) (bv pv : Value), Out (aF cd) e.st e.en r ∧ x = .returned (.tuple #[.agg #[bv, pv], .int .i64 r.at_, .int .i64 r.er]) ∧ jH w' bv r.G ∧ vw w' pv r.P ∧ Below w.heap.size w w' := by
 have hk := (List.getElem?_eq_some_iff.1 he).1
 refine (AG cv ev sh lk n cd aY k w T HW HE).mono fun x w' h => ?_
 rcases h with ⟨h, _⟩ | ⟨_, h, _⟩ | ⟨_, k', en, D, bad, hk', he', hb, hR, hx, hbl⟩ | ⟨_, k', en, D, L, bv, pv, hk', he', hR, hL, hx, h1, h2, hbl⟩
 ·exact absurd hg h
 ·omega
 ·obtain rfl : k = k' := by omega
  rw [he] at he'
  cases he'
  exact ⟨_, _, _, .bad D bad hb hR, hx, ⟨none, 0, rfl, Nat.le_refl _, by unfold maxLen; omega, fun h => by simp at h⟩, ⟨none, 0, rfl, Nat.le_refl _, by unfold maxLen; omega, fun h => by simp at h⟩, hbl⟩
 ·obtain rfl : k = k' := by omega
  rw [he] at he'
  cases he'
  subst hL
  exact ⟨_, bv, pv, .ok D hR, hx, h1, h2, hbl⟩
end
end Go.Proofs.YtebklpnkcicpjaaGreatDoor
