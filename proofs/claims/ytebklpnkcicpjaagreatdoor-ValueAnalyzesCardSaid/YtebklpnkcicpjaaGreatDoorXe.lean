/-
  What is proved here: parts bCc.
-/
import Derived.Test.YtebklpnkcicpjaaGreatDoorXa
import Derived.Test.YtebklpnkcicpjaaGreatDoorXd
namespace Go.Proofs.YtebklpnkcicpjaaGreatDoor
set_option linter.unusedVariables false
set_option linter.unusedSimpArgs false
set_option maxRecDepth 100000
set_option maxHeartbeats 8000000
section
open Go.RowKit
def iM (L : List (Int × Int)) : List Value := L.flatMap fun p => [.int .i64 p.1, .int .i64 p.2, .slice none 0 0]
theorem pI (L : List (Int × Int)) : (iM L).length = L.length * 3 := by
 induction L with
 | nil => rfl
 | cons p L ih => simp only [iM, List.flatMap_cons, List.length_append, List.length_cons, List.length_nil] at ih ⊢; omega
theorem jU (L : List (Int × Int)) (a b : Int) : iM (L ++ [(a, b)]) = iM L ++ [.int .i64 a, .int .i64 b, .slice none 0 0] := by simp [iM]
theorem Ea (L : List (Int × Int)) (a b t : Int) : (iM (L ++ [(a, b)])).set (L.length * 3 + 1) (.int .i64 t) = iM (L ++ [(a, t)]) := by
 rw [jU, jU, ← pI, List.set_append_right _ _ abo]
 simp
theorem xV (L : List (Int × Int)) (a b : Int) : (iM (L ++ [(a, b)]))[L.length * 3 + 1]? = some (.int .i64 b) := by
 rw [jU, ← pI, List.getElem?_append_right abo]
 simp
structure BM (V wr : World) (gb nb : Nat) (bv : Value) (L : List (Int × Int)) : Prop where
 gV : gb < V.heap.size
 nV : nb < V.heap.size
 gn : gb ≠ nb
 os : wr.os = V.os
 tape : wr.tape = V.tape
 output : wr.output = V.output
 sz : V.heap.size ≤ wr.heap.size
 blk : ∀ k, k < V.heap.size → k ≠ gb → k ≠ nb → wr.heap[k]? = V.heap[k]?
 g : wr.heap[gb]? = some (.cells #[bv, .slice none 0 0] 30 (0, 0))
 num : Im wr nb (Bc L)
 row : wr.ownsRow V.heap.size 36 3 bv L.length (iM L)
theorem BM.below {V wr wr' : World} {gb nb : Nat} {bv : Value} {L : List (Int × Int)} (h : BM V wr gb nb bv L) (hb : Below wr.heap.size wr wr') : BM V wr' gb nb bv L :=
 ⟨h.gV, h.nV, h.gn, hb.os.trans h.os, hb.tape.trans h.tape, hb.output.trans h.output, Nat.le_trans h.sz hb.size, fun k h1 h2 h3 => (hb.block k (by have := h.sz; omega)).trans (h.blk k h1 h2 h3), (hb.block _ (by have := h.sz; have := h.gV; omega)).trans h.g, h.num.below hb h.num.lt, bk h.row hb⟩
theorem sH (w : World) (a b c : Value) (t : TypeId) : ∀ j u, [a, b, c][j]? = some u → (w.alloc (.cells #[a, b, c] t)).cell? ((⟨w.heap.size, 0, none⟩ : Addr).add j) = some u := by
 intro j u h
 have e : (⟨w.heap.size, 0, none⟩ : Addr).add j = ⟨w.heap.size, j, none⟩ := by cases j <;> simp [Addr.add]
 rw [e]
 unfold World.cell?
 rw [heap_alloc_new]
 simpa using h
theorem D9 (L : List (Int × Int)) : lf L (fun _ => .slice none 0 0) = iM L := by
 apply List.ext_getElem?
 intro q
 by_cases hq : q < L.length * 3
 ·obtain ⟨a, b, hb, rfl⟩ : ∃ a b, b < 3 ∧ q = a * 3 + b := ⟨q / 3, q % 3, Nat.mod_lt _ abo, by omega⟩
  have ha : a < L.length := by omega
  rw [gD L _ ha hb]
  have : ∀ (L : List (Int × Int)) (a b : Nat), a < L.length → b < 3 → (iM L)[a * 3 + b]? = [.int .i64 (L.getD a (0, 0)).1, .int .i64 (L.getD a (0, 0)).2, .slice none 0 0][b]? := by
   intro L
   induction L with
   | nil => intro a b h; simp at h
   | cons p L ih =>
    intro a b h hb
    have e : iM (p :: L) = [.int .i64 p.1, .int .i64 p.2, .slice none 0 0] ++ iM L := by simp [iM]
    rw [e]
    cases a with
    | zero => rw [List.getElem?_append_left abA]; simp
    | succ a =>
     rw [List.getElem?_append_right abA]
     have := ih a b (by simp at h; omega) hb
     rw [show (a + 1) * 3 + b - [Value.int .i64 p.1, .int .i64 p.2, .slice none 0 0].length = a * 3 + b by simp; omega, this]
     simp [List.getD]
  exact (this L a b ha hb).symm
 ·rw [List.getElem?_eq_none (by rw [lT]; omega), List.getElem?_eq_none (by rw [pI]; omega)]
theorem vV {w : World} {b : Nat} {o : Obj} (h : w.heap[b]? = some o) : b < w.heap.size := (Array.getElem?_eq_some_iff.1 h).1
theorem Pa : (Tryz.prog.info? 36).map (fun i => (i.zero, i.size, i.bytes)) = some (some (.agg #[.int .i64 0, .int .i64 0, .slice none 0 0]), 3, 40) := by kernel_rfl
theorem BM.im {V wr : World} {gb nb x : Nat} {bv : Value} {L : List (Int × Int)} {f : Int → Option Value} (h : BM V wr gb nb bv L) (hx : Im V x f) (h1 : x ≠ gb) (h2 : x ≠ nb) : Im wr x f := hx.keep (h.blk x hx.lt h1 h2)
theorem BM.xd {V wr : World} {gb nb : Nat} {bv : Value} {L : List (Int × Int)} (h : BM V wr gb nb bv L) {j : Nat} (hj : bv.ownBlock = some j) : V.heap.size ≤ j ∧ j < wr.heap.size := h.row.lt j hj
theorem BM.j9 {V wr : World} {gb nb g cap : Nat} {M : List (Int × Int)} {a b t : Int} (h : BM V wr gb nb (.slice (some ⟨g, 0, none⟩) (M.length + 1) cap) (M ++ [(a, b)])) : BM V (wr.setCell ⟨g, M.length * 3 + 1, none⟩ (.int .i64 t)) gb nb (.slice (some ⟨g, 0, none⟩) (M.length + 1) cap) (M ++ [(a, t)]) := by
 have hr := h.row
 rw [show (M ++ [(a, b)]).length = M.length + 1 by simp] at hr
 obtain ⟨r1, r2⟩ := hr.stored (M.length * 3 + 1) (.int .i64 t)
 have hg := (h.xd (j := g) rfl)
 have Hf := h.gV
 have MZ := h.nV
 refine ⟨h.gV, h.nV, h.gn, h.os, h.tape, h.output, by simpa using h.sz, fun k h1 h2 h3 => ?_, ?_, ?_, ?_⟩
 ·rw [Below.heap_setCell _ _ _ _ (by show k ≠ g; omega)]; exact h.blk k h1 h2 h3
 ·rw [Below.heap_setCell _ _ _ _ (by show gb ≠ g; omega)]; exact h.g
 ·rw [JP M a t b]
  exact h.num.keep (Below.heap_setCell _ _ _ _ (by show nb ≠ g; omega))
 ·rw [show (M ++ [(a, t)]).length = M.length + 1 by simp, ← Ea M a b t]
  exact r1
theorem BM.app {V wr w2 w3 : World} {gb nb : Nat} {bv v' : Value} {L : List (Int × Int)} {a : Int} {o : Obj} (h : BM V wr gb nb bv L) (hm : Im w2 nb (Bc (L ++ [(a, 0)]))) (ho : w2.os = wr.os) (ht : w2.tape = wr.tape) (hp : w2.output = wr.output) (hs : w2.heap.size = wr.heap.size) (hk : ∀ i, i ≠ nb → w2.heap[i]? = wr.heap[i]?)
  (hg : (w2.alloc o).grownBy w3 bv.ownBlock) (hown : w3.ownsRow V.heap.size 36 3 v' (L.length + 1) (iM (L ++ [(a, 0)]))) : BM V (w3.setCell ⟨gb, 0, none⟩ v') gb nb v' (L ++ [(a, 0)]) := by
 have Hf := h.gV
 have MZ := h.nV
 have hgn := h.gn
 have hsz := h.sz
 have hrl : ∀ j, bv.ownBlock = some j → V.heap.size ≤ j := fun j hj => (h.xd hj).1
 have hb : ∀ k, k < V.heap.size → w3.heap[k]? = w2.heap[k]? := fun k hk => by
  rw [hg.block k abD (fun e => by have := hrl k e.symm; omega), heap_alloc_old _ _ abo]
 have hg3 : w3.heap[gb]? = some (.cells #[bv, .slice none 0 0] 30 (0, 0)) := (hb gb Hf).trans ((hk gb hgn).trans h.g)
 have Ty := hg.size
 rw [World.size_alloc] at Ty
 refine ⟨h.gV, h.nV, h.gn, ?_, ?_, ?_, by simp; omega, fun k h1 h2 h3 => ?_, ?_, ?_, ?_⟩
 ·exact hg.os.trans (ho.trans h.os)
 ·exact hg.tape.trans (ht.trans h.tape)
 ·exact hg.output.trans (hp.trans h.output)
 ·rw [Below.heap_setCell _ _ _ _ (by exact h2)]
  exact (hb k h1).trans ((hk k h3).trans (h.blk k h1 h2 h3))
 ·have := heap_setCell_same w3 gb 0 _ _ v' hg3
  rw [this]
  rfl
 ·exact hm.keep ((Below.heap_setCell _ _ _ _ (by exact Ne.symm hgn)).trans (hb nb MZ))
 ·rw [show (L ++ [(a, (0 : Int))]).length = L.length + 1 by simp]
  refine ownsRow_setCell_other hown ?_ _
  intro e
  have := (hown.lt gb e).1
  omega
def Qv (B : Nat) (bv pv : Value) : Prop := (∀ q, bv.ownBlock = some q → B ≤ q) ∧ ∀ q, pv.ownBlock = some q → B ≤ q
theorem uU (cv ev : Value) (sh lk : Int) (n : Nat) (cd : Nat → Int) (aM : List nE) (task : Int) (w : World) (T : iU w) (HW : Words w cv n cd) (HE : nD w ev aM) :
  Calls Tryz.prog 19 #[.agg #[cv, ev, .int .i64 sh, .int .i64 lk], .int .i64 task] w fun e w' =>
   (¬ jf n cd aM sh lk ∧ e = .returned (.tuple #[.agg #[.slice none 0 0, .slice none 0 0], .int .i64 (-1), .int .i64 3]) ∧ Below w.heap.size w w') ∨
   (jf n cd aM sh lk ∧ (task < 0 ∨ (aM.length : Int) ≤ task) ∧ e = .returned (.tuple #[.agg #[.slice none 0 0, .slice none 0 0], .int .i64 (-1), .int .i64 2]) ∧ Below w.heap.size w w') ∨
   (jf n cd aM sh lk ∧ ∃ (k : Nat) (en : nE) (D : List Int) (bad : Int), task = (k : Int) ∧ aM[k]? = some en ∧ 0 ≤ bad ∧ fU (aA cd) en.st en.en D [] bad ∧ e = .returned (.tuple #[.agg #[.slice none 0 0, .slice none 0 0], .int .i64 bad, .int .i64 10]) ∧ Below w.heap.size w w') ∨
   (jf n cd aM sh lk ∧ ∃ (k : Nat) (en : nE) (D : List Int) (L : List (Int × Int)) (bv pv : Value), task = (k : Int) ∧ aM[k]? = some en ∧ fU (aA cd) en.st en.en D [] (-1) ∧ blk (aA cd) en.st D (en.en - en.st).toNat = L ∧ e = .returned (.tuple #[.agg #[bv, pv], .int .i64 (-1), .int .i64 0]) ∧ gh w' bv (cJ (aA cd) L) ∧ tY w' pv (eG (aA cd) L) ∧ Below w.heap.size w w' ∧ Qv w.heap.size bv pv) := by
 have hn := HW.le
 obtain ⟨A, cap, hcv, hc1, hc2, hrd⟩ := HW.at_
 obtain ⟨EA, kE, hev, he1, he2, TS⟩ := HE.at_
 have h63 : aM.length ≤ 2 ^ 63 - 1 := by unfold maxLen at he2; omega
 have AO := acD HW
 have IW := acD HE
 have HT := acD T
 clear hrd TS HW HE T
 subst hcv hev
 obtain ⟨V0, gZ⟩ : ∃ V0, (w.alloc (.cells #[.slice A n cap, .slice EA aM.length kE, .int .i64 sh, .int .i64 lk] 25)).alloc (.cells #[.slice none 0 0, .slice none 0 0] 30) = V0 := ⟨_, rfl⟩
 have b0 : Below w.heap.size w V0 := gZ ▸ ((Below.refl _ _).alloc (Nat.le_refl _) _).alloc aby _
 have s0 : w.heap.size + 2 = V0.heap.size := by rw [← gZ]; simp
 have k0 : V0.heap[w.heap.size]? = some (.cells #[.slice A n cap, .slice EA aM.length kE, .int .i64 sh, .int .i64 lk] 25) := by rw [← gZ, heap_alloc_old _ _ aby]; exact heap_alloc_new _ _
 have k1 : V0.heap[w.heap.size + 1]? = some (.cells #[.slice none 0 0, .slice none 0 0] 30) := by rw [← gZ]; exact bB _ _ aby
 have y0 : V0.cell? ⟨w.heap.size, 0, none⟩ = some (.slice A n cap) := by simp [World.cell?, k0]
 have y1 : V0.cell? ⟨w.heap.size, 1, none⟩ = some (.slice EA aM.length kE) := by simp [World.cell?, k0]
 have y2 : V0.cell? ⟨w.heap.size, 2, none⟩ = some (.int .i64 sh) := by simp [World.cell?, k0]
 have y3 : V0.cell? ⟨w.heap.size, 3, none⟩ = some (.int .i64 lk) := by simp [World.cell?, k0]
 have K0 := acD k0
 have K1 := acD k1
 have B0 := acD b0
 have Q8 := acD (Em (.slice A n cap) (.slice EA aM.length kE) sh lk n cd aM V0 (HT.out.below b0) (AO.out.below b0) (IW.out.below b0))
 have f0 : V0.frozen? ⟨w.heap.size + 1, 0, none⟩ = false := by simp [World.frozen?, k1]
 have f1 : V0.frozen? ⟨w.heap.size + 1, 1, none⟩ = false := by simp [World.frozen?, k1]
 have r0 : V0.cell? ⟨w.heap.size + 1, 0, none⟩ = some (.slice none 0 0) := by simp [World.cell?, k1]
 have r1 : V0.cell? ⟨w.heap.size + 1, 1, none⟩ = some (.slice none 0 0) := by simp [World.cell?, k1]
 have s1 : w.heap.size + 1 < V0.heap.size := by omega
 have s2 : w.heap.size < V0.heap.size := by omega
 clear k0 k1 b0
 by_cases hg : jf n cd aM sh lk
 case neg =>
  have HC := acD (show Calls Tryz.prog 53 #[.agg #[.slice A n cap, .slice EA aM.length kE, .int .i64 sh, .int .i64 lk]] V0 fun e w' => ∃ r, e = .returned (.int .i64 r) ∧ (r != 0) = true ∧ ∃ y : Ext V0, y.w = w' from Q8.out.mono fun e w' ⟨⟨r, h1, h2⟩, h3⟩ => ⟨r, h1, by simp; intro h; exact hg (h2.1 h), ⟨w', h3⟩, rfl⟩)
  go_enter Tryz.func19, Tryz.ntmps19
  go_upto_region 1 with fail
  clear gZ
  go_wp2_with (go_at_call 53; refine HC.out.mono ?_; rintro e w' ⟨r, rfl, dr, y, rfl⟩)
  refine bodyPost_ret (v := .tuple #[.agg #[.slice none 0 0, .slice none 0 0], .int .i64 (-1), .int .i64 3]) abU rfl (.inl ⟨hg, rfl, ?_⟩)
  refine Below.setCell (Below.setCell (Ext.below B0.out abo y) ?_ _) ?_ _ <;> simp
 have HC := acD (show Calls Tryz.prog 53 #[.agg #[.slice A n cap, .slice EA aM.length kE, .int .i64 sh, .int .i64 lk]] V0 fun e w' => e = .returned (.int .i64 0) ∧ ∃ y : Ext V0, y.w = w' from Q8.out.mono fun e w' ⟨⟨r, h1, h2⟩, h3⟩ => ⟨by rw [h1, h2.2 hg], ⟨w', h3⟩, rfl⟩)
 have Ow := acD hg
 clear hg Q8
 by_cases ht : task < 0 ∨ (aM.length : Int) ≤ task
 case pos =>
  go_enter Tryz.func19, Tryz.ntmps19
  go_upto_region 1 with fail
  clear gZ
  by_cases h0 : task < 0
  ·have d0 : decide (task < 0) = true := decide_eq_true h0
   go_wp2_with (go_at_call 53; refine HC.out.mono ?_; rintro e w' ⟨rfl, y, rfl⟩)
   refine bodyPost_ret (v := .tuple #[.agg #[.slice none 0 0, .slice none 0 0], .int .i64 (-1), .int .i64 2]) abU rfl (.inr (.inl ⟨Ow.out, ht, rfl, ?_⟩))
   refine Below.setCell (Below.setCell (Ext.below B0.out abo y) ?_ _) ?_ _ <;> simp
  ·have d0 : decide (task < 0) = false := decide_eq_false h0
   have d1 : decide ((aM.length : Int) ≤ task) = true := decide_eq_true abo
   go_wp2_with (go_at_call 53; refine HC.out.mono ?_; rintro e w' ⟨rfl, y, rfl⟩)
   refine bodyPost_ret (v := .tuple #[.agg #[.slice none 0 0, .slice none 0 0], .int .i64 (-1), .int .i64 2]) abU rfl (.inr (.inl ⟨Ow.out, ht, rfl, ?_⟩))
   refine Below.setCell (Below.setCell (Ext.below B0.out abo y) ?_ _) ?_ _ <;> simp
 obtain ⟨k, rfl⟩ : ∃ k : Nat, task = (k : Int) := ⟨task.toNat, by omega⟩
 have hk : k < aM.length := by omega
 have d0 : decide ((k : Int) < 0) = false := decide_eq_false abo
 have d1 : decide ((aM.length : Int) ≤ (k : Int)) = false := decide_eq_false abo
 obtain ⟨e, b, off, he, rfl, hbl, c0, c1, c2, c3⟩ := IW.out.cells B0.out hk
 have hem := List.mem_of_getElem? he
 obtain ⟨g1, g2, g3⟩ := Ow.out.ch.bounds e hem
 have hb2 : b < V0.heap.size := by omega
 have hcd := Ow.out.code
 clear ht IW
 go_enter Tryz.func19, Tryz.ntmps19
 go_upto_region 1 with fail
 clear gZ
 go_upto_region 6 with (go_at_call 53; refine HC.out.mono ?_; rintro e w' ⟨rfl, y, rfl⟩)
 obtain ⟨W1, hW1⟩ : ∃ W1, y.w.alloc (.cells #[.string e.nm, .int .i64 e.st, .int .i64 e.en, .int .i64 e.da] 115) = W1 := ⟨_, rfl⟩
 have bW : Below V0.heap.size V0 W1 := hW1 ▸ y.h.alloc y.h.size _
 have kW : W1.heap[y.w.heap.size]? = some (.cells #[.string e.nm, .int .i64 e.st, .int .i64 e.en, .int .i64 e.da] 115) := hW1 ▸ heap_alloc_new _ _
 have sW : y.w.heap.size < W1.heap.size := by rw [← hW1]; simp
 have sy := y.h.size
 rw [hW1]
 obtain ⟨q, hq⟩ : ∃ q, y.w.heap.size = q := ⟨_, rfl⟩
 rw [hq] at kW sW sy ⊢
 have B1 := acD (B0.out.trans (bW.mono abo))
 have AR := acD (CD (.slice A n cap) (.slice (some ⟨b, off, none⟩) aM.length kE) sh lk e.nm e.st e.en e.da n cd W1 (HT.out.below B1.out) (AO.out.below B1.out) g1 g2 g3)
 have z0 : W1.cell? ⟨w.heap.size, 0, none⟩ = some (.slice A n cap) := by rw [bW.cell (p := ⟨w.heap.size, 0, none⟩) s2]; exact y0
 have z1 : W1.cell? ⟨w.heap.size, 1, none⟩ = some (.slice (some ⟨b, off, none⟩) aM.length kE) := by rw [bW.cell (p := ⟨w.heap.size, 1, none⟩) s2]; exact y1
 have z2 : W1.cell? ⟨w.heap.size, 2, none⟩ = some (.int .i64 sh) := by rw [bW.cell (p := ⟨w.heap.size, 2, none⟩) s2]; exact y2
 have z3 : W1.cell? ⟨w.heap.size, 3, none⟩ = some (.int .i64 lk) := by rw [bW.cell (p := ⟨w.heap.size, 3, none⟩) s2]; exact y3
 have v0 : W1.cell? ⟨q, 0, none⟩ = some (.string e.nm) := by simp [World.cell?, kW]
 have v1 : W1.cell? ⟨q, 1, none⟩ = some (.int .i64 e.st) := by simp [World.cell?, kW]
 have v2 : W1.cell? ⟨q, 2, none⟩ = some (.int .i64 e.en) := by simp [World.cell?, kW]
 have v3 : W1.cell? ⟨q, 3, none⟩ = some (.int .i64 e.da) := by simp [World.cell?, kW]
 have kR : W1.heap[w.heap.size + 1]? = some (.cells #[.slice none 0 0, .slice none 0 0] 30) := (bW.block _ s1).trans K1.out
 have s3 : w.heap.size + 1 < W1.heap.size := by omega
 have KW := acD kW
 have KR := acD kR
 clear hW1 hq kW kR bW y y0 y1 y2 y3 r0 r1 f0 f1 c0 c1 c2 c3 HC K0 K1 B0 d0 d1
 go_upto_region 7 with (go_at_call 54; refine AR.out.mono ?_; rintro e' W2 ⟨D, bad, fb, rfl, hfb, Wv, WD, zU⟩)
 have NZ := (zU.block _ s3).trans KR.out
 have VI := (zU.block _ sW).trans KW.out
 have r0 : W2.cell? ⟨w.heap.size + 1, 0, none⟩ = some (.slice none 0 0) := by simp [World.cell?, NZ]
 have r1 : W2.cell? ⟨w.heap.size + 1, 1, none⟩ = some (.slice none 0 0) := by simp [World.cell?, NZ]
 have f0 : W2.frozen? ⟨w.heap.size + 1, 0, none⟩ = false := by simp [World.frozen?, NZ]
 have f1 : W2.frozen? ⟨w.heap.size + 1, 1, none⟩ = false := by simp [World.frozen?, NZ]
 have B2 := acD (B1.out.trans (zU.mono abo))
 have IM := acD Wv
 have Yr := zU.size
 have Md := acD WD
 have Ok := acD VI
 have Qy := acD NZ
 clear Wv z0 z1 z2 z3 v0 v1 v2 v3 KW KR B1 AR zU WD NZ VI
 rcases Classical.em (bad = -1) with hbd | hbd
 case inr =>
  have Wm : 0 ≤ bad := by
   rcases IM.out.b with h | h
   ·exact absurd h.1 hbd
   ·have := (IM.out.dr bad h.1).range _ _ _ g2
    omega
  have dd : decide (0 ≤ bad) = true := decide_eq_true Wm
  go_wp2_with fail
  refine bodyPost_ret (v := .tuple #[.agg #[.slice none 0 0, .slice none 0 0], .int .i64 bad, .int .i64 10]) abU rfl (.inr (.inr (.inl ⟨Ow.out, k, e, D, bad, rfl, he, Wm, IM.out, rfl, ?_⟩)))
  refine Below.setCell (Below.setCell B2.out ?_ _) ?_ _ <;> simp
 subst hbd
 have T2 : ∀ a ∈ D, (0 ≤ a ∧ a ≤ 1000000) ∧ (-1000000 ≤ (aA cd a).aS ∧ (aA cd a).aS ≤ 1000000) := fun a ha => by
  have h1 := (IM.out.dr a ha).range _ _ _ g2
  have h2 := sw (cd a.toNat) (AO.out.wd a.toNat abo).1
  unfold aA
  omega
 have KP := acD (xD e.nm e.st e.en e.da fb (aA cd) D W2 abo T2 Md.out)
 have SK := acD T2
 have v0 : W2.cell? ⟨q, 0, none⟩ = some (.string e.nm) := by simp [World.cell?, Ok.out]
 have v1 : W2.cell? ⟨q, 1, none⟩ = some (.int .i64 e.st) := by simp [World.cell?, Ok.out]
 have v2 : W2.cell? ⟨q, 2, none⟩ = some (.int .i64 e.en) := by simp [World.cell?, Ok.out]
 have v3 : W2.cell? ⟨q, 3, none⟩ = some (.int .i64 e.da) := by simp [World.cell?, Ok.out]
 clear r0 r1 f0 f1 T2
 go_upto_region 10 with (go_at_call 55; refine KP.out.mono ?_; rintro e' W3 ⟨mb, mg, rfl, hmb, Wy, Ua, hb3⟩)
 have mk := fun W : World => (show (Instr.makeMap 121 none).run Tryz.prog W = .ok (.map (some W.heap.size)) (W.alloc (.map #[] 0)) from rfl)
 obtain ⟨V, hV⟩ : ∃ V, (W3.alloc (.cells #[.slice none 0 0, .slice none 0 0] 30)).alloc (.map #[] 0) = V := ⟨_, rfl⟩
 have sV : W3.heap.size + 2 = V.heap.size := by rw [← hV]; simp
 have bV : Below W3.heap.size W3 V := hV ▸ ((Below.refl _ _).alloc (Nat.le_refl _) _).alloc aby _
 have kg : V.heap[W3.heap.size]? = some (.cells #[.slice none 0 0, .slice none 0 0] 30) := by rw [← hV, heap_alloc_old _ _ aby]; exact heap_alloc_new _ _
 have kn : Im V (W3.heap.size + 1) (Bc []) := by
  rw [← hV, JQ]
  have := Im.made (W3.alloc (.cells #[.slice none 0 0, .slice none 0 0] 30))
  rwa [World.size_alloc] at this
 have Vy := hb3.size
 have Tm : V.heap[q]? = _ := (bV.block _ abo).trans ((hb3.block _ abo).trans Ok.out)
 have VJ : V.heap[w.heap.size + 1]? = _ := (bV.block _ abo).trans ((hb3.block _ abo).trans Qy.out)
 have WG := Md.out.lt
 have Nd : Im V fb (tG (aA cd) D) := Md.out.keep ((bV.block _ abo).trans (hb3.block _ WG))
 have Wx := Ua.lt
 have WA : Im V mb mg := Ua.keep (bV.block _ Wx)
 have Uh : Below w.heap.size w V := B2.out.trans ((hb3.mono (by have := B2.out.size; omega)).trans (bV.mono (by have := B2.out.size; omega)))
 have u1 : V.cell? ⟨q, 1, none⟩ = some (.int .i64 e.st) := by simp [World.cell?, Tm]
 have ZI := acD Tm
 have Xg := acD VJ
 have XR := acD Nd
 have Vb := acD WA
 have B3 := acD Uh
 have SR := acD (show BM V V W3.heap.size (W3.heap.size + 1) (.slice none 0 0) (blk (aA cd) e.st D 0) from ⟨by omega, by omega, by omega, rfl, rfl, rfl, Nat.le_refl _, fun _ _ _ _ => rfl, kg, kn, World.ownsRow_nil _ _ _ _⟩)
 have XF := acD Wy
 have v1' : W3.cell? ⟨q, 1, none⟩ = some (.int .i64 e.st) := by rw [hb3.cell (p := ⟨q, 1, none⟩) (by show q < _; omega)]; exact v1
 clear Tm VJ Nd WA Uh kg kn bV Ua Wy hb3 v0 v1 v2 v3 KP Ok Qy Md
 go_upto_region 13 with fail
 clear hV
 obtain ⟨gb, hgb⟩ : ∃ gb, W3.heap.size = gb := ⟨_, rfl⟩
 rw [hgb] at SR sV Vy ⊢
 obtain ⟨nb, hnb⟩ : ∃ nb, gb + 1 = nb := ⟨_, rfl⟩
 rw [hnb] at SR ⊢
 have hfg : fb < gb := by omega
 have hmg : mb < gb := by omega
 obtain ⟨i1, hi1, hy0, hy1, hy2⟩ := info_parts Pa
 have hqg : q < gb := by omega
 have hwg : w.heap.size + 1 < gb := by omega
 have PS : e.st ∈ D := by rcases IM.out.s with h | h; exact h; cases h
 clear u1 v1' mk hk hbl hb2 sy sW s3 Yr hfb hmb WG Wx Vy hgb hc1 hc2 he1 he2 h63 s0 s1 s2
 go_loopw [13, 14, 15] (fun a13 a14 a15 wr => ∃ (m : Nat) (bv : Value), a13 = .int .i64 (e.st + (m : Int)) ∧ e.st + (m : Int) ≤ e.en ∧ BM V wr gb nb bv (blk (aA cd) e.st D m)) (fun a13 _ _ _ => (e.en - intOf a13).toNat)
 case atStart => exact ⟨0, _, by simp, by simp; omega, SR.out⟩
 case round =>
  obtain ⟨m, bv, rfl, hme, hM⟩ := hrel
  have HM := acD hM
  clear hM SR
  have kq := (HM.out.blk q abo abo abo).trans ZI.out
  have v2 : wr.cell? ⟨q, 2, none⟩ = some (.int .i64 e.en) := by simp [World.cell?, kq]
  have hF := HM.out.im XR.out abo abo
  have PN := HM.out.im Vb.out abo abo
  have WL := oB (aA cd) e.st D m
  have I0 := acD WL
  have hbl := vX (aA cd) e.st D m
  clear kq WL
  by_cases hlt : e.st + (m : Int) < e.en
  ·-- aav
   have dl : decide (e.st + (m : Int) < e.en) = true := decide_eq_true hlt
   have wr1 : IntKind.i64.wrap (e.st + (m : Int) + 1) = e.st + (m : Int) + 1 := IntWalk.i64_in _ abo
   have hm4 : m ≤ 4096 := by omega
   by_cases hD : e.st + (m : Int) ∈ D
   ·have l1 := hF.jz (P := Tryz.prog) (kt := 3) (t := 116) (e := 64) Tryz.underlying3 Tryz.underlying116 (k := e.st + (m : Int)) (v := (aA cd (e.st + m)).val) (by unfold tG; rw [if_pos hD]) true
    obtain ⟨i, hi⟩ : ∃ i, aA cd (e.st + m) = i := ⟨_, rfl⟩
    rw [hi] at l1
    simp only [↓reduceIte, aZ.val, kv] at l1
    obtain ⟨X1, T6⟩ : ∃ X1, wr.alloc (.cells #[.int .u8 i.op, .int .i64 i.a, .int .i64 i.b, .int .i64 i.c, .int .i64 i.aS] 64) = X1 := ⟨_, rfl⟩
    have b1 : Below wr.heap.size wr X1 := T6 ▸ (Below.refl _ _).alloc (Nat.le_refl _) _
    have yJ := acD (HM.out.below b1)
    have PR : Im X1 mb mg := PN.below b1 PN.lt
    clear hi hF PN
    by_cases hl : oh (aA cd) e.st D (e.st + m) = true
    ·have l2 := PR.jz (P := Tryz.prog) (kt := 3) (t := 119) (e := 4) Tryz.underlying3 Tryz.underlying119 (k := e.st + (m : Int)) (v := .bool true) (by
      rcases XF.out.lead (e.st + m) with h | h
      ·exact h.2
      ·exact absurd ((iZ _ _ _ _).1 hl) h.1) false
     simp only [Bool.false_eq_true, ↓reduceIte, kv] at l2
     have E9 := acD (show blk (aA cd) e.st D (m + 1) = blk (aA cd) e.st D m ++ [(e.st + m, e.st + m + 1)] by rw [blk, if_pos hD, if_pos hl])
     obtain ⟨L, hL⟩ : ∃ L, blk (aA cd) e.st D m = L := ⟨_, rfl⟩
     rw [hL] at E9 yJ I0 hbl HM
     have EN := acD (show ∀ p ∈ L, p.1 ≠ e.st + m from fun p hp => by have := I0.out.lo p hp; omega)
     clear hL hl hD HM PR
     go_upto_region 18 with fail
     clear l1 l2 T6
     obtain ⟨bA, AA, rfl⟩ : ∃ bA AA, bv = .slice bA L.length AA := by
      rcases yJ.out.row.2 with ⟨h, h'⟩ | ⟨g, cap', cur, h, _⟩
      ·exact ⟨_, _, by rw [h, h']⟩
      ·exact ⟨_, _, h⟩
     have t0 : X1.cell? ⟨gb, 0, none⟩ = some (.slice bA L.length AA) := by simp [World.cell?, yJ.out.g]
     obtain ⟨X2, l3, m3, o1, o2, o3, o4, o5⟩ := yJ.out.num.put (P := Tryz.prog) (kt := 3) (t := 121) (e := 3) Tryz.underlying3 Tryz.underlying121 (k := e.st + (m : Int)) (jm abo abo) (.int .i64 (L.length : Int))
     simp only [kv] at l3
     rw [Gq L (e.st + m) 0 EN.out] at m3
     have OL := (yJ.out.row).kept (iK o1 o2 o3 o4 o5) (.inr (fun e' => by have := yJ.out.xd e'; have := yJ.out.nV; omega))
     have DW : gb ≠ nb := by omega
     have Ul := (o5 gb DW).trans yJ.out.g
     have t1 : X2.cell? ⟨gb, 0, none⟩ = some (.slice bA L.length AA) := by simp [World.cell?, Ul]
     have t2 : X2.frozen? ⟨gb, 0, none⟩ = false := by simp [World.frozen?, Ul]
     have IP := acD OL
     have IV := acD (And.intro m3 (And.intro o1 (And.intro o2 (And.intro o3 (And.intro o4 o5)))))
     have DV : gb < X2.heap.size := by have := yJ.out.sz; omega
     have T8 : V.heap.size ≤ X2.heap.size := by have := yJ.out.sz; omega
     have U9 := acD (show some gb ≠ Value.ownBlock (.slice bA L.length AA) from fun e' => by have := yJ.out.xd e'.symm; omega)
     clear OL Ul m3 o1 o2 o3 o4 o5 DW
     go_upto_region 20 with (at_builtin; refine wpList_append_own_at _ rfl (.tmp 79) (.tmp 82) 27 rfl V.heap.size 36 i1 _ 3 40 Tryz.underlying27 hi1 hy0 hy1 hy2 rfl abr (.slice bA L.length AA) _ _ rfl (IP.out.alloc _) ⟨X2.heap.size, 0, none⟩ 1 1 [.int .i64 (e.st + m), .int .i64 0, .slice none 0 0] rfl rfl (sH _ _ _ _ _) abt abv abo abD ?_; intro v' W' hown' hgrow _ qC; obtain ⟨g', cap', rfl⟩ := ownsRow_succ hown'; have hc1 := hgrow.cell (a := ⟨gb, 0, none⟩) (v := .slice bA L.length AA) abF U9.out; have hf1 : W'.frozen? ⟨gb, 0, none⟩ = false := (World.frozen?_of_block (hgrow.block gb abA U9.out)).trans abF)
     have PO := yJ.out.app (a := e.st + m) IV.out.1 IV.out.2.1 IV.out.2.2.1 IV.out.2.2.2.1 IV.out.2.2.2.2.1 IV.out.2.2.2.2.2 hgrow (by rw [jU]; exact hown')
     obtain ⟨X4, Ws⟩ : ∃ X4, W'.setCell ⟨gb, 0, none⟩ (.slice (some ⟨g', 0, none⟩) (L.length + 1) cap') = X4 := ⟨_, rfl⟩
     rw [Ws] at PO ⊢
     have hrw := PO.row
     rw [show (L ++ [(e.st + (m : Int), (0 : Int))]).length = L.length + 1 by simp] at hrw
     have t3 : X4.cell? ⟨gb, 0, none⟩ = some (.slice (some ⟨g', 0, none⟩) (L.length + 1) cap') := by simp [World.cell?, PO.g]
     have t4 : X4.cell? ⟨g', L.length * 3 + 1, none⟩ = some (.int .i64 0) := by rw [hrw.cellAt _ abo]; exact xV L _ _
     have t5 : X4.frozen? ⟨g', L.length * 3 + 1, none⟩ = false := hrw.frozenAt _
     have Y7 : L.length + 1 ≤ cap' := by
      rcases hrw.2 with ⟨h, _⟩ | ⟨_, _, _, h, _, _, h2, _⟩
      ·cases h
      ·cases h; exact h2
     have HMA := acD PO
     clear Ws PO hrw hc1 hf1 qC hgrow hown' t0 t1 t2 l3 IV IP U9 DV T8
     go_wp2_with fail
     go_roundw
     case rel =>
      refine ⟨m + 1, .slice (some ⟨g', 0, none⟩) (L.length + 1) cap', by rw [show ((m + 1 : Nat) : Int) = (m : Int) + 1 by omega, Int.add_assoc], by omega, ?_⟩
      rw [E9.out]
      exact HMA.out.j9
     case measure => simp [intOf]; omega
    ·have l2 := PR.o8 (P := Tryz.prog) (kt := 3) (t := 119) (e := 4) Tryz.underlying3 Tryz.underlying119 (Eu X1) (k := e.st + (m : Int)) (jm abo abo) (by
      rcases XF.out.lead (e.st + m) with h | h
      ·exact absurd ((iZ _ _ _ _).2 h.1) hl
      ·exact h.2) false
     simp only [Bool.false_eq_true, ↓reduceIte, kv] at l2
     have hm0 : 0 < m := by
      rcases Nat.eq_zero_or_pos m with h | h
      ·subst h
       exact absurd (by simpa using zM (aA cd) e.st D) hl
      ·exact h
     obtain ⟨M, pa, pb, hL⟩ := oP _ (I0.out.ne PS hm0)
     have E9 := acD (show blk (aA cd) e.st D (m + 1) = M ++ [(pa, e.st + m + 1)] by rw [blk, if_pos hD, if_neg hl, hL, iy])
     rw [hL] at yJ hbl
     clear hL hl hD HM PR I0
     have hrw := yJ.out.row
     rw [show (M ++ [(pa, pb)]).length = M.length + 1 by simp] at hrw
     obtain ⟨g', cap', rfl⟩ := ownsRow_succ hrw
     have t3 : X1.cell? ⟨gb, 0, none⟩ = some (.slice (some ⟨g', 0, none⟩) (M.length + 1) cap') := by simp [World.cell?, yJ.out.g]
     have t4 : X1.cell? ⟨g', M.length * 3 + 1, none⟩ = some (.int .i64 pb) := by rw [hrw.cellAt _ abo]; exact xV M _ _
     have t5 : X1.frozen? ⟨g', M.length * 3 + 1, none⟩ = false := hrw.frozenAt _
     have Y7 : M.length + 1 ≤ cap' := by
      rcases hrw.2 with ⟨h, _⟩ | ⟨_, _, _, h, _, _, h2, _⟩
      ·cases h
      ·cases h; exact h2
     have Y8 : M.length + 1 ≤ m := by simpa using hbl
     clear hrw hbl
     go_upto_region 20 with fail
     clear l1 l2 T6
     go_wp2_with fail
     go_roundw
     case rel =>
      refine ⟨m + 1, .slice (some ⟨g', 0, none⟩) (M.length + 1) cap', by rw [show ((m + 1 : Nat) : Int) = (m : Int) + 1 by omega, Int.add_assoc], by omega, ?_⟩
      rw [E9.out]
      exact yJ.out.j9
     case measure => simp [intOf]; omega
   ·have l1 := hF.o8 (P := Tryz.prog) (kt := 3) (t := 116) (e := 64) Tryz.underlying3 Tryz.underlying116 (xH wr) (k := e.st + (m : Int)) (jm abo abo) (by unfold tG; rw [if_neg hD]) true
    simp only [↓reduceIte, kv] at l1
    have E9 := acD (show blk (aA cd) e.st D (m + 1) = blk (aA cd) e.st D m by rw [blk, if_neg hD])
    clear hD hF PN
    go_wp2_with fail
    go_roundw
    case rel =>
     refine ⟨m + 1, bv, by rw [show ((m + 1 : Nat) : Int) = (m : Int) + 1 by omega, Int.add_assoc], by omega, ?_⟩
     rw [E9.out]
     exact HM.out.below ((Below.refl _ _).alloc (Nat.le_refl _) _)
    case measure => simp [intOf]; omega
  ·-- aau
   have dl : decide (e.st + (m : Int) < e.en) = false := decide_eq_false hlt
   have XE := acD (show m = (e.en - e.st).toNat by omega)
   have hm0 : 0 < m := by omega
   clear hF PN
   obtain ⟨L, hL⟩ : ∃ L, blk (aA cd) e.st D m = L := ⟨_, rfl⟩
   rw [hL] at HM hbl I0
   have KP := acD hL
   have hn0 : 0 < L.length := List.length_pos_iff.2 (I0.out.ne PS hm0)
   have hL4 : L.length ≤ 4096 := by omega
   obtain ⟨g, cj, rfl⟩ : ∃ g cj, bv = .slice (some ⟨g, 0, none⟩) L.length cj := by
    rcases HM.out.row.2 with ⟨h, h'⟩ | ⟨g, cap', cur, h, _⟩
    ·omega
    ·exact ⟨_, _, h⟩
   have t0 : wr.cell? ⟨gb, 0, none⟩ = some (.slice (some ⟨g, 0, none⟩) L.length cj) := by simp [World.cell?, HM.out.g]
   obtain ⟨i2, hi2, hs0, hs1, hs2⟩ := info_parts Ls
   obtain ⟨U1, lm, vC, gr1⟩ := run_make_full (P := Tryz.prog) wr V.heap.size 28 34 i2 (.slice none 0 0) 1 Tryz.underlying28 hi2 hs0 hs1 .i64 .i64 L.length (by rw [hs2]; omega) abv HM.out.sz
   rw [Nat.mul_one, show (Value.slice none 0 0).cells = #[Value.slice none 0 0] from rfl, toList_madeCells_one] at vC
   have gU : U1.heap[gb]? = _ := (gr1.block gb (by have := HM.out.sz; have := HM.out.gV; omega) aby).trans HM.out.g
   have u0 : U1.cell? ⟨gb, 0, none⟩ = some (.slice (some ⟨g, 0, none⟩) L.length cj) := by simp [World.cell?, gU]
   have u1 : U1.cell? ⟨gb, 1, none⟩ = some (.slice none 0 0) := by simp [World.cell?, gU]
   have u2 : U1.frozen? ⟨gb, 1, none⟩ = false := by simp [World.frozen?, gU]
   clear hL hlt hme hbl
   go_upto_region 23 with fail
   obtain ⟨pg, Pj⟩ : ∃ pg, wr.heap.size = pg := ⟨_, rfl⟩
   rw [Pj] at vC ⊢
   obtain ⟨U2, Bq⟩ : ∃ U2, U1.setCell ⟨gb, 1, none⟩ (.slice (some ⟨pg, 0, none⟩) L.length L.length) = U2 := ⟨_, rfl⟩
   have bN : BN V U2 gb nb g cj pg L (fun _ => .slice none 0 0) (eE (aA cd) L 0 []) := by
    have hgr := HM.out.xd (j := g) rfl
    have hpr := vC.lt pg rfl
    have hz := HM.out.sz
    have Hf := HM.out.gV
    have MZ := HM.out.nV
    have gs := gr1.size
    have sm : ∀ k, k < V.heap.size → k ≠ gb → U2.heap[k]? = wr.heap[k]? := fun k h1 h2 => by
     rw [← Bq, Below.heap_setCell _ _ _ _ h2]
     exact gr1.block k abo aby
    refine ⟨Hf, MZ, HM.out.gn, ?_, ?_, ?_, ?_, fun k h1 h2 h3 => (sm k h1 h2).trans (HM.out.blk k h1 h2 h3), ?_, HM.out.num.keep (sm nb MZ (Ne.symm HM.out.gn)), ?_, ?_, fun i hi => ?_, fun i j hi hj _ q hq => by cases hq⟩
    ·rw [← Bq]; exact gr1.os.trans HM.out.os
    ·rw [← Bq]; exact gr1.tape.trans HM.out.tape
    ·rw [← Bq]; exact gr1.output.trans HM.out.output
    ·rw [← Bq]; simp; omega
    ·rw [← Bq, heap_setCell_same U1 gb 1 _ _ _ gU]
     rfl
    ·rw [D9, ← Bq]
     exact ownsRow_setCell_other (HM.out.row.kept gr1 (.inr (by simp [Value.ownBlock]))) ab3 _
    ·rw [← Bq]
     have e : ((List.range L.length).map fun i => (fun _ => Value.slice none 0 0) (L.length + i)) = List.replicate L.length (Value.slice none 0 0) := by
      apply List.ext_getElem?
      intro q
      by_cases hq : q < L.length
      ·simp [hq]
      ·simp [hq]
     rw [e]
     exact ownsRow_setCell_other vC ab3 _
    ·rw [zJ]
     exact World.ownsRow_nil _ _ _ _
   rw [Bq]
   have SQ := acD bN
   have NP := acD (show ∀ k, k < L.length → (iH L k ∈ D ∧ iH L k + 1 = (L.getD k (0, 0)).2) ∧ ∀ s ∈ cz (aA cd (iH L k)) (iH L k), (∃ p ∈ L, p.1 = s) ∧ Ln s from fun k hk => by
    have hp : L[k] ∈ L := List.getElem_mem hk
    have e1 : L.getD k (0, 0) = L[k] := by simp [List.getD, List.getElem?_eq_getElem hk]
    have hla := I0.out.last _ hp
    have hlo := I0.out.lo _ hp
    unfold iH
    rw [e1]
    refine ⟨⟨hla, by omega⟩, fun s hs => ?_⟩
    have hnb : ¬ qq (aA cd) e.st e.en (L[k].2 - 1) := by
     rcases IM.out.b with h | h
     ·exact h.2 _ hla
     ·have := (IM.out.dr _ h.1).range _ _ _ g2
      omega
    have hin : e.st ≤ s ∧ s < e.en := Classical.byContradiction fun h => hnb ⟨s, hs, h⟩
    have JX : s ∈ D := by
     rcases IM.out.cl _ hla s hs hin.1 hin.2 with h | h
     ·exact h
     ·cases h
    refine ⟨?_, jm abo abo⟩
    have hmm := XE.out
    refine I0.out.num s hin.1 abo JX ?_
    by_cases hbr : fo (aA cd (L[k].2 - 1)).op = true
    ·rw [iZ]
     refine .inr ⟨_, hla, ?_⟩
     unfold eB
     rw [if_pos hbr]
     exact hs
    ·have : s = L[k].2 := by
      unfold cz at hs
      unfold fo at hbr
      split at hs
      ·cases hs
      ·split at hs
       ·simp_all
       ·split at hs
        ·rename_i h; rcases h with h | h <;> simp [h] at hbr
        ·simp at hs; omega
     rw [this] at JX hin ⊢
     exact I0.out.cl _ hp abo JX)
   clear Bq gU u0 u1 u2 lm vC gr1 bN HM I0 t0 Pj
   go_loopw [16, 17, 19, 20, 103] (fun a16 a17 a19 a20 Nt wr => ∃ (k : Nat) (val : Nat → Value), k ≤ L.length ∧ Nt = .int .i64 (k : Int) ∧ BN V wr gb nb g cj pg L val (eE (aA cd) L k [])) (fun _ _ _ _ Nt _ => L.length - (intOf Nt).toNat)
   case atStart => exact ⟨0, _, Nat.zero_le _, rfl, SQ.out⟩
   case round =>
    obtain ⟨k', val, hk', rfl, hN⟩ := hrel
    clear SQ
    have HN := acD hN
    clear hN
    have t0 : wr.cell? ⟨gb, 0, none⟩ = some (.slice (some ⟨g, 0, none⟩) L.length cj) := by simp [World.cell?, HN.out.gg]
    have t1 : wr.cell? ⟨gb, 1, none⟩ = some (.slice (some ⟨pg, 0, none⟩) L.length L.length) := by simp [World.cell?, HN.out.gg]
    have hrg := HN.out.rg
    by_cases hlt : k' < L.length
    ·have dl : decide ((k' : Int) < (L.length : Int)) = true := by simpa using hlt
     obtain ⟨⟨RI, hlt2⟩, hsu⟩ := NP.out k' hlt
     obtain ⟨p1, p2⟩ := SK.out _ RI
     obtain ⟨la, hla⟩ : ∃ la, iH L k' = la := ⟨_, rfl⟩
     have yI := acD (show eA (aA cd) L k' = tF L (cz (aA cd la) la) by unfold eA; rw [hla])
     rw [hla] at RI hlt2 hsu p1 p2
     have bt : wr.cell? ⟨g, k' * 3 + 1, none⟩ = some (.int .i64 (la + 1)) := by rw [HN.out.qg.cellAt _ abo, gD L val hlt abo, hlt2]; rfl
     have hF := HN.out.im XR.out abo abo
     obtain ⟨i, hi⟩ : ∃ i, aA cd la = i := ⟨_, rfl⟩
     have l1 : ∀ y : Ext wr, (Instr.lookup 116 (.map (some fb)) (.int .i64 la) false).run Tryz.prog y.w = .ok (.agg #[.int .u8 i.op, .int .i64 i.a, .int .i64 i.b, .int .i64 i.c, .int .i64 i.aS]) y.w := fun y => by
      have := (hF.ext y).jz (P := Tryz.prog) (kt := 3) (t := 116) (e := 64) Tryz.underlying3 Tryz.underlying116 (k := la) (v := i.val) (by unfold tG; rw [if_pos RI, hi]) false
      simpa only [Bool.false_eq_true, ↓reduceIte, aZ.val, kv] using this
     rw [hi] at yI hsu p2
     have w1 : IntKind.i64.wrap (la + 1 - 1) = la := by rw [IntWalk.i64_in _ abo]; omega
     have Jf := acD (fun W : World => iw i la W p1.1 p1.2 p2.1 p2.2)
     have Xo := acD hsu
     clear hi RI hlt2 hla hF hsu p2
     obtain ⟨hrg1, hrg2, hrg3⟩ := hrg
     have sg : g < wr.heap.size := hrg1.2
     go_upto_region 26 with fail
     refine jg 12 14 _ _ rfl rfl rfl abp abp ?_
     simp only [Act.put, acH, acI, acJ, acK, List.take_zero, acL, List.drop_zero, Nat.reduceSub]
     repeat (go_big_quiet_step (fail))
     refine wpQuiet_nil ?_
     rintro _ ⟨y, rfl⟩
     go_wp2_with (go_at_call 56; refine (Jf.out _).mono ?_; rintro e' W4 ⟨⟨v, rfl, ⟨SA, jI, rfl, sc1, sc2, sc3⟩, sc4⟩, hb4⟩)
     refine NoPanic.normal ?_
     go_upto_region 27 with fail
     obtain ⟨S, hS⟩ : ∃ S, cz i la = S := ⟨_, rfl⟩
     have hS2 : S.length ≤ 2 := hS ▸ jt _ _
     rw [hS] at yI Xo sc1 sc3 sc4 ⊢
     have hy := y.h.size
     have Ov := acD ((HN.out.below y.h).below hb4)
     have I4 := acD (show Ints W4 (.slice SA S.length jI) S from ⟨SA, jI, rfl, sc1, sc2, sc3⟩)
     have DJ := acD (show ∀ q, (Value.slice SA S.length jI).ownBlock = some q → q ≠ g ∧ q ≠ pg ∧ ∀ i, i < 2 * L.length → (val i).ownBlock ≠ some q from fun q hq => by
      have h1 := sc4 q hq
      refine ⟨by omega, by omega, fun i hi h2 => ?_⟩
      have := ((HN.out.own i hi).lt q h2).2
      omega)
     clear hS sc1 sc2 sc3 sc4 hb4 hy y HN t0 t1 bt l1 w1 Jf sg hrg1 hrg2 hrg3 p1
     obtain ⟨wo, rfl⟩ : ∃ wo : World, wo = wr := ⟨_, rfl⟩
     go_loopw [19, 20, 124] (fun a19 a20 a124 wr => ∃ (j : Nat) (val : Nat → Value), j ≤ S.length ∧ a124 = .int .i64 (j : Int) ∧ BN V wr gb nb g cj pg L val (eE (aA cd) L k' (tF L (S.take j))) ∧ Ints wr (.slice SA S.length jI) S ∧ ∀ q, (Value.slice SA S.length jI).ownBlock = some q → q ≠ g ∧ q ≠ pg ∧ ∀ i, i < 2 * L.length → (val i).ownBlock ≠ some q) (fun _ _ a124 _ => S.length - (intOf a124).toNat)
     case atStart => exact ⟨0, _, Nat.zero_le _, rfl, Ov.out, I4.out, DJ.out⟩
     case round =>
      clear Ov I4 DJ val
      obtain ⟨j, val, hj, rfl, hN, hI, Nf⟩ := hrel
      have HN := acD hN
      have HI := acD hI
      have HD := acD Nf
      clear hN hI Nf
      by_cases hjl : j < S.length
      ·obtain ⟨A', ym, hv, i1', YI, Tr⟩ := HI.out
       cases hv
       obtain ⟨sb, so, rfl, MT, hsc⟩ := Tr abo
       obtain ⟨s, hs⟩ : ∃ s, S[j] = s := ⟨_, rfl⟩
       have x1 : wr.cell? ⟨sb, so + j, none⟩ = some (.int .i64 s) := by rw [hsc j hjl, ← hs]; simp [List.getD, List.getElem?_eq_getElem hjl]
       have T9 : S[j]? = some s := by rw [List.getElem?_eq_getElem hjl, hs]
       obtain ⟨Po, Wa⟩ := Xo.out s (List.mem_of_getElem? T9)
       obtain ⟨n1, n2, n3⟩ := rJ Po
       obtain ⟨p, hp⟩ : ∃ p, idx L s = p := ⟨_, rfl⟩
       have Sz := acD (Gm L S j s T9)
       rw [hp] at n1 n2 Sz
       have l2 := HN.out.num.jz (P := Tryz.prog) (kt := 3) (t := 121) (e := 3) Tryz.underlying3 Tryz.underlying121 (k := s) (v := .int .i64 (p : Int)) n1 false
       simp only [Bool.false_eq_true, ↓reduceIte, kv] at l2
       have dl2 : decide ((j : Int) < (S.length : Int)) = true := by simpa using hjl
       obtain ⟨l, hl⟩ : ∃ l, tF L (S.take j) = l := ⟨_, rfl⟩
       have YU : l.length ≤ 2 := by
        have := vM L (S.take j)
        rw [hl] at this
        simp at this
        omega
       rw [hl] at HN Sz
       have bn : wr.cell? ⟨g, k' * 3 + 2, none⟩ = some (val k') := by rw [HN.out.qg.cellAt _ abo, gD L val hlt abo]; rfl
       have bf : wr.frozen? ⟨g, k' * 3 + 2, none⟩ = false := HN.out.qg.frozenAt _
       have hok := HN.out.own k' abo
       rw [mU _ _ _ _ hlt] at hok
       have OA := acD (tS (val k') l (p : Int) wr (lS hok))
       unfold maxLen at YI
       obtain ⟨vA, fj, hval⟩ : ∃ vA fj, val k' = .slice vA l.length fj := by
        rcases hok.2 with ⟨h, h'⟩ | ⟨g, cap', cur, h, _⟩
        ·exact ⟨_, _, by rw [h, h']⟩
        ·exact ⟨_, _, h⟩
       have qp := acD hok
       have gu := acD hval
       rw [hval] at bn OA
       clear hsc Tr hs Po n1 n3 hp hl Wa hok hval T9
       by_cases hin : (p : Int) ∈ l
       ·have HAD := acD (show mF l (p : Int) = l by unfold mF; rw [if_pos hin])
        rw [decide_eq_true hin] at OA
        clear hin
        go_wp2_with (go_at_call 57; refine OA.out.mono ?_; rintro e' w' ⟨rfl, rfl⟩)
        go_roundw
        case rel =>
         refine ⟨j + 1, val, by omega, by go_num, ?_, HI.out, HD.out⟩
         rw [Sz.out, HAD.out]
         exact HN.out
        case measure => simp [intOf]; omega
       ·have HAD := acD (show mF l (p : Int) = l ++ [(p : Int)] by unfold mF; rw [if_neg hin])
        have tI := acD hin
        rw [decide_eq_false hin] at OA
        clear hin
        obtain ⟨iI, Ob, Og, Kf, Ke⟩ := info_parts GX
        have hsz := HN.out.rg
        have U7 := acD (show some g ≠ Value.ownBlock (.slice vA l.length fj) from fun e' => by
         rw [← gu.out] at e'
         exact fB qp.out HN.out.qg abr g e'.symm rfl)
        have hg0 : g < wr.heap.size := hsz.1.2
        have Ww : wr.ownsRow V.heap.size 3 1 (.slice vA l.length fj) l.length (rT l) := by rw [← gu.out]; exact qp.out
        have Sy := acD Ww
        have Zh := HN.out.sz
        clear Ww hsz
        go_upto_region 32 with (first | (go_at_call 57; refine OA.out.mono ?_; rintro e' w' ⟨rfl, rfl⟩) | (at_builtin; refine wpList_append_own_at _ rfl (.tmp 142) (.tmp 144) 34 rfl V.heap.size 3 iI (.int .i64 0) 1 8 Tryz.underlying34 Ob Og Kf Ke rfl abr (.slice vA l.length fj) _ _ rfl (Sy.out.alloc _) ⟨wr.heap.size, 0, none⟩ 1 1 [.int .i64 (p : Int)] rfl rfl (cell_one_new _ _ _) abt abv abo abD ?_; intro v' W' hown' hgrow _ qC; obtain ⟨g', cap', rfl⟩ := ownsRow_succ hown'; have hc1 := hgrow.cell (a := ⟨g, k' * 3 + 2, none⟩) (v := .slice vA l.length fj) abF U7.out; have hf1 : W'.frozen? ⟨g, k' * 3 + 2, none⟩ = false := (World.frozen?_of_block (hgrow.block g abA U7.out)).trans abF))
        have zY := HN.out.app (x := 0) (i := k') (y := (p : Int)) abo ((Below.refl wr.heap.size wr).alloc (Nat.le_refl _) (.cells #[.int .i64 (p : Int)] 3)) (by rw [gu.out]; exact hgrow) (by rw [mU _ _ _ _ hlt]; simpa [rT] using hown') (by rw [gu.out]; exact qC) g (k' * 3 + 2) (.inl ⟨hlt, rfl, rfl⟩)
        rw [mU _ _ _ _ hlt] at zY
        have Ud := ((HI.out.below ((Below.refl wr.heap.size wr).alloc (Nat.le_refl _) (.cells #[.int .i64 (p : Int)] 3))).grown hgrow (fun q hq hq2 => (HD.out q hq).2.2 k' abo (by rw [gu.out]; exact hq2))).grown (dJ W' g (k' * 3 + 2) (.slice (some ⟨g', 0, none⟩) (l.length + 1) cap')) (fun q hq hq2 => (HD.out q hq).1 (by simpa using hq2.symm))
        have Ug : ∀ q, (Value.slice (some ⟨sb, so, none⟩) S.length jI).ownBlock = some q → q ≠ g ∧ q ≠ pg ∧ ∀ i, i < 2 * L.length → (upd val k' (.slice (some ⟨g', 0, none⟩) (l.length + 1) cap') i).ownBlock ≠ some q := fun q hq => by
         obtain ⟨d1, d2, d3⟩ := HD.out q hq
         refine ⟨d1, d2, fun i hi => ?_⟩
         unfold upd
         split
         ·rcases qC with h | h
          ·rw [h, ← gu.out]; exact d3 k' abo
          ·rw [h, World.size_alloc]
           intro e'
           simp [Value.ownBlock] at hq e'
           omega
         ·exact d3 i hi
        obtain ⟨X, hX⟩ : ∃ X, W'.setCell ⟨g, k' * 3 + 2, none⟩ (.slice (some ⟨g', 0, none⟩) (l.length + 1) cap') = X := ⟨_, rfl⟩
        rw [hX] at zY Ud ⊢
        obtain ⟨tL, Lt⟩ : ∃ tL, upd val k' (.slice (some ⟨g', 0, none⟩) (l.length + 1) cap') = tL := ⟨_, rfl⟩
        rw [Lt] at zY Ug
        have hop := zY.own (L.length + p) abo
        have hpl : upd (eE (aA cd) L k' l) k' (l ++ [(p : Int)]) (L.length + p) = eE (aA cd) L k' l (L.length + p) := by unfold upd; rw [if_neg abo]
        rw [hpl] at hop
        have Vc := acD (Du (aA cd) L k' p l hlt n2 tI.out)
        have Jg := acD hpl
        obtain ⟨pl, MV⟩ : ∃ pl, eE (aA cd) L k' l (L.length + p) = pl := ⟨_, rfl⟩
        have TB : pl.length ≤ 5000 := by
         rw [← MV]
         unfold eE
         rw [if_neg abo]
         have h1 := zF (aA cd) L k' (L.length + p - L.length)
         have h2 : (if ((L.length + p - L.length : Nat) : Int) ∈ l then [(k' : Int)] else []).length ≤ 1 := by split <;> simp
         rw [List.length_append]
         omega
        rw [MV] at hop Vc Jg
        obtain ⟨pA, dV, hvp⟩ : ∃ pA dV, tL (L.length + p) = .slice pA pl.length dV := by
         rcases hop.2 with ⟨h, h'⟩ | ⟨g, cap', cur, h, _⟩
         ·exact ⟨_, _, by rw [h, h']⟩
         ·exact ⟨_, _, h⟩
        have LX := acD hvp
        have q0 : X.cell? ⟨gb, 1, none⟩ = some (.slice (some ⟨pg, 0, none⟩) L.length L.length) := by simp [World.cell?, zY.gg]
        have q1 : X.cell? ⟨pg, p, none⟩ = some (.slice pA pl.length dV) := by rw [zY.cP.cellAt _ abo, List.getElem?_map, List.getElem?_range n2, ← hvp]; rfl
        have q2 : X.frozen? ⟨pg, p, none⟩ = false := zY.cP.frozenAt _
        have Ou := acD (show some pg ≠ Value.ownBlock (.slice pA pl.length dV) from fun e' => by
         rw [← hvp] at e'
         exact fB hop zY.cP abr pg e'.symm rfl)
        have QN := acD (show some gb ≠ Value.ownBlock (.slice pA pl.length dV) from fun e' => by
         rw [← hvp] at e'
         have := (hop.lt gb e'.symm).1
         have := zY.gV
         omega)
        rw [hvp] at hop
        have nH := acD hop
        have yN := acD zY
        have QX := acD Ud
        have NM := acD Ug
        have TC : pg < X.heap.size := zY.rg.2.1.2
        have Y5 : gb < X.heap.size := by have := zY.sz; have := zY.gV; omega
        have hVX := zY.sz
        clear hX zY Ud Ug hop hvp Lt hpl MV hc1 hf1 qC hgrow hown' HN HI HD OA qp gu Sy U7 hg0 Zh bn bf l2 x1 MT
        have yB := acD (show ∀ (W2 : World) (v2 : Value), ((X.alloc (.cells #[.int .i64 (k' : Int)] 3)).drew).grownBy W2 (Value.slice pA pl.length dV).ownBlock → W2.ownsRow V.heap.size 3 1 v2 (pl.length + 1) (rT pl ++ [.int .i64 (k' : Int)]) → (v2.ownBlock = (Value.slice pA pl.length dV).ownBlock ∨ v2.ownBlock = some ((X.alloc (.cells #[.int .i64 (k' : Int)] 3)).drew).heap.size) →
          ∃ Jn, BN V (W2.setCell ⟨pg, p, none⟩ v2) gb nb g cj pg L Jn (eE (aA cd) L k' (l ++ [(p : Int)])) ∧ Ints (W2.setCell ⟨pg, p, none⟩ v2) (.slice (some ⟨sb, so, none⟩) S.length jI) S ∧ ∀ q, (Value.slice (some ⟨sb, so, none⟩) S.length jI).ownBlock = some q → q ≠ g ∧ q ≠ pg ∧ ∀ i, i < 2 * L.length → (Jn i).ownBlock ≠ some q from fun W2 v2 hg2 ho2 hb2 => by
         have bD : Below X.heap.size X ((X.alloc (.cells #[.int .i64 (k' : Int)] 3)).drew) := Below.drew ((Below.refl _ _).alloc (Nat.le_refl _) _)
         have h3 := yN.out.app (x := 0) (i := L.length + p) (y := (k' : Int)) abo bD (by rw [LX.out]; exact hg2) (by rw [Jg.out]; simpa [rT] using ho2) (by rw [LX.out]; exact hb2) pg p (.inr ⟨by omega, rfl, by omega⟩)
         rw [Jg.out] at h3
         refine ⟨_, by rw [Vc.out]; exact h3, ((QX.out.below bD).grown hg2 (fun q hq hq2 => (NM.out q hq).2.2 (L.length + p) abo (by rw [LX.out]; exact hq2))).grown (dJ W2 pg p v2) (fun q hq hq2 => (NM.out q hq).2.1 (by simpa using hq2.symm)), fun q hq => ?_⟩
         obtain ⟨d1, d2, d3⟩ := NM.out q hq
         refine ⟨d1, d2, fun i hi => ?_⟩
         unfold upd
         split
         ·rcases hb2 with h | h
          ·rw [h, ← LX.out]; exact d3 _ abo
          ·rw [h]
           intro e'
           have hlt3 : q < X.heap.size := by
            obtain ⟨A5, Zv, hv5, _, _, h5⟩ := QX.out
            cases hv5
            obtain ⟨b5, o5, Hp, G9, _⟩ := h5 abo
            cases Hp
            simp [Value.ownBlock] at hq
            omega
           have e2 : (X.alloc (.cells #[.int .i64 (k' : Int)] 3)).drew.heap.size = X.heap.size + 1 := by show (X.alloc _).heap.size = _; simp
           rw [e2] at e'
           cases e'
           omega
         ·exact d3 i hi)
        clear QX NM yN Vc Jg LX
        refine wp_region_noPanic ?_
        go_region_law (refine gG rfl (.tmp 155) (.tmp 157) 34 rfl V.heap.size 3 iI (.int .i64 0) 1 8 Tryz.underlying34 Ob Og Kf Ke rfl abr (.slice pA pl.length dV) pl.length (rT pl) abX (World.ownsRow.alloc (World.ownsRow.drew nH.out) _) ⟨X.heap.size, 0, none⟩ 1 1 [.int .i64 (k' : Int)] abX rfl (cell_one_new _ _ _) abt abv abo (by show V.heap.size ≤ (World.alloc _ _).heap.size; rw [World.size_alloc]; omega) ?_; intro v' W2 hown2 hgrow2 zW; obtain ⟨g2, ym, rfl⟩ := ownsRow_succ hown2; have hc1 := hgrow2.cell (a := ⟨pg, p, none⟩) (v := .slice pA pl.length dV) abF Ou.out; have hc2 := hgrow2.cell (a := ⟨gb, 1, none⟩) (v := .slice (some ⟨pg, 0, none⟩) L.length L.length) abF QN.out; have hf1 : W2.frozen? ⟨pg, p, none⟩ = false := (World.frozen?_of_block (hgrow2.block pg abA Ou.out)).trans abF)
        all_goals
         obtain ⟨Jn, f1, f2, f3⟩ := yB.out W2 _ hgrow2 hown2 zW
         have F1 := acD f1
         have F2 := acD f2
         have F3 := acD f3
         clear f1 f2 f3 hgrow2 hown2 zW hc1 hc2 hf1
         refine NoPanic.normal ?_
         go_wp2_with fail
         go_roundw
         case rel =>
          refine ⟨j + 1, Jn, by omega, by go_num, ?_, F2.out, F3.out⟩
          rw [Sz.out, HAD.out]
          exact F1.out
         case measure => simp [intOf]; omega
      ·obtain rfl : j = S.length := by omega
       have dl2 : decide ((S.length : Int) < (S.length : Int)) = false := by simp
       rw [List.take_length] at HN
       go_wp2_with fail
       go_roundw
       case rel =>
        refine ⟨k' + 1, val, by omega, by go_num, ?_⟩
        rw [← zK, yI.out]
        exact HN.out
       case measure => simp [intOf]; omega
    ·obtain rfl : k' = L.length := by omega
     have dl : decide ((L.length : Int) < (L.length : Int)) = false := by simp
     have Uh := B3.out.size
     have sR : w.heap.size + 1 < V.heap.size := vV Xg.out
     have rq : w.heap.size + 1 ≠ gb := by omega
     have kR := (HN.out.blk (w.heap.size + 1) sR rq abo).trans Xg.out
     have r0 : wr.cell? ⟨w.heap.size + 1, 0, none⟩ = some (.slice none 0 0) := by simp [World.cell?, kR]
     have r1 : wr.cell? ⟨w.heap.size + 1, 1, none⟩ = some (.slice none 0 0) := by simp [World.cell?, kR]
     have f0 : wr.frozen? ⟨w.heap.size + 1, 0, none⟩ = false := by simp [World.frozen?, kR]
     have f1 : wr.frozen? ⟨w.heap.size + 1, 1, none⟩ = false := by simp [World.frozen?, kR]
     go_wp2_with fail
     have G1 : wr.grownBy ((wr.setCell ⟨w.heap.size + 1, 0, none⟩ (.slice (some ⟨g, 0, none⟩) L.length cj)).setCell ⟨w.heap.size + 1, 1, none⟩ (.slice (some ⟨pg, 0, none⟩) L.length L.length)) (some (w.heap.size + 1)) := by
      refine ⟨rfl, rfl, rfl, by simp, fun j _ hne => ?_⟩
      have : j ≠ w.heap.size + 1 := fun e => hne (by rw [e])
      rw [Below.heap_setCell _ _ _ _ this, Below.heap_setCell _ _ _ _ this]
     have hgr := HN.out.graph G1 sR
     have Z7 := acD (show Qv w.heap.size (.slice (some ⟨g, 0, none⟩) L.length cj) (.slice (some ⟨pg, 0, none⟩) L.length L.length) from by
      have h1 := HN.out.rg
      have h2 := B3.out.size
      refine ⟨fun q hq => ?_, fun q hq => ?_⟩
      ·have e : g = q := by simpa [Value.ownBlock] using hq
       omega
      ·have e : pg = q := by simpa [Value.ownBlock] using hq
       omega)
     have yE : Below w.heap.size w ((wr.setCell ⟨w.heap.size + 1, 0, none⟩ (.slice (some ⟨g, 0, none⟩) L.length cj)).setCell ⟨w.heap.size + 1, 1, none⟩ (.slice (some ⟨pg, 0, none⟩) L.length L.length)) := by
      refine Below.setCell (Below.setCell ⟨HN.out.os.trans B3.out.os, HN.out.tape.trans B3.out.tape, HN.out.output.trans B3.out.output, Nat.le_trans B3.out.size HN.out.sz, fun j hj => ?_⟩ ?_ _) ?_ _
      ·exact (HN.out.blk j abo abo abo).trans (B3.out.block j hj)
      ·simp
      ·simp
     refine bodyPost_ret (v := .tuple #[.agg #[.slice (some ⟨g, 0, none⟩) L.length cj, .slice (some ⟨pg, 0, none⟩) L.length L.length], .int .i64 (-1), .int .i64 0]) abU rfl (.inr (.inr (.inr ⟨Ow.out, k, e, D, L, _, _, rfl, he, IM.out, ?_, rfl, hgr.1, hgr.2, yE, Z7.out⟩)))
     rw [← XE.out]; exact KP.out
theorem Es (cv ev : Value) (sh lk : Int) (n : Nat) (cd : Nat → Int) (aM : List nE) (task : Int) (w : World) (T : iU w) (HW : Words w cv n cd) (HE : nD w ev aM) :
  Calls Tryz.prog 19 #[.agg #[cv, ev, .int .i64 sh, .int .i64 lk], .int .i64 task] w fun e w' =>
   (¬ jf n cd aM sh lk ∧ e = .returned (.tuple #[.agg #[.slice none 0 0, .slice none 0 0], .int .i64 (-1), .int .i64 3]) ∧ Below w.heap.size w w') ∨
   (jf n cd aM sh lk ∧ (task < 0 ∨ (aM.length : Int) ≤ task) ∧ e = .returned (.tuple #[.agg #[.slice none 0 0, .slice none 0 0], .int .i64 (-1), .int .i64 2]) ∧ Below w.heap.size w w') ∨
   (jf n cd aM sh lk ∧ ∃ (k : Nat) (en : nE) (D : List Int) (bad : Int), task = (k : Int) ∧ aM[k]? = some en ∧ 0 ≤ bad ∧ fU (aA cd) en.st en.en D [] bad ∧ e = .returned (.tuple #[.agg #[.slice none 0 0, .slice none 0 0], .int .i64 bad, .int .i64 10]) ∧ Below w.heap.size w w') ∨
   (jf n cd aM sh lk ∧ ∃ (k : Nat) (en : nE) (D : List Int) (L : List (Int × Int)) (bv pv : Value), task = (k : Int) ∧ aM[k]? = some en ∧ fU (aA cd) en.st en.en D [] (-1) ∧ blk (aA cd) en.st D (en.en - en.st).toNat = L ∧ e = .returned (.tuple #[.agg #[bv, pv], .int .i64 (-1), .int .i64 0]) ∧ gh w' bv (cJ (aA cd) L) ∧ tY w' pv (eG (aA cd) L) ∧ Below w.heap.size w w') :=
 (uU cv ev sh lk n cd aM task w T HW HE).mono fun e w' h => by
  rcases h with h | h | h | ⟨hg, k, en, D, L, bv, pv, h1, h2, h3, h4, h5, h6, h7, h8, _⟩
  ·exact .inl h
  ·exact .inr (.inl h)
  ·exact .inr (.inr (.inl h))
  ·exact .inr (.inr (.inr ⟨hg, k, en, D, L, bv, pv, h1, h2, h3, h4, h5, h6, h7, h8⟩))
end
end Go.Proofs.YtebklpnkcicpjaaGreatDoor
