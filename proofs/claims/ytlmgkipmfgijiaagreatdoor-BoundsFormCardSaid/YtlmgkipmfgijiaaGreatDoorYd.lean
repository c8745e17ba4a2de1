/-
  What is proved here: parts bCc, bCd.
-/
import Derived.Test.YtlmgkipmfgijiaaGreatDoorYa
import Derived.Test.YtlmgkipmfgijiaaGreatDoorYc
import Derived.Test.YtlmgkipmfgijiaaGreatDoorYb
import Derived.ChangeSame
import Derived.ChangeVars
import Derived.JoinedOf
import Derived.RowKit
import Derived.Deep.Strs
namespace Go.Proofs.YtlmgkipmfgijiaaGreatDoor
set_option linter.unusedVariables false
set_option linter.unusedSimpArgs false
set_option maxRecDepth 100000
set_option maxHeartbeats 8000000
section
open Go.RowKit
def iH (L : List (Int × Int)) : List Value := L.flatMap fun p => [.int .i64 p.1, .int .i64 p.2, .slice none 0 0]
theorem oV (L : List (Int × Int)) : (iH L).length = L.length * 3 := by
 induction L with
 | nil => rfl
 | cons p L ih => simp only [iH, List.flatMap_cons, List.length_append, List.length_cons, List.length_nil] at ih ⊢; omega
theorem jU (L : List (Int × Int)) (a b : Int) : iH (L ++ [(a, b)]) = iH L ++ [.int .i64 a, .int .i64 b, .slice none 0 0] := by simp [iH]
theorem DX (L : List (Int × Int)) (a b t : Int) : (iH (L ++ [(a, b)])).set (L.length * 3 + 1) (.int .i64 t) = iH (L ++ [(a, t)]) := by
 rw [jU, jU, ← oV, List.set_append_right _ _ agO]
 simp
theorem x7 (L : List (Int × Int)) (a b : Int) : (iH (L ++ [(a, b)]))[L.length * 3 + 1]? = some (.int .i64 b) := by
 rw [jU, ← oV, List.getElem?_append_right agO]
 simp
structure BM (V wr : World) (gb nb : Nat) (bv : Value) (L : List (Int × Int)) : Prop where
 gV : gb < V.heap.size
 nV : nb < V.heap.size
 gn : gb ≠ nb
 os : wr.os = V.os
 tape : wr.tape = V.tape
 output : wr.output = V.output
 sz : V.heap.size ≤ wr.heap.size
 blk : ∀ k, k < V.heap.size → k ≠ gb → k ≠ nb → wr.heap[k]? = V.heap[k]?
 g : wr.heap[gb]? = some (.cells #[bv, .slice none 0 0] 31 (0, 0))
 num : Im wr nb (Bi L)
 row : wr.ownsRow V.heap.size 78 3 bv L.length (iH L)
theorem BM.below {V wr wr' : World} {gb nb : Nat} {bv : Value} {L : List (Int × Int)} (h : BM V wr gb nb bv L) (hb : Below wr.heap.size wr wr') : BM V wr' gb nb bv L :=
 ⟨h.gV, h.nV, h.gn, hb.os.trans h.os, hb.tape.trans h.tape, hb.output.trans h.output, Nat.le_trans h.sz hb.size, fun k h1 h2 h3 => (hb.block k (by have := h.sz; omega)).trans (h.blk k h1 h2 h3), (hb.block _ (by have := h.sz; have := h.gV; omega)).trans h.g, h.num.below hb h.num.lt, ak h.row hb⟩
theorem Ax (w : World) (a b c : Value) (t : TypeId) : ∀ j u, [a, b, c][j]? = some u → (w.alloc (.cells #[a, b, c] t)).cell? ((⟨w.heap.size, 0, none⟩ : Addr).add j) = some u := by
 intro j u h
 have e : (⟨w.heap.size, 0, none⟩ : Addr).add j = ⟨w.heap.size, j, none⟩ := by cases j <;> simp [Addr.add]
 rw [e]
 unfold World.cell?
 rw [heap_alloc_new]
 simpa using h
theorem DW (L : List (Int × Int)) : lF L (fun _ => .slice none 0 0) = iH L := by
 apply List.ext_getElem?
 intro q
 by_cases hq : q < L.length * 3
 ·obtain ⟨a, b, hb, rfl⟩ : ∃ a b, b < 3 ∧ q = a * 3 + b := ⟨q / 3, q % 3, Nat.mod_lt _ agO, by omega⟩
  have ha : a < L.length := by omega
  rw [gF L _ ha hb]
  have : ∀ (L : List (Int × Int)) (a b : Nat), a < L.length → b < 3 → (iH L)[a * 3 + b]? = [.int .i64 (L.getD a (0, 0)).1, .int .i64 (L.getD a (0, 0)).2, .slice none 0 0][b]? := by
   intro L
   induction L with
   | nil => intro a b h; simp at h
   | cons p L ih =>
    intro a b h hb
    have e : iH (p :: L) = [.int .i64 p.1, .int .i64 p.2, .slice none 0 0] ++ iH L := by simp [iH]
    rw [e]
    cases a with
    | zero => rw [List.getElem?_append_left agX]; simp
    | succ a =>
     rw [List.getElem?_append_right agX]
     have := ih a b (by simp at h; omega) hb
     rw [show (a + 1) * 3 + b - [Value.int .i64 p.1, .int .i64 p.2, .slice none 0 0].length = a * 3 + b by simp; omega, this]
     simp [List.getD]
  exact (this L a b ha hb).symm
 ·rw [List.getElem?_eq_none (by rw [lW]; omega), List.getElem?_eq_none (by rw [oV]; omega)]
theorem vK {w : World} {b : Nat} {o : Obj} (h : w.heap[b]? = some o) : b < w.heap.size := (Array.getElem?_eq_some_iff.1 h).1
theorem Q8 : (Tryz.prog.info? 78).map (fun i => (i.zero, i.size, i.bytes)) = some (some (.agg #[.int .i64 0, .int .i64 0, .slice none 0 0]), 3, 40) := by kernel_rfl
theorem BM.im {V wr : World} {gb nb x : Nat} {bv : Value} {L : List (Int × Int)} {f : Int → Option Value} (h : BM V wr gb nb bv L) (hx : Im V x f) (h1 : x ≠ gb) (h2 : x ≠ nb) : Im wr x f := hx.keep (h.blk x hx.lt h1 h2)
theorem BM.xe {V wr : World} {gb nb : Nat} {bv : Value} {L : List (Int × Int)} (h : BM V wr gb nb bv L) {j : Nat} (hj : bv.ownBlock = some j) : V.heap.size ≤ j ∧ j < wr.heap.size := h.row.lt j hj
theorem BM.j7 {V wr : World} {gb nb g cap : Nat} {M : List (Int × Int)} {a b t : Int} (h : BM V wr gb nb (.slice (some ⟨g, 0, none⟩) (M.length + 1) cap) (M ++ [(a, b)])) : BM V (wr.setCell ⟨g, M.length * 3 + 1, none⟩ (.int .i64 t)) gb nb (.slice (some ⟨g, 0, none⟩) (M.length + 1) cap) (M ++ [(a, t)]) := by
 have hr := h.row
 rw [show (M ++ [(a, b)]).length = M.length + 1 by simp] at hr
 obtain ⟨r1, r2⟩ := hr.stored (M.length * 3 + 1) (.int .i64 t)
 have hg := (h.xe (j := g) rfl)
 have Mg := h.gV
 have Gu := h.nV
 refine ⟨h.gV, h.nV, h.gn, h.os, h.tape, h.output, by simpa using h.sz, fun k h1 h2 h3 => ?_, ?_, ?_, ?_⟩
 ·rw [Below.heap_setCell _ _ _ _ (by show k ≠ g; omega)]; exact h.blk k h1 h2 h3
 ·rw [Below.heap_setCell _ _ _ _ (by show gb ≠ g; omega)]; exact h.g
 ·rw [JP M a t b]
  exact h.num.keep (Below.heap_setCell _ _ _ _ (by show nb ≠ g; omega))
 ·rw [show (M ++ [(a, t)]).length = M.length + 1 by simp, ← DX M a b t]
  exact r1
theorem BM.app {V wr w2 w3 : World} {gb nb : Nat} {bv v' : Value} {L : List (Int × Int)} {a : Int} {o : Obj} (h : BM V wr gb nb bv L) (hm : Im w2 nb (Bi (L ++ [(a, 0)]))) (ho : w2.os = wr.os) (ht : w2.tape = wr.tape) (hp : w2.output = wr.output) (hs : w2.heap.size = wr.heap.size) (hk : ∀ i, i ≠ nb → w2.heap[i]? = wr.heap[i]?)
  (hg : (w2.alloc o).grownBy w3 bv.ownBlock) (hown : w3.ownsRow V.heap.size 78 3 v' (L.length + 1) (iH (L ++ [(a, 0)]))) : BM V (w3.setCell ⟨gb, 0, none⟩ v') gb nb v' (L ++ [(a, 0)]) := by
 have Mg := h.gV
 have Gu := h.nV
 have hgn := h.gn
 have hsz := h.sz
 have hrl : ∀ j, bv.ownBlock = some j → V.heap.size ≤ j := fun j hj => (h.xe hj).1
 have hb : ∀ k, k < V.heap.size → w3.heap[k]? = w2.heap[k]? := fun k hk => by
  rw [hg.block k ag0 (fun e => by have := hrl k e.symm; omega), heap_alloc_old _ _ agO]
 have hg3 : w3.heap[gb]? = some (.cells #[bv, .slice none 0 0] 31 (0, 0)) := (hb gb Mg).trans ((hk gb hgn).trans h.g)
 have Wy := hg.size
 rw [World.size_alloc] at Wy
 refine ⟨h.gV, h.nV, h.gn, ?_, ?_, ?_, by simp; omega, fun k h1 h2 h3 => ?_, ?_, ?_, ?_⟩
 ·exact hg.os.trans (ho.trans h.os)
 ·exact hg.tape.trans (ht.trans h.tape)
 ·exact hg.output.trans (hp.trans h.output)
 ·rw [Below.heap_setCell _ _ _ _ (by exact h2)]
  exact (hb k h1).trans ((hk k h3).trans (h.blk k h1 h2 h3))
 ·have := heap_setCell_same w3 gb 0 _ _ v' hg3
  rw [this]
  rfl
 ·exact hm.keep ((Below.heap_setCell _ _ _ _ (by exact Ne.symm hgn)).trans (hb nb Gu))
 ·rw [show (L ++ [(a, (0 : Int))]).length = L.length + 1 by simp]
  refine ownsRow_setCell_other hown ?_ _
  intro e
  have := (hown.lt gb e).1
  omega
def OM (B : Nat) (bv pv : Value) : Prop := (∀ q, bv.ownBlock = some q → B ≤ q) ∧ ∀ q, pv.ownBlock = some q → B ≤ q
theorem Ek (cv ev : Value) (sh lk : Int) (n : Nat) (cd : Nat → Int) (aD : List jJ) (task : Int) (w : World) (T : gL w) (HW : Words w cv n cd) (HE : nj w ev aD) :
  Calls Tryz.prog 12 #[.agg #[cv, ev, .int .i64 sh, .int .i64 lk], .int .i64 task] w fun e w' =>
   (¬ qc n cd aD sh lk ∧ e = .returned (.tuple #[.agg #[.slice none 0 0, .slice none 0 0], .int .i64 (-1), .int .i64 3]) ∧ Below w.heap.size w w') ∨
   (qc n cd aD sh lk ∧ (task < 0 ∨ (aD.length : Int) ≤ task) ∧ e = .returned (.tuple #[.agg #[.slice none 0 0, .slice none 0 0], .int .i64 (-1), .int .i64 2]) ∧ Below w.heap.size w w') ∨
   (qc n cd aD sh lk ∧ ∃ (k : Nat) (en : jJ) (D : List Int) (bad : Int), task = (k : Int) ∧ aD[k]? = some en ∧ 0 ≤ bad ∧ fW (au cd) en.st en.en D [] bad ∧ e = .returned (.tuple #[.agg #[.slice none 0 0, .slice none 0 0], .int .i64 bad, .int .i64 10]) ∧ Below w.heap.size w w') ∨
   (qc n cd aD sh lk ∧ ∃ (k : Nat) (en : jJ) (D : List Int) (L : List (Int × Int)) (bv pv : Value), task = (k : Int) ∧ aD[k]? = some en ∧ fW (au cd) en.st en.en D [] (-1) ∧ blk (au cd) en.st D (en.en - en.st).toNat = L ∧ e = .returned (.tuple #[.agg #[bv, pv], .int .i64 (-1), .int .i64 0]) ∧ fF w' bv (dw (au cd) L) ∧ l9 w' pv (gK (au cd) L) ∧ Below w.heap.size w w' ∧ OM w.heap.size bv pv) := by
 have hn := HW.le
 obtain ⟨A, cap, hcv, hc1, hc2, hrd⟩ := HW.at_
 obtain ⟨EA, dP, hev, he1, he2, Xc⟩ := HE.at_
 have h63 : aD.length ≤ 2 ^ 63 - 1 := by unfold maxLen at he2; omega
 have Jn := ahM HW
 have Lt := ahM HE
 have HT := ahM T
 clear hrd Xc HW HE T
 subst hcv hev
 obtain ⟨V0, gl⟩ : ∃ V0, (w.alloc (.cells #[.slice A n cap, .slice EA aD.length dP, .int .i64 sh, .int .i64 lk] 25)).alloc (.cells #[.slice none 0 0, .slice none 0 0] 31) = V0 := ⟨_, rfl⟩
 have b0 : Below w.heap.size w V0 := gl ▸ ((Below.refl _ _).alloc (Nat.le_refl _) _).alloc agT _
 have s0 : w.heap.size + 2 = V0.heap.size := by rw [← gl]; simp
 have k0 : V0.heap[w.heap.size]? = some (.cells #[.slice A n cap, .slice EA aD.length dP, .int .i64 sh, .int .i64 lk] 25) := by rw [← gl, heap_alloc_old _ _ agT]; exact heap_alloc_new _ _
 have k1 : V0.heap[w.heap.size + 1]? = some (.cells #[.slice none 0 0, .slice none 0 0] 31) := by rw [← gl]; exact aG _ _ agT
 have y0 : V0.cell? ⟨w.heap.size, 0, none⟩ = some (.slice A n cap) := by simp [World.cell?, k0]
 have y1 : V0.cell? ⟨w.heap.size, 1, none⟩ = some (.slice EA aD.length dP) := by simp [World.cell?, k0]
 have y2 : V0.cell? ⟨w.heap.size, 2, none⟩ = some (.int .i64 sh) := by simp [World.cell?, k0]
 have y3 : V0.cell? ⟨w.heap.size, 3, none⟩ = some (.int .i64 lk) := by simp [World.cell?, k0]
 have K0 := ahM k0
 have K1 := ahM k1
 have B0 := ahM b0
 have O9 := ahM (Eh (.slice A n cap) (.slice EA aD.length dP) sh lk n cd aD V0 (HT.out.below b0) (Jn.out.below b0) (Lt.out.below b0))
 have f0 : V0.frozen? ⟨w.heap.size + 1, 0, none⟩ = false := by simp [World.frozen?, k1]
 have f1 : V0.frozen? ⟨w.heap.size + 1, 1, none⟩ = false := by simp [World.frozen?, k1]
 have r0 : V0.cell? ⟨w.heap.size + 1, 0, none⟩ = some (.slice none 0 0) := by simp [World.cell?, k1]
 have r1 : V0.cell? ⟨w.heap.size + 1, 1, none⟩ = some (.slice none 0 0) := by simp [World.cell?, k1]
 have s1 : w.heap.size + 1 < V0.heap.size := by omega
 have s2 : w.heap.size < V0.heap.size := by omega
 clear k0 k1 b0
 by_cases hg : qc n cd aD sh lk
 case neg =>
  have HC := ahM (show Calls Tryz.prog 30 #[.agg #[.slice A n cap, .slice EA aD.length dP, .int .i64 sh, .int .i64 lk]] V0 fun e w' => ∃ r, e = .returned (.int .i64 r) ∧ (r != 0) = true ∧ ∃ y : Ext V0, y.w = w' from O9.out.mono fun e w' ⟨⟨r, h1, h2⟩, h3⟩ => ⟨r, h1, by simp; intro h; exact hg (h2.1 h), ⟨w', h3⟩, rfl⟩)
  go_enter Tryz.func12, Tryz.ntmps12
  go_upto_region 1 with fail
  clear gl
  go_wp2_with (go_at_call 30; refine HC.out.mono ?_; rintro e w' ⟨r, rfl, dr, y, rfl⟩)
  refine bodyPost_ret (v := .tuple #[.agg #[.slice none 0 0, .slice none 0 0], .int .i64 (-1), .int .i64 3]) ahf rfl (.inl ⟨hg, rfl, ?_⟩)
  refine Below.setCell (Below.setCell (Ext.below B0.out agO y) ?_ _) ?_ _ <;> simp
 have HC := ahM (show Calls Tryz.prog 30 #[.agg #[.slice A n cap, .slice EA aD.length dP, .int .i64 sh, .int .i64 lk]] V0 fun e w' => e = .returned (.int .i64 0) ∧ ∃ y : Ext V0, y.w = w' from O9.out.mono fun e w' ⟨⟨r, h1, h2⟩, h3⟩ => ⟨by rw [h1, h2.2 hg], ⟨w', h3⟩, rfl⟩)
 have P8 := ahM hg
 clear hg O9
 by_cases ht : task < 0 ∨ (aD.length : Int) ≤ task
 case pos =>
  go_enter Tryz.func12, Tryz.ntmps12
  go_upto_region 1 with fail
  clear gl
  by_cases h0 : task < 0
  ·have d0 : decide (task < 0) = true := decide_eq_true h0
   go_wp2_with (go_at_call 30; refine HC.out.mono ?_; rintro e w' ⟨rfl, y, rfl⟩)
   refine bodyPost_ret (v := .tuple #[.agg #[.slice none 0 0, .slice none 0 0], .int .i64 (-1), .int .i64 2]) ahf rfl (.inr (.inl ⟨P8.out, ht, rfl, ?_⟩))
   refine Below.setCell (Below.setCell (Ext.below B0.out agO y) ?_ _) ?_ _ <;> simp
  ·have d0 : decide (task < 0) = false := decide_eq_false h0
   have d1 : decide ((aD.length : Int) ≤ task) = true := decide_eq_true agO
   go_wp2_with (go_at_call 30; refine HC.out.mono ?_; rintro e w' ⟨rfl, y, rfl⟩)
   refine bodyPost_ret (v := .tuple #[.agg #[.slice none 0 0, .slice none 0 0], .int .i64 (-1), .int .i64 2]) ahf rfl (.inr (.inl ⟨P8.out, ht, rfl, ?_⟩))
   refine Below.setCell (Below.setCell (Ext.below B0.out agO y) ?_ _) ?_ _ <;> simp
 obtain ⟨k, rfl⟩ : ∃ k : Nat, task = (k : Int) := ⟨task.toNat, by omega⟩
 have hk : k < aD.length := by omega
 have d0 : decide ((k : Int) < 0) = false := decide_eq_false agO
 have d1 : decide ((aD.length : Int) ≤ (k : Int)) = false := decide_eq_false agO
 obtain ⟨e, b, off, he, rfl, hbl, c0, c1, c2, c3⟩ := Lt.out.cells B0.out hk
 have hem := List.mem_of_getElem? he
 obtain ⟨g1, g2, g3⟩ := P8.out.ch.bounds e hem
 have hb2 : b < V0.heap.size := by omega
 have hcd := P8.out.code
 clear ht Lt
 go_enter Tryz.func12, Tryz.ntmps12
 go_upto_region 1 with fail
 clear gl
 go_upto_region 6 with (go_at_call 30; refine HC.out.mono ?_; rintro e w' ⟨rfl, y, rfl⟩)
 obtain ⟨W1, hW1⟩ : ∃ W1, y.w.alloc (.cells #[.string e.nm, .int .i64 e.st, .int .i64 e.en, .int .i64 e.da] 75) = W1 := ⟨_, rfl⟩
 have bW : Below V0.heap.size V0 W1 := hW1 ▸ y.h.alloc y.h.size _
 have kW : W1.heap[y.w.heap.size]? = some (.cells #[.string e.nm, .int .i64 e.st, .int .i64 e.en, .int .i64 e.da] 75) := hW1 ▸ heap_alloc_new _ _
 have sW : y.w.heap.size < W1.heap.size := by rw [← hW1]; simp
 have sy := y.h.size
 rw [hW1]
 obtain ⟨q, hq⟩ : ∃ q, y.w.heap.size = q := ⟨_, rfl⟩
 rw [hq] at kW sW sy ⊢
 have B1 := ahM (B0.out.trans (bW.mono agO))
 have wJ := ahM (CU (.slice A n cap) (.slice (some ⟨b, off, none⟩) aD.length dP) sh lk e.nm e.st e.en e.da n cd W1 (HT.out.below B1.out) (Jn.out.below B1.out) g1 g2 g3)
 have z0 : W1.cell? ⟨w.heap.size, 0, none⟩ = some (.slice A n cap) := by rw [bW.cell (p := ⟨w.heap.size, 0, none⟩) s2]; exact y0
 have z1 : W1.cell? ⟨w.heap.size, 1, none⟩ = some (.slice (some ⟨b, off, none⟩) aD.length dP) := by rw [bW.cell (p := ⟨w.heap.size, 1, none⟩) s2]; exact y1
 have z2 : W1.cell? ⟨w.heap.size, 2, none⟩ = some (.int .i64 sh) := by rw [bW.cell (p := ⟨w.heap.size, 2, none⟩) s2]; exact y2
 have z3 : W1.cell? ⟨w.heap.size, 3, none⟩ = some (.int .i64 lk) := by rw [bW.cell (p := ⟨w.heap.size, 3, none⟩) s2]; exact y3
 have v0 : W1.cell? ⟨q, 0, none⟩ = some (.string e.nm) := by simp [World.cell?, kW]
 have v1 : W1.cell? ⟨q, 1, none⟩ = some (.int .i64 e.st) := by simp [World.cell?, kW]
 have v2 : W1.cell? ⟨q, 2, none⟩ = some (.int .i64 e.en) := by simp [World.cell?, kW]
 have v3 : W1.cell? ⟨q, 3, none⟩ = some (.int .i64 e.da) := by simp [World.cell?, kW]
 have kR : W1.heap[w.heap.size + 1]? = some (.cells #[.slice none 0 0, .slice none 0 0] 31) := (bW.block _ s1).trans K1.out
 have s3 : w.heap.size + 1 < W1.heap.size := by omega
 have KW := ahM kW
 have KR := ahM kR
 clear hW1 hq kW kR bW y y0 y1 y2 y3 r0 r1 f0 f1 c0 c1 c2 c3 HC K0 K1 B0 d0 d1
 go_upto_region 7 with (go_at_call 31; refine wJ.out.mono ?_; rintro e' W2 ⟨D, bad, fb, rfl, hfb, hRI, hIm, vI⟩)
 have Pk := (vI.block _ s3).trans KR.out
 have Zx := (vI.block _ sW).trans KW.out
 have r0 : W2.cell? ⟨w.heap.size + 1, 0, none⟩ = some (.slice none 0 0) := by simp [World.cell?, Pk]
 have r1 : W2.cell? ⟨w.heap.size + 1, 1, none⟩ = some (.slice none 0 0) := by simp [World.cell?, Pk]
 have f0 : W2.frozen? ⟨w.heap.size + 1, 0, none⟩ = false := by simp [World.frozen?, Pk]
 have f1 : W2.frozen? ⟨w.heap.size + 1, 1, none⟩ = false := by simp [World.frozen?, Pk]
 have B2 := ahM (B1.out.trans (vI.mono agO))
 have Ce := ahM hRI
 have sW2 := vI.size
 have O8 := ahM hIm
 have PU := ahM Zx
 have KR2 := ahM Pk
 clear hRI z0 z1 z2 z3 v0 v1 v2 v3 KW KR B1 wJ vI hIm Pk Zx
 rcases Classical.em (bad = -1) with hbd | hbd
 case inr =>
  have hbp : 0 ≤ bad := by
   rcases Ce.out.b with h | h
   ·exact absurd h.1 hbd
   ·have := (Ce.out.dr bad h.1).range _ _ _ g2
    omega
  have dd : decide (0 ≤ bad) = true := decide_eq_true hbp
  go_wp2_with fail
  refine bodyPost_ret (v := .tuple #[.agg #[.slice none 0 0, .slice none 0 0], .int .i64 bad, .int .i64 10]) ahf rfl (.inr (.inr (.inl ⟨P8.out, k, e, D, bad, rfl, he, hbp, Ce.out, rfl, ?_⟩)))
  refine Below.setCell (Below.setCell B2.out ?_ _) ?_ _ <;> simp
 subst hbd
 have Xh : ∀ a ∈ D, (0 ≤ a ∧ a ≤ 1000000) ∧ (-1000000 ≤ (au cd a).aP ∧ (au cd a).aP ≤ 1000000) := fun a ha => by
  have h1 := (Ce.out.dr a ha).range _ _ _ g2
  have h2 := rT (cd a.toNat) (Jn.out.wd a.toNat agO).1
  unfold au
  omega
 have IK := ahM (xH e.nm e.st e.en e.da fb (au cd) D W2 agO Xh O8.out)
 have HCD := ahM Xh
 have v0 : W2.cell? ⟨q, 0, none⟩ = some (.string e.nm) := by simp [World.cell?, PU.out]
 have v1 : W2.cell? ⟨q, 1, none⟩ = some (.int .i64 e.st) := by simp [World.cell?, PU.out]
 have v2 : W2.cell? ⟨q, 2, none⟩ = some (.int .i64 e.en) := by simp [World.cell?, PU.out]
 have v3 : W2.cell? ⟨q, 3, none⟩ = some (.int .i64 e.da) := by simp [World.cell?, PU.out]
 clear r0 r1 f0 f1 Xh
 go_upto_region 10 with (go_at_call 32; refine IK.out.mono ?_; rintro e' W3 ⟨mb, mg, rfl, hmb, hMI, Xn, hb3⟩)
 have mk := fun W : World => (show (Instr.makeMap 101 none).run Tryz.prog W = .ok (.map (some W.heap.size)) (W.alloc (.map #[] 0)) from rfl)
 obtain ⟨V, hV⟩ : ∃ V, (W3.alloc (.cells #[.slice none 0 0, .slice none 0 0] 31)).alloc (.map #[] 0) = V := ⟨_, rfl⟩
 have sV : W3.heap.size + 2 = V.heap.size := by rw [← hV]; simp
 have bV : Below W3.heap.size W3 V := hV ▸ ((Below.refl _ _).alloc (Nat.le_refl _) _).alloc agT _
 have kg : V.heap[W3.heap.size]? = some (.cells #[.slice none 0 0, .slice none 0 0] 31) := by rw [← hV, heap_alloc_old _ _ agT]; exact heap_alloc_new _ _
 have kn : Im V (W3.heap.size + 1) (Bi []) := by
  rw [← hV, JQ]
  have := Im.made (W3.alloc (.cells #[.slice none 0 0, .slice none 0 0] 31))
  rwa [World.size_alloc] at this
 have Zp := hb3.size
 have V9 : V.heap[q]? = _ := (bV.block _ agO).trans ((hb3.block _ agO).trans PU.out)
 have Zy : V.heap[w.heap.size + 1]? = _ := (bV.block _ agO).trans ((hb3.block _ agO).trans KR2.out)
 have hFl := O8.out.lt
 have UR : Im V fb (sO (au cd) D) := O8.out.keep ((bV.block _ agO).trans (hb3.block _ hFl))
 have hMl := Xn.lt
 have hM3 : Im V mb mg := Xn.keep (bV.block _ hMl)
 have Xu : Below w.heap.size w V := B2.out.trans ((hb3.mono (by have := B2.out.size; omega)).trans (bV.mono (by have := B2.out.size; omega)))
 have u1 : V.cell? ⟨q, 1, none⟩ = some (.int .i64 e.st) := by simp [World.cell?, V9]
 have KW3 := ahM V9
 have KR3 := ahM Zy
 have TN := ahM UR
 have YD := ahM hM3
 have B3 := ahM Xu
 have Qi := ahM (show BM V V W3.heap.size (W3.heap.size + 1) (.slice none 0 0) (blk (au cd) e.st D 0) from ⟨by omega, by omega, by omega, rfl, rfl, rfl, Nat.le_refl _, fun _ _ _ _ => rfl, kg, kn, World.ownsRow_nil _ _ _ _⟩)
 have HMI := ahM hMI
 have v1' : W3.cell? ⟨q, 1, none⟩ = some (.int .i64 e.st) := by rw [hb3.cell (p := ⟨q, 1, none⟩) (by show q < _; omega)]; exact v1
 clear V9 Zy UR hM3 Xu kg kn bV Xn hMI hb3 v0 v1 v2 v3 IK PU KR2 O8
 go_upto_region 13 with fail
 clear hV
 obtain ⟨gb, hgb⟩ : ∃ gb, W3.heap.size = gb := ⟨_, rfl⟩
 rw [hgb] at Qi sV Zp ⊢
 obtain ⟨nb, hnb⟩ : ∃ nb, gb + 1 = nb := ⟨_, rfl⟩
 rw [hnb] at Qi ⊢
 have hfg : fb < gb := by omega
 have hmg : mb < gb := by omega
 obtain ⟨i1, hi1, hy0, hy1, hy2⟩ := info_parts Q8
 have WE : q < gb := by omega
 have ZP : w.heap.size + 1 < gb := by omega
 have R3 : e.st ∈ D := by rcases Ce.out.s with h | h; exact h; cases h
 clear u1 v1' mk hk hbl hb2 sy sW s3 sW2 hfb hmb hFl hMl Zp hgb hc1 hc2 he1 he2 h63 s0 s1 s2
 go_loopw [13, 14, 15] (fun a13 a14 a15 wr => ∃ (m : Nat) (bv : Value), a13 = .int .i64 (e.st + (m : Int)) ∧ e.st + (m : Int) ≤ e.en ∧ BM V wr gb nb bv (blk (au cd) e.st D m)) (fun a13 _ _ _ => (e.en - intOf a13).toNat)
 case atStart => exact ⟨0, _, by simp, by simp; omega, Qi.out⟩
 case round =>
  obtain ⟨m, bv, rfl, hme, hM⟩ := hrel
  have HM := ahM hM
  clear hM Qi
  have kq := (HM.out.blk q agO agO agO).trans KW3.out
  have v2 : wr.cell? ⟨q, 2, none⟩ = some (.int .i64 e.en) := by simp [World.cell?, kq]
  have hF := HM.out.im TN.out agO agO
  have RT := HM.out.im YD.out agO agO
  have hBI := od (au cd) e.st D m
  have Ch := ahM hBI
  have hbl := vW (au cd) e.st D m
  clear kq hBI
  by_cases hlt : e.st + (m : Int) < e.en
  ·-- afA
   have dl : decide (e.st + (m : Int) < e.en) = true := decide_eq_true hlt
   have wr1 : IntKind.i64.wrap (e.st + (m : Int) + 1) = e.st + (m : Int) + 1 := IntWalk.i64_in _ agO
   have hm4 : m ≤ 4096 := by omega
   by_cases hD : e.st + (m : Int) ∈ D
   ·have l1 := hF.gj (P := Tryz.prog) (kt := 3) (t := 96) (e := 67) Tryz.underlying3 Tryz.underlying96 (k := e.st + (m : Int)) (v := (au cd (e.st + m)).val) (by unfold sO; rw [if_pos hD]) true
    obtain ⟨i, hi⟩ : ∃ i, au cd (e.st + m) = i := ⟨_, rfl⟩
    rw [hi] at l1
    simp only [↓reduceIte, Ins.val, kv] at l1
    obtain ⟨X1, Kg⟩ : ∃ X1, wr.alloc (.cells #[.int .u8 i.op, .int .i64 i.a, .int .i64 i.b, .int .i64 i.c, .int .i64 i.aP] 67) = X1 := ⟨_, rfl⟩
    have b1 : Below wr.heap.size wr X1 := Kg ▸ (Below.refl _ _).alloc (Nat.le_refl _) _
    have yU := ahM (HM.out.below b1)
    have hM1 : Im X1 mb mg := RT.below b1 RT.lt
    clear hi hF RT
    by_cases hl : nL (au cd) e.st D (e.st + m) = true
    ·have l2 := hM1.gj (P := Tryz.prog) (kt := 3) (t := 99) (e := 4) Tryz.underlying3 Tryz.underlying99 (k := e.st + (m : Int)) (v := .bool true) (by
      rcases HMI.out.lead (e.st + m) with h | h
      ·exact h.2
      ·exact absurd ((iZ _ _ _ _).1 hl) h.1) false
     simp only [Bool.false_eq_true, ↓reduceIte, kv] at l2
     have IW := ahM (show blk (au cd) e.st D (m + 1) = blk (au cd) e.st D m ++ [(e.st + m, e.st + m + 1)] by rw [blk, if_pos hD, if_pos hl])
     obtain ⟨L, hL⟩ : ∃ L, blk (au cd) e.st D m = L := ⟨_, rfl⟩
     rw [hL] at IW yU Ch hbl HM
     have Cg := ahM (show ∀ p ∈ L, p.1 ≠ e.st + m from fun p hp => by have := Ch.out.lo p hp; omega)
     clear hL hl hD HM hM1
     go_upto_region 18 with fail
     clear l1 l2 Kg
     obtain ⟨bA, iN, rfl⟩ : ∃ bA iN, bv = .slice bA L.length iN := by
      rcases yU.out.row.2 with ⟨h, h'⟩ | ⟨g, cap', cur, h, _⟩
      ·exact ⟨_, _, by rw [h, h']⟩
      ·exact ⟨_, _, h⟩
     have t0 : X1.cell? ⟨gb, 0, none⟩ = some (.slice bA L.length iN) := by simp [World.cell?, yU.out.g]
     obtain ⟨X2, l3, m3, o1, o2, o3, o4, o5⟩ := yU.out.num.put (P := Tryz.prog) (kt := 3) (t := 101) (e := 3) Tryz.underlying3 Tryz.underlying101 (k := e.st + (m : Int)) (eP agO agO) (.int .i64 (L.length : Int))
     simp only [kv] at l3
     rw [FH L (e.st + m) 0 Cg.out] at m3
     have QF := (yU.out.row).kept (iF o1 o2 o3 o4 o5) (.inr (fun e' => by have := yU.out.xe e'; have := yU.out.nV; omega))
     have Jd : gb ≠ nb := by omega
     have Xz := (o5 gb Jd).trans yU.out.g
     have t1 : X2.cell? ⟨gb, 0, none⟩ = some (.slice bA L.length iN) := by simp [World.cell?, Xz]
     have t2 : X2.frozen? ⟨gb, 0, none⟩ = false := by simp [World.frozen?, Xz]
     have wq := ahM QF
     have Ls := ahM (And.intro m3 (And.intro o1 (And.intro o2 (And.intro o3 (And.intro o4 o5)))))
     have wF : gb < X2.heap.size := by have := yU.out.sz; omega
     have zX : V.heap.size ≤ X2.heap.size := by have := yU.out.sz; omega
     have A6 := ahM (show some gb ≠ Value.ownBlock (.slice bA L.length iN) from fun e' => by have := yU.out.xe e'.symm; omega)
     clear QF Xz m3 o1 o2 o3 o4 o5 Jd
     go_upto_region 20 with (at_builtin; refine wpList_append_own_at _ rfl (.tmp 79) (.tmp 82) 28 rfl V.heap.size 78 i1 _ 3 40 Tryz.underlying28 hi1 hy0 hy1 hy2 rfl agQ (.slice bA L.length iN) _ _ rfl (wq.out.alloc _) ⟨X2.heap.size, 0, none⟩ 1 1 [.int .i64 (e.st + m), .int .i64 0, .slice none 0 0] rfl rfl (Ax _ _ _ _ _) agR agS agO ag0 ?_; intro v' W' hown' hgrow _ jR; obtain ⟨g', cap', rfl⟩ := ownsRow_succ hown'; have hc1 := hgrow.cell (a := ⟨gb, 0, none⟩) (v := .slice bA L.length iN) ag2 A6.out; have hf1 : W'.frozen? ⟨gb, 0, none⟩ = false := (World.frozen?_of_block (hgrow.block gb agX A6.out)).trans ag2)
     have RU := yU.out.app (a := e.st + m) Ls.out.1 Ls.out.2.1 Ls.out.2.2.1 Ls.out.2.2.2.1 Ls.out.2.2.2.2.1 Ls.out.2.2.2.2.2 hgrow (by rw [jU]; exact hown')
     obtain ⟨X4, hX4⟩ : ∃ X4, W'.setCell ⟨gb, 0, none⟩ (.slice (some ⟨g', 0, none⟩) (L.length + 1) cap') = X4 := ⟨_, rfl⟩
     rw [hX4] at RU ⊢
     have hrw := RU.row
     rw [show (L ++ [(e.st + (m : Int), (0 : Int))]).length = L.length + 1 by simp] at hrw
     have t3 : X4.cell? ⟨gb, 0, none⟩ = some (.slice (some ⟨g', 0, none⟩) (L.length + 1) cap') := by simp [World.cell?, RU.g]
     have t4 : X4.cell? ⟨g', L.length * 3 + 1, none⟩ = some (.int .i64 0) := by rw [hrw.cellAt _ agO]; exact x7 L _ _
     have t5 : X4.frozen? ⟨g', L.length * 3 + 1, none⟩ = false := hrw.frozenAt _
     have RI : L.length + 1 ≤ cap' := by
      rcases hrw.2 with ⟨h, _⟩ | ⟨_, _, _, h, _, _, h2, _⟩
      ·cases h
      ·cases h; exact h2
     have ID := ahM RU
     clear hX4 RU hrw hc1 hf1 jR hgrow hown' t0 t1 t2 l3 Ls wq A6 wF zX
     go_wp2_with fail
     go_roundw
     case rel =>
      refine ⟨m + 1, .slice (some ⟨g', 0, none⟩) (L.length + 1) cap', by rw [show ((m + 1 : Nat) : Int) = (m : Int) + 1 by omega, Int.add_assoc], by omega, ?_⟩
      rw [IW.out]
      exact ID.out.j7
     case measure => simp [intOf]; omega
    ·have l2 := hM1.gS (P := Tryz.prog) (kt := 3) (t := 99) (e := 4) Tryz.underlying3 Tryz.underlying99 (Em X1) (k := e.st + (m : Int)) (eP agO agO) (by
      rcases HMI.out.lead (e.st + m) with h | h
      ·exact absurd ((iZ _ _ _ _).2 h.1) hl
      ·exact h.2) false
     simp only [Bool.false_eq_true, ↓reduceIte, kv] at l2
     have hm0 : 0 < m := by
      rcases Nat.eq_zero_or_pos m with h | h
      ·subst h
       exact absurd (by simpa using zK (au cd) e.st D) hl
      ·exact h
     obtain ⟨M, pa, pb, hL⟩ := oG _ (Ch.out.ne R3 hm0)
     have IW := ahM (show blk (au cd) e.st D (m + 1) = M ++ [(pa, e.st + m + 1)] by rw [blk, if_pos hD, if_neg hl, hL, iu])
     rw [hL] at yU hbl
     clear hL hl hD HM hM1 Ch
     have hrw := yU.out.row
     rw [show (M ++ [(pa, pb)]).length = M.length + 1 by simp] at hrw
     obtain ⟨g', cap', rfl⟩ := ownsRow_succ hrw
     have t3 : X1.cell? ⟨gb, 0, none⟩ = some (.slice (some ⟨g', 0, none⟩) (M.length + 1) cap') := by simp [World.cell?, yU.out.g]
     have t4 : X1.cell? ⟨g', M.length * 3 + 1, none⟩ = some (.int .i64 pb) := by rw [hrw.cellAt _ agO]; exact x7 M _ _
     have t5 : X1.frozen? ⟨g', M.length * 3 + 1, none⟩ = false := hrw.frozenAt _
     have RI : M.length + 1 ≤ cap' := by
      rcases hrw.2 with ⟨h, _⟩ | ⟨_, _, _, h, _, _, h2, _⟩
      ·cases h
      ·cases h; exact h2
     have adN : M.length + 1 ≤ m := by simpa using hbl
     clear hrw hbl
     go_upto_region 20 with fail
     clear l1 l2 Kg
     go_wp2_with fail
     go_roundw
     case rel =>
      refine ⟨m + 1, .slice (some ⟨g', 0, none⟩) (M.length + 1) cap', by rw [show ((m + 1 : Nat) : Int) = (m : Int) + 1 by omega, Int.add_assoc], by omega, ?_⟩
      rw [IW.out]
      exact yU.out.j7
     case measure => simp [intOf]; omega
   ·have l1 := hF.gS (P := Tryz.prog) (kt := 3) (t := 96) (e := 67) Tryz.underlying3 Tryz.underlying96 (xM wr) (k := e.st + (m : Int)) (eP agO agO) (by unfold sO; rw [if_neg hD]) true
    simp only [↓reduceIte, kv] at l1
    have IW := ahM (show blk (au cd) e.st D (m + 1) = blk (au cd) e.st D m by rw [blk, if_neg hD])
    clear hD hF RT
    go_wp2_with fail
    go_roundw
    case rel =>
     refine ⟨m + 1, bv, by rw [show ((m + 1 : Nat) : Int) = (m : Int) + 1 by omega, Int.add_assoc], by omega, ?_⟩
     rw [IW.out]
     exact HM.out.below ((Below.refl _ _).alloc (Nat.le_refl _) _)
    case measure => simp [intOf]; omega
  ·-- afz
   have dl : decide (e.st + (m : Int) < e.en) = false := decide_eq_false hlt
   have P5 := ahM (show m = (e.en - e.st).toNat by omega)
   have hm0 : 0 < m := by omega
   clear hF RT
   obtain ⟨L, hL⟩ : ∃ L, blk (au cd) e.st D m = L := ⟨_, rfl⟩
   rw [hL] at HM hbl Ch
   have IK := ahM hL
   have hn0 : 0 < L.length := List.length_pos_iff.2 (Ch.out.ne R3 hm0)
   have hL4 : L.length ≤ 4096 := by omega
   obtain ⟨g, aW, rfl⟩ : ∃ g aW, bv = .slice (some ⟨g, 0, none⟩) L.length aW := by
    rcases HM.out.row.2 with ⟨h, h'⟩ | ⟨g, cap', cur, h, _⟩
    ·omega
    ·exact ⟨_, _, h⟩
   have t0 : wr.cell? ⟨gb, 0, none⟩ = some (.slice (some ⟨g, 0, none⟩) L.length aW) := by simp [World.cell?, HM.out.g]
   obtain ⟨i2, hi2, hs0, hs1, hs2⟩ := info_parts LU
   obtain ⟨U1, lm, dM, gr1⟩ := run_make_full (P := Tryz.prog) wr V.heap.size 29 38 i2 (.slice none 0 0) 1 Tryz.underlying29 hi2 hs0 hs1 .i64 .i64 L.length ahA agS HM.out.sz
   rw [Nat.mul_one, show (Value.slice none 0 0).cells = #[Value.slice none 0 0] from rfl, toList_madeCells_one] at dM
   have gU : U1.heap[gb]? = _ := (gr1.block gb (by have := HM.out.sz; have := HM.out.gV; omega) agT).trans HM.out.g
   have u0 : U1.cell? ⟨gb, 0, none⟩ = some (.slice (some ⟨g, 0, none⟩) L.length aW) := by simp [World.cell?, gU]
   have u1 : U1.cell? ⟨gb, 1, none⟩ = some (.slice none 0 0) := by simp [World.cell?, gU]
   have u2 : U1.frozen? ⟨gb, 1, none⟩ = false := by simp [World.frozen?, gU]
   clear hL hlt hme hbl
   go_upto_region 23 with fail
   obtain ⟨pg, Rl⟩ : ∃ pg, wr.heap.size = pg := ⟨_, rfl⟩
   rw [Rl] at dM ⊢
   obtain ⟨U2, xZ⟩ : ∃ U2, U1.setCell ⟨gb, 1, none⟩ (.slice (some ⟨pg, 0, none⟩) L.length L.length) = U2 := ⟨_, rfl⟩
   have bN : BN V U2 gb nb g aW pg L (fun _ => .slice none 0 0) (dR (au cd) L 0 []) := by
    have hgr := HM.out.xe (j := g) rfl
    have Uw := dM.lt pg rfl
    have hz := HM.out.sz
    have Mg := HM.out.gV
    have Gu := HM.out.nV
    have gs := gr1.size
    have sm : ∀ k, k < V.heap.size → k ≠ gb → U2.heap[k]? = wr.heap[k]? := fun k h1 h2 => by
     rw [← xZ, Below.heap_setCell _ _ _ _ h2]
     exact gr1.block k agO agT
    refine ⟨Mg, Gu, HM.out.gn, ?_, ?_, ?_, ?_, fun k h1 h2 h3 => (sm k h1 h2).trans (HM.out.blk k h1 h2 h3), ?_, HM.out.num.keep (sm nb Gu (Ne.symm HM.out.gn)), ?_, ?_, fun i hi => ?_, fun i j hi hj _ q hq => by cases hq⟩
    ·rw [← xZ]; exact gr1.os.trans HM.out.os
    ·rw [← xZ]; exact gr1.tape.trans HM.out.tape
    ·rw [← xZ]; exact gr1.output.trans HM.out.output
    ·rw [← xZ]; simp; omega
    ·rw [← xZ, heap_setCell_same U1 gb 1 _ _ _ gU]
     rfl
    ·rw [DW, ← xZ]
     exact ownsRow_setCell_other (HM.out.row.kept gr1 (.inr ahw)) ahn _
    ·rw [← xZ]
     have e : ((List.range L.length).map fun i => (fun _ => Value.slice none 0 0) (L.length + i)) = List.replicate L.length (Value.slice none 0 0) := by
      apply List.ext_getElem?
      intro q
      by_cases hq : q < L.length
      ·simp [hq]
      ·simp [hq]
     rw [e]
     exact ownsRow_setCell_other dM ahn _
    ·rw [zH]
     exact World.ownsRow_nil _ _ _ _
   rw [xZ]
   have Qh := ahM bN
   have HCL := ahM (show ∀ k, k < L.length → (kT L k ∈ D ∧ kT L k + 1 = (L.getD k (0, 0)).2) ∧ ∀ s ∈ bM (au cd (kT L k)) (kT L k), (∃ p ∈ L, p.1 = s) ∧ JU s from fun k hk => by
    have hp : L[k] ∈ L := List.getElem_mem hk
    have e1 : L.getD k (0, 0) = L[k] := by simp [List.getD, List.getElem?_eq_getElem hk]
    have hla := Ch.out.last _ hp
    have hlo := Ch.out.lo _ hp
    unfold kT
    rw [e1]
    refine ⟨⟨hla, by omega⟩, fun s hs => ?_⟩
    have hnb : ¬ qu (au cd) e.st e.en (L[k].2 - 1) := by
     rcases Ce.out.b with h | h
     ·exact h.2 _ hla
     ·have := (Ce.out.dr _ h.1).range _ _ _ g2
      omega
    have hin : e.st ≤ s ∧ s < e.en := Classical.byContradiction fun h => hnb ⟨s, hs, h⟩
    have J1 : s ∈ D := by
     rcases Ce.out.cl _ hla s hs hin.1 hin.2 with h | h
     ·exact h
     ·cases h
    refine ⟨?_, eP agO agO⟩
    have hmm := P5.out
    refine Ch.out.num s hin.1 agO J1 ?_
    by_cases hbr : ey (au cd (L[k].2 - 1)).op = true
    ·rw [iZ]
     refine .inr ⟨_, hla, ?_⟩
     unfold dO
     rw [if_pos hbr]
     exact hs
    ·have : s = L[k].2 := by
      unfold bM at hs
      unfold ey at hbr
      split at hs
      ·cases hs
      ·split at hs
       ·simp_all
       ·split at hs
        ·rename_i h; rcases h with h | h <;> simp [h] at hbr
        ·simp at hs; omega
     rw [this] at J1 hin ⊢
     exact Ch.out.cl _ hp agO J1)
   clear xZ gU u0 u1 u2 lm dM gr1 bN HM Ch t0 Rl
   go_loopw [16, 17, 19, 20, 103] (fun a16 a17 a19 a20 OH wr => ∃ (k : Nat) (val : Nat → Value), k ≤ L.length ∧ OH = .int .i64 (k : Int) ∧ BN V wr gb nb g aW pg L val (dR (au cd) L k [])) (fun _ _ _ _ OH _ => L.length - (intOf OH).toNat)
   case atStart => exact ⟨0, _, Nat.zero_le _, rfl, Qh.out⟩
   case round =>
    obtain ⟨k', val, hk', rfl, hN⟩ := hrel
    clear Qh
    have HN := ahM hN
    clear hN
    have t0 : wr.cell? ⟨gb, 0, none⟩ = some (.slice (some ⟨g, 0, none⟩) L.length aW) := by simp [World.cell?, HN.out.gg]
    have t1 : wr.cell? ⟨gb, 1, none⟩ = some (.slice (some ⟨pg, 0, none⟩) L.length L.length) := by simp [World.cell?, HN.out.gg]
    have hrg := HN.out.rg
    by_cases hlt : k' < L.length
    ·have dl : decide ((k' : Int) < (L.length : Int)) = true := by simpa using hlt
     obtain ⟨⟨Uy, hlt2⟩, hsu⟩ := HCL.out k' hlt
     obtain ⟨p1, p2⟩ := HCD.out _ Uy
     obtain ⟨la, hla⟩ : ∃ la, kT L k' = la := ⟨_, rfl⟩
     have mK := ahM (show eG (au cd) L k' = ug L (bM (au cd la) la) by unfold eG; rw [hla])
     rw [hla] at Uy hlt2 hsu p1 p2
     have bt : wr.cell? ⟨g, k' * 3 + 1, none⟩ = some (.int .i64 (la + 1)) := by rw [HN.out.qi.cellAt _ agO, gF L val hlt agO, hlt2]; rfl
     have hF := HN.out.im TN.out agO agO
     obtain ⟨i, hi⟩ : ∃ i, au cd la = i := ⟨_, rfl⟩
     have l1 : ∀ y : Ext wr, (Instr.lookup 96 (.map (some fb)) (.int .i64 la) false).run Tryz.prog y.w = .ok (.agg #[.int .u8 i.op, .int .i64 i.a, .int .i64 i.b, .int .i64 i.c, .int .i64 i.aP]) y.w := fun y => by
      have := (hF.ext y).gj (P := Tryz.prog) (kt := 3) (t := 96) (e := 67) Tryz.underlying3 Tryz.underlying96 (k := la) (v := i.val) (by unfold sO; rw [if_pos Uy, hi]) false
      simpa only [Bool.false_eq_true, ↓reduceIte, Ins.val, kv] using this
     rw [hi] at mK hsu p2
     have w1 : IntKind.i64.wrap (la + 1 - 1) = la := by rw [IntWalk.i64_in _ agO]; omega
     have ET := ahM (fun W : World => ir i la W p1.1 p1.2 p2.1 p2.2)
     have HSU := ahM hsu
     clear hi Uy hlt2 hla hF hsu p2
     obtain ⟨hrg1, hrg2, hrg3⟩ := hrg
     have sg : g < wr.heap.size := hrg1.2
     go_upto_region 26 with fail
     refine jc 12 14 _ _ rfl rfl rfl agP agP ?_
     simp only [Act.put, ahQ, ahR, ahS, ahT, List.take_zero, ahU, List.drop_zero, Nat.reduceSub]
     repeat (go_big_quiet_step (fail))
     refine wpQuiet_nil ?_
     rintro _ ⟨y, rfl⟩
     go_wp2_with (go_at_call 33; refine (ET.out _).mono ?_; rintro e' W4 ⟨⟨v, rfl, ⟨SA, jN, rfl, sc1, sc2, sc3⟩, sc4⟩, hb4⟩)
     refine NoPanic.normal ?_
     go_upto_region 27 with fail
     obtain ⟨S, hS⟩ : ∃ S, bM i la = S := ⟨_, rfl⟩
     have hS2 : S.length ≤ 2 := hS ▸ lM _ _
     rw [hS] at mK HSU sc1 sc3 sc4 ⊢
     have hy := y.h.size
     have HN4 := ahM ((HN.out.below y.h).below hb4)
     have I4 := ahM (show Ints W4 (.slice SA S.length jN) S from ⟨SA, jN, rfl, sc1, sc2, sc3⟩)
     have DJ := ahM (show ∀ q, (Value.slice SA S.length jN).ownBlock = some q → q ≠ g ∧ q ≠ pg ∧ ∀ i, i < 2 * L.length → (val i).ownBlock ≠ some q from fun q hq => by
      have h1 := sc4 q hq
      refine ⟨by omega, by omega, fun i hi h2 => ?_⟩
      have := ((HN.out.own i hi).lt q h2).2
      omega)
     clear hS sc1 sc2 sc3 sc4 hb4 hy y HN t0 t1 bt l1 w1 ET sg hrg1 hrg2 hrg3 p1
     obtain ⟨wo, rfl⟩ : ∃ wo : World, wo = wr := ⟨_, rfl⟩
     go_loopw [19, 20, 124] (fun a19 a20 a124 wr => ∃ (j : Nat) (val : Nat → Value), j ≤ S.length ∧ a124 = .int .i64 (j : Int) ∧ BN V wr gb nb g aW pg L val (dR (au cd) L k' (ug L (S.take j))) ∧ Ints wr (.slice SA S.length jN) S ∧ ∀ q, (Value.slice SA S.length jN).ownBlock = some q → q ≠ g ∧ q ≠ pg ∧ ∀ i, i < 2 * L.length → (val i).ownBlock ≠ some q) (fun _ _ a124 _ => S.length - (intOf a124).toNat)
     case atStart => exact ⟨0, _, Nat.zero_le _, rfl, HN4.out, I4.out, DJ.out⟩
     case round =>
      clear HN4 I4 DJ val
      obtain ⟨j, val, hj, rfl, hN, hI, hD'⟩ := hrel
      have HN := ahM hN
      have HI := ahM hI
      have HD := ahM hD'
      clear hN hI hD'
      by_cases hjl : j < S.length
      ·obtain ⟨A', fR, hv, i1', i2', ZH⟩ := HI.out
       cases hv
       obtain ⟨sb, so, rfl, DD, hsc⟩ := ZH agO
       obtain ⟨s, hs⟩ : ∃ s, S[j] = s := ⟨_, rfl⟩
       have x1 : wr.cell? ⟨sb, so + j, none⟩ = some (.int .i64 s) := by rw [hsc j hjl, ← hs]; simp [List.getD, List.getElem?_eq_getElem hjl]
       have Xm : S[j]? = some s := by rw [List.getElem?_eq_getElem hjl, hs]
       obtain ⟨Rp, Z8⟩ := HSU.out s (List.mem_of_getElem? Xm)
       obtain ⟨n1, n2, n3⟩ := rG Rp
       obtain ⟨p, hp⟩ : ∃ p, idx L s = p := ⟨_, rfl⟩
       have Vg := ahM (FE L S j s Xm)
       rw [hp] at n1 n2 Vg
       have l2 := HN.out.num.gj (P := Tryz.prog) (kt := 3) (t := 101) (e := 3) Tryz.underlying3 Tryz.underlying101 (k := s) (v := .int .i64 (p : Int)) n1 false
       simp only [Bool.false_eq_true, ↓reduceIte, kv] at l2
       have dl2 : decide ((j : Int) < (S.length : Int)) = true := by simpa using hjl
       obtain ⟨l, hl⟩ : ∃ l, ug L (S.take j) = l := ⟨_, rfl⟩
       have tE : l.length ≤ 2 := by
        have := Bh L (S.take j)
        rw [hl] at this
        simp at this
        omega
       rw [hl] at HN Vg
       have bn : wr.cell? ⟨g, k' * 3 + 2, none⟩ = some (val k') := by rw [HN.out.qi.cellAt _ agO, gF L val hlt agO]; rfl
       have bf : wr.frozen? ⟨g, k' * 3 + 2, none⟩ = false := HN.out.qi.frozenAt _
       have hok := HN.out.own k' agO
       rw [mQ _ _ _ _ hlt] at hok
       have yZ := ahM (tG (val k') l (p : Int) wr (eD hok))
       unfold maxLen at i2'
       obtain ⟨vA, dF, hval⟩ : ∃ vA dF, val k' = .slice vA l.length dF := by
        rcases hok.2 with ⟨h, h'⟩ | ⟨g, cap', cur, h, _⟩
        ·exact ⟨_, _, by rw [h, h']⟩
        ·exact ⟨_, _, h⟩
       have pF := ahM hok
       have gw := ahM hval
       rw [hval] at bn yZ
       clear hsc ZH hs Rp n1 n3 hp hl Z8 hok hval Xm
       by_cases hin : (p : Int) ∈ l
       ·have HAD := ahM (show mA l (p : Int) = l by unfold mA; rw [if_pos hin])
        rw [decide_eq_true hin] at yZ
        clear hin
        go_wp2_with (go_at_call 34; refine yZ.out.mono ?_; rintro e' w' ⟨rfl, rfl⟩)
        go_roundw
        case rel =>
         refine ⟨j + 1, val, by omega, by go_num, ?_, HI.out, HD.out⟩
         rw [Vg.out, HAD.out]
         exact HN.out
        case measure => simp [intOf]; omega
       ·have HAD := ahM (show mA l (p : Int) = l ++ [(p : Int)] by unfold mA; rw [if_neg hin])
        have tP := ahM hin
        rw [decide_eq_false hin] at yZ
        clear hin
        obtain ⟨iI, pR, pT, nR, nQ⟩ := info_parts nP
        have hsz := HN.out.rg
        have Yv := ahM (show some g ≠ Value.ownBlock (.slice vA l.length dF) from fun e' => by
         rw [← gw.out] at e'
         exact cT pF.out HN.out.qi agQ g e'.symm rfl)
        have hg0 : g < wr.heap.size := hsz.1.2
        have hOA : wr.ownsRow V.heap.size 3 1 (.slice vA l.length dF) l.length (dQ l) := by rw [← gw.out]; exact pF.out
        have HOA := ahM hOA
        have hVw := HN.out.sz
        clear hOA hsz
        go_upto_region 32 with (first | (go_at_call 34; refine yZ.out.mono ?_; rintro e' w' ⟨rfl, rfl⟩) | (at_builtin; refine wpList_append_own_at _ rfl (.tmp 142) (.tmp 144) 38 rfl V.heap.size 3 iI (.int .i64 0) 1 8 Tryz.underlying38 pR pT nR nQ rfl agQ (.slice vA l.length dF) _ _ rfl (HOA.out.alloc _) ⟨wr.heap.size, 0, none⟩ 1 1 [.int .i64 (p : Int)] rfl rfl (cell_one_new _ _ _) agR agS agO ag0 ?_; intro v' W' hown' hgrow _ jR; obtain ⟨g', cap', rfl⟩ := ownsRow_succ hown'; have hc1 := hgrow.cell (a := ⟨g, k' * 3 + 2, none⟩) (v := .slice vA l.length dF) ag2 Yv.out; have hf1 : W'.frozen? ⟨g, k' * 3 + 2, none⟩ = false := (World.frozen?_of_block (hgrow.block g agX Yv.out)).trans ag2))
        have zY := HN.out.app (x := 0) (i := k') (y := (p : Int)) agO ((Below.refl wr.heap.size wr).alloc (Nat.le_refl _) (.cells #[.int .i64 (p : Int)] 3)) (by rw [gw.out]; exact hgrow) (by rw [mQ _ _ _ _ hlt]; simpa [dQ] using hown') (by rw [gw.out]; exact jR) g (k' * 3 + 2) (.inl ⟨hlt, rfl, rfl⟩)
        rw [mQ _ _ _ _ hlt] at zY
        have Xo := ((HI.out.below ((Below.refl wr.heap.size wr).alloc (Nat.le_refl _) (.cells #[.int .i64 (p : Int)] 3))).grown hgrow (fun q hq hq2 => (HD.out q hq).2.2 k' agO (by rw [gw.out]; exact hq2))).grown (aO W' g (k' * 3 + 2) (.slice (some ⟨g', 0, none⟩) (l.length + 1) cap')) (fun q hq hq2 => (HD.out q hq).1 (by simpa using hq2.symm))
        have Xp : ∀ q, (Value.slice (some ⟨sb, so, none⟩) S.length jN).ownBlock = some q → q ≠ g ∧ q ≠ pg ∧ ∀ i, i < 2 * L.length → (upd val k' (.slice (some ⟨g', 0, none⟩) (l.length + 1) cap') i).ownBlock ≠ some q := fun q hq => by
         obtain ⟨d1, d2, d3⟩ := HD.out q hq
         refine ⟨d1, d2, fun i hi => ?_⟩
         unfold upd
         split
         ·rcases jR with h | h
          ·rw [h, ← gw.out]; exact d3 k' agO
          ·rw [h, World.size_alloc]
           intro e'
           simp [Value.ownBlock] at hq e'
           omega
         ·exact d3 i hi
        obtain ⟨X, hX⟩ : ∃ X, W'.setCell ⟨g, k' * 3 + 2, none⟩ (.slice (some ⟨g', 0, none⟩) (l.length + 1) cap') = X := ⟨_, rfl⟩
        rw [hX] at zY Xo ⊢
        obtain ⟨kK, LX⟩ : ∃ kK, upd val k' (.slice (some ⟨g', 0, none⟩) (l.length + 1) cap') = kK := ⟨_, rfl⟩
        rw [LX] at zY Xp
        have hop := zY.own (L.length + p) agO
        have hpl : upd (dR (au cd) L k' l) k' (l ++ [(p : Int)]) (L.length + p) = dR (au cd) L k' l (L.length + p) := by unfold upd; rw [if_neg agO]
        rw [hpl] at hop
        have Js := ahM (Dl (au cd) L k' p l hlt n2 tP.out)
        have wK := ahM hpl
        obtain ⟨pl, NM⟩ : ∃ pl, dR (au cd) L k' l (L.length + p) = pl := ⟨_, rfl⟩
        have WI : pl.length ≤ 5000 := by
         rw [← NM]
         unfold dR
         rw [if_neg agO]
         have h1 := zB (au cd) L k' (L.length + p - L.length)
         have h2 : (if ((L.length + p - L.length : Nat) : Int) ∈ l then [(k' : Int)] else []).length ≤ 1 := by split <;> simp
         rw [List.length_append]
         omega
        rw [NM] at hop Js wK
        obtain ⟨pA, aT, hvp⟩ : ∃ pA aT, kK (L.length + p) = .slice pA pl.length aT := by
         rcases hop.2 with ⟨h, h'⟩ | ⟨g, cap', cur, h, _⟩
         ·exact ⟨_, _, by rw [h, h']⟩
         ·exact ⟨_, _, h⟩
        have MO := ahM hvp
        have q0 : X.cell? ⟨gb, 1, none⟩ = some (.slice (some ⟨pg, 0, none⟩) L.length L.length) := by simp [World.cell?, zY.gg]
        have q1 : X.cell? ⟨pg, p, none⟩ = some (.slice pA pl.length aT) := by rw [zY.cG.cellAt _ agO, List.getElem?_map, List.getElem?_range n2, ← hvp]; rfl
        have q2 : X.frozen? ⟨pg, p, none⟩ = false := zY.cG.frozenAt _
        have PZ := ahM (show some pg ≠ Value.ownBlock (.slice pA pl.length aT) from fun e' => by
         rw [← hvp] at e'
         exact cT hop zY.cG agQ pg e'.symm rfl)
        have Tv := ahM (show some gb ≠ Value.ownBlock (.slice pA pl.length aT) from fun e' => by
         rw [← hvp] at e'
         have := (hop.lt gb e'.symm).1
         have := zY.gV
         omega)
        rw [hvp] at hop
        have wu := ahM hop
        have kJ := ahM zY
        have TD := ahM Xo
        have Vs := ahM Xp
        have WJ : pg < X.heap.size := zY.rg.2.1.2
        have adH : gb < X.heap.size := by have := zY.sz; have := zY.gV; omega
        have PI := zY.sz
        clear hX zY Xo Xp hop hvp LX hpl NM hc1 hf1 jR hgrow hown' HN HI HD yZ pF gw HOA Yv hg0 hVw bn bf l2 x1 DD
        have y9 := ahM (show ∀ (W2 : World) (v2 : Value), ((X.alloc (.cells #[.int .i64 (k' : Int)] 3)).drew).grownBy W2 (Value.slice pA pl.length aT).ownBlock → W2.ownsRow V.heap.size 3 1 v2 (pl.length + 1) (dQ pl ++ [.int .i64 (k' : Int)]) → (v2.ownBlock = (Value.slice pA pl.length aT).ownBlock ∨ v2.ownBlock = some ((X.alloc (.cells #[.int .i64 (k' : Int)] 3)).drew).heap.size) →
          ∃ JB, BN V (W2.setCell ⟨pg, p, none⟩ v2) gb nb g aW pg L JB (dR (au cd) L k' (l ++ [(p : Int)])) ∧ Ints (W2.setCell ⟨pg, p, none⟩ v2) (.slice (some ⟨sb, so, none⟩) S.length jN) S ∧ ∀ q, (Value.slice (some ⟨sb, so, none⟩) S.length jN).ownBlock = some q → q ≠ g ∧ q ≠ pg ∧ ∀ i, i < 2 * L.length → (JB i).ownBlock ≠ some q from fun W2 v2 hg2 ho2 hb2 => by
         have bD : Below X.heap.size X ((X.alloc (.cells #[.int .i64 (k' : Int)] 3)).drew) := Below.drew ((Below.refl _ _).alloc (Nat.le_refl _) _)
         have h3 := kJ.out.app (x := 0) (i := L.length + p) (y := (k' : Int)) agO bD (by rw [MO.out]; exact hg2) (by rw [wK.out]; simpa [dQ] using ho2) (by rw [MO.out]; exact hb2) pg p (.inr ⟨by omega, rfl, by omega⟩)
         rw [wK.out] at h3
         refine ⟨_, by rw [Js.out]; exact h3, ((TD.out.below bD).grown hg2 (fun q hq hq2 => (Vs.out q hq).2.2 (L.length + p) agO (by rw [MO.out]; exact hq2))).grown (aO W2 pg p v2) (fun q hq hq2 => (Vs.out q hq).2.1 (by simpa using hq2.symm)), fun q hq => ?_⟩
         obtain ⟨d1, d2, d3⟩ := Vs.out q hq
         refine ⟨d1, d2, fun i hi => ?_⟩
         unfold upd
         split
         ·rcases hb2 with h | h
          ·rw [h, ← MO.out]; exact d3 _ agO
          ·rw [h]
           intro e'
           have hlt3 : q < X.heap.size := by
            obtain ⟨A5, aeq, hv5, _, _, h5⟩ := TD.out
            cases hv5
            obtain ⟨b5, o5, GF, Gv, _⟩ := h5 agO
            cases GF
            simp [Value.ownBlock] at hq
            omega
           have e2 : (X.alloc (.cells #[.int .i64 (k' : Int)] 3)).drew.heap.size = X.heap.size + 1 := by show (X.alloc _).heap.size = _; simp
           rw [e2] at e'
           cases e'
           omega
         ·exact d3 i hi)
        clear TD Vs kJ Js wK MO
        refine wp_region_noPanic ?_
        go_region_law (refine bI rfl (.tmp 155) (.tmp 157) 38 rfl V.heap.size 3 iI (.int .i64 0) 1 8 Tryz.underlying38 pR pT nR nQ rfl agQ (.slice pA pl.length aT) pl.length (dQ pl) ahj (World.ownsRow.alloc (World.ownsRow.drew wu.out) _) ⟨X.heap.size, 0, none⟩ 1 1 [.int .i64 (k' : Int)] ahj rfl (cell_one_new _ _ _) agR agS agO (by show V.heap.size ≤ (World.alloc _ _).heap.size; rw [World.size_alloc]; omega) ?_; intro v' W2 hown2 hgrow2 xY; obtain ⟨g2, fR, rfl⟩ := ownsRow_succ hown2; have hc1 := hgrow2.cell (a := ⟨pg, p, none⟩) (v := .slice pA pl.length aT) ag2 PZ.out; have hc2 := hgrow2.cell (a := ⟨gb, 1, none⟩) (v := .slice (some ⟨pg, 0, none⟩) L.length L.length) ag2 Tv.out; have hf1 : W2.frozen? ⟨pg, p, none⟩ = false := (World.frozen?_of_block (hgrow2.block pg agX PZ.out)).trans ag2)
        all_goals
         obtain ⟨JB, f1, f2, f3⟩ := y9.out W2 _ hgrow2 hown2 xY
         have F1 := ahM f1
         have F2 := ahM f2
         have F3 := ahM f3
         clear f1 f2 f3 hgrow2 hown2 xY hc1 hc2 hf1
         refine NoPanic.normal ?_
         go_wp2_with fail
         go_roundw
         case rel =>
          refine ⟨j + 1, JB, by omega, by go_num, ?_, F2.out, F3.out⟩
          rw [Vg.out, HAD.out]
          exact F1.out
         case measure => simp [intOf]; omega
      ·obtain rfl : j = S.length := by omega
       have dl2 : decide ((S.length : Int) < (S.length : Int)) = false := by simp
       rw [List.take_length] at HN
       go_wp2_with fail
       go_roundw
       case rel =>
        refine ⟨k' + 1, val, by omega, by go_num, ?_⟩
        rw [← zI, mK.out]
        exact HN.out
       case measure => simp [intOf]; omega
    ·obtain rfl : k' = L.length := by omega
     have dl : decide ((L.length : Int) < (L.length : Int)) = false := by simp
     have Xu := B3.out.size
     have sR : w.heap.size + 1 < V.heap.size := vK KR3.out
     have rq : w.heap.size + 1 ≠ gb := by omega
     have kR := (HN.out.blk (w.heap.size + 1) sR rq agO).trans KR3.out
     have r0 : wr.cell? ⟨w.heap.size + 1, 0, none⟩ = some (.slice none 0 0) := by simp [World.cell?, kR]
     have r1 : wr.cell? ⟨w.heap.size + 1, 1, none⟩ = some (.slice none 0 0) := by simp [World.cell?, kR]
     have f0 : wr.frozen? ⟨w.heap.size + 1, 0, none⟩ = false := by simp [World.frozen?, kR]
     have f1 : wr.frozen? ⟨w.heap.size + 1, 1, none⟩ = false := by simp [World.frozen?, kR]
     go_wp2_with fail
     have G1 : wr.grownBy ((wr.setCell ⟨w.heap.size + 1, 0, none⟩ (.slice (some ⟨g, 0, none⟩) L.length aW)).setCell ⟨w.heap.size + 1, 1, none⟩ (.slice (some ⟨pg, 0, none⟩) L.length L.length)) (some (w.heap.size + 1)) := by
      refine ⟨rfl, rfl, rfl, by simp, fun j _ hne => ?_⟩
      have : j ≠ w.heap.size + 1 := fun e => hne (by rw [e])
      rw [Below.heap_setCell _ _ _ _ this, Below.heap_setCell _ _ _ _ this]
     have hgr := HN.out.graph G1 sR
     have HNW := ahM (show OM w.heap.size (.slice (some ⟨g, 0, none⟩) L.length aW) (.slice (some ⟨pg, 0, none⟩) L.length L.length) from by
      have h1 := HN.out.rg
      have h2 := B3.out.size
      refine ⟨fun q hq => ?_, fun q hq => ?_⟩
      ·have e : g = q := by simpa [Value.ownBlock] using hq
       omega
      ·have e : pg = q := by simpa [Value.ownBlock] using hq
       omega)
     have yP : Below w.heap.size w ((wr.setCell ⟨w.heap.size + 1, 0, none⟩ (.slice (some ⟨g, 0, none⟩) L.length aW)).setCell ⟨w.heap.size + 1, 1, none⟩ (.slice (some ⟨pg, 0, none⟩) L.length L.length)) := by
      refine Below.setCell (Below.setCell ⟨HN.out.os.trans B3.out.os, HN.out.tape.trans B3.out.tape, HN.out.output.trans B3.out.output, Nat.le_trans B3.out.size HN.out.sz, fun j hj => ?_⟩ ?_ _) ?_ _
      ·exact (HN.out.blk j agO agO agO).trans (B3.out.block j hj)
      ·simp
      ·simp
     refine bodyPost_ret (v := .tuple #[.agg #[.slice (some ⟨g, 0, none⟩) L.length aW, .slice (some ⟨pg, 0, none⟩) L.length L.length], .int .i64 (-1), .int .i64 0]) ahf rfl (.inr (.inr (.inr ⟨P8.out, k, e, D, L, _, _, rfl, he, Ce.out, ?_, rfl, hgr.1, hgr.2, yP, HNW.out⟩)))
     rw [← P5.out]; exact IK.out
end
section
open Go.RowKit
open Go.RowKit
open Go.RowKit
open Go.ChangeShapes Go.WideShapes Go.ChangeAt Go.RowKit
open Go.ChangeShapes Go.WideShapes Go.ChangeAt Go.RowKit
open Go.RowKit
open Go.RowKit
open Go.RowKit
open Go.ChangeShapes Go.WideShapes Go.ChangeAt Go.RowKit
open Go.RowKit
open Go.RowKit
open Go.RowKit
open Go.RowKit
open Go.RowKit
open Go.RowKit
open Go.RowKit
structure MK (n : Nat) (e : Int) (x : aZ) : Prop where
 lo : e ≤ x.lo
 hi : x.lo < x.hi
 two : x.nx.length ≤ 2
 nx : ∀ t ∈ x.nx, 0 ≤ t ∧ t < n
 ne : ¬ (x.nx.length = 2 ∧ x.nx.getD 0 0 = x.nx.getD 1 0)
def kQ (n : Nat) : Int → List aZ → Int → Prop
 | a, [], z => a = z
 | a, x :: xs, z => MK n a x ∧ kQ n x.hi xs z
theorem kQ.append {n : Nat} {l2 : List aZ} : ∀ {l1 : List aZ} {a z : Int}, kQ n a (l1 ++ l2) z ↔ ∃ m, kQ n a l1 m ∧ kQ n m l2 z
 | [], a, z => ⟨fun h => ⟨a, rfl, h⟩, fun ⟨m, h1, h2⟩ => by cases h1; exact h2⟩
 | e :: l1, a, z => by
  constructor
  ·rintro ⟨h1, h3⟩
   obtain ⟨m, h4, h5⟩ := kQ.append.1 h3
   exact ⟨m, ⟨h1, h4⟩, h5⟩
  ·rintro ⟨m, ⟨h1, h3⟩, h4⟩
   exact ⟨h1, kQ.append.2 ⟨m, h3, h4⟩⟩
theorem kQ.Mp {n : Nat} : ∀ {l : List aZ} {a z z' : Int}, kQ n a l z → kQ n a l z' → z = z'
 | [], a, z, z', h, h' => by cases h; exact h'
 | e :: l, a, z, z', h, h' => kQ.Mp h.2 h'.2
theorem kQ.snoc {n : Nat} {l : List aZ} {x : aZ} {a m : Int} (h : kQ n a l m) (h1 : MK n m x) : kQ n a (l ++ [x]) x.hi := kQ.append.2 ⟨m, h, h1, rfl⟩
theorem kQ.no {n : Nat} {G : List aZ} {k : Nat} {x : aZ} {m : Int} (hx : G[k]? = some x) (h : kQ n 0 (G.take k) m) (hno : ¬ MK n m x) : ∀ z, ¬ kQ n 0 G z := by
 intro z hz
 have hk : k < G.length := (List.getElem?_eq_some_iff.1 hx).1
 have e1 : G = G.take k ++ (x :: G.drop (k + 1)) := by
  have := List.take_append_drop k G
  rw [List.drop_eq_getElem_cons hk] at this
  have e2 : G[k] = x := by rw [List.getElem?_eq_getElem hk] at hx; exact Option.some.inj hx
  rw [e2] at this
  exact this.symm
 rw [e1] at hz
 obtain ⟨m', h1, h2⟩ := kQ.append.1 hz
 have := kQ.Mp h h1
 subst this
 exact hno h2.1
structure cm (G : List aZ) (P : List (List Int)) : Prop where
 ne : G ≠ []
 len : P.length = G.length
 ok : ∃ z, kQ G.length 0 G z
 prev : (List.range G.length).map (fX G G.length []) = P
theorem fF.slice {w : World} {v : Value} {G : List aZ} (h : fF w v G) : ∃ A cap, v = .slice A G.length cap ∧ G.length ≤ cap ∧ cap ≤ 2 ^ 63 - 1 := by
 obtain ⟨A, cap, h1, h2, h3, _⟩ := h
 unfold maxLen at h3
 exact ⟨A, cap, h1, h2, h3⟩
theorem fF.at_ {w wr : World} {A : Option Addr} {cap : Nat} {G : List aZ} (h : fF w (.slice A G.length cap) G) (hb : Below w.heap.size w wr) {j : Nat} (hj : j < G.length) :
  ∃ x nv b off, G[j]? = some x ∧ A = some ⟨b, off, none⟩ ∧ b < w.heap.size ∧ wr.cell? ⟨b, off + j * 3, none⟩ = some (.int .i64 x.lo) ∧ wr.cell? ⟨b, off + j * 3 + 1, none⟩ = some (.int .i64 x.hi) ∧ wr.cell? ⟨b, off + j * 3 + 2, none⟩ = some nv ∧ Ints w nv x.nx := by
 obtain ⟨A', cap', hv, _, _, h4⟩ := h
 cases hv
 obtain ⟨b, off, rfl, hlt, hc⟩ := h4 agO
 obtain ⟨c0, c1, nv, c2, c3⟩ := hc j _ (List.getElem?_eq_getElem hj)
 exact ⟨G[j], nv, b, off, List.getElem?_eq_getElem hj, rfl, hlt, (hb.cell (p := ⟨b, _, none⟩) hlt).trans c0, (hb.cell (p := ⟨b, _, none⟩) hlt).trans c1, (hb.cell (p := ⟨b, _, none⟩) hlt).trans c2, c3⟩
theorem Ints.slice {w : World} {v : Value} {l : List Int} (h : Ints w v l) : ∃ A cap, v = .slice A l.length cap ∧ l.length ≤ cap ∧ cap ≤ 2 ^ 63 - 1 := by
 obtain ⟨A, cap, h1, h2, h3, _⟩ := h
 unfold maxLen at h3
 exact ⟨A, cap, h1, h2, h3⟩
theorem Ints.at_ {w wr : World} {A : Option Addr} {cap : Nat} {l : List Int} (h : Ints w (.slice A l.length cap) l) (hb : Below w.heap.size w wr) {j : Nat} (hj : j < l.length) :
  ∃ s b off, l[j]? = some s ∧ A = some ⟨b, off, none⟩ ∧ b < w.heap.size ∧ wr.cell? ⟨b, off + j, none⟩ = some (.int .i64 s) := by
 obtain ⟨A', cap', hv, _, _, h4⟩ := h
 cases hv
 obtain ⟨b, off, rfl, hlt, hc⟩ := h4 agO
 refine ⟨l[j], b, off, List.getElem?_eq_getElem hj, rfl, hlt, ?_⟩
 rw [hb.cell (p := ⟨b, _, none⟩) hlt, hc j hj]
 simp [List.getD, List.getElem?_eq_getElem hj]
theorem dX {w : World} {q B s n : Nat} {cs : Array Value} {t e : TypeId} {fr : Nat × Nat} {v : Value} {xs : List Value} (hq : w.heap[q]? = some (.cells cs t fr)) (h : w.ownsRow B e s v n xs) (hne : t ≠ e) : some q ≠ v.ownBlock := by
 intro e1
 rcases h.2 with ⟨rfl, _⟩ | ⟨g, cap, cur, rfl, _, hg, _⟩
 ·cases e1
 ·simp [Value.ownBlock] at e1
  subst e1
  rw [hq] at hg
  cases hg
  exact hne rfl
theorem jL (bv pv : Value) (G : List aZ) (P : List (List Int)) (w : World) (HG : fF w bv G) (HP : l9 w pv P) (hn : G.length ≤ 5000) (eV : ∀ x ∈ G, x.nx.length ≤ 5000) :
  Calls Tryz.prog 35 #[.agg #[bv, pv]] w fun e w' => (∃ r : Bool, e = .returned (.bool r) ∧ (r = true ↔ cm G P)) ∧ Below w.heap.size w w' := by
 obtain ⟨A, cap, rfl, hc1, hc2⟩ := HG.slice
 obtain ⟨PA, aT, rfl, hp1, hp2⟩ := HP.slice
 have IP := ahM HG
 have OW := ahM HP
 have mK := ahM eV
 clear HG HP eV
 obtain ⟨V0, gl⟩ : ∃ V0, w.alloc (.cells #[.slice A G.length cap, .slice PA P.length aT] 31) = V0 := ⟨_, rfl⟩
 have b0 : Below w.heap.size w V0 := gl ▸ (Below.refl _ _).alloc (Nat.le_refl _) _
 have s0 : w.heap.size < V0.heap.size := by rw [← gl]; simp
 have k0 : V0.heap[w.heap.size]? = some (.cells #[.slice A G.length cap, .slice PA P.length aT] 31) := by rw [← gl]; exact heap_alloc_new _ _
 have y0 : V0.cell? ⟨w.heap.size, 0, none⟩ = some (.slice A G.length cap) := by simp [World.cell?, k0]
 have y1 : V0.cell? ⟨w.heap.size, 1, none⟩ = some (.slice PA P.length aT) := by simp [World.cell?, k0]
 have K0 := ahM k0
 have B0 := ahM b0
 clear k0 b0
 go_enter Tryz.func35, Tryz.ntmps35
 by_cases q1 : G.length = 0
 ·have d1 : ((G.length : Int) == 0) = true := by simp [q1]
  have HQ := ahM q1
  clear q1
  go_wp2_with fail
  go_ret
  exact ⟨⟨false, rfl, by simp; intro h; exact h.ne (List.length_eq_zero_iff.1 HQ.out)⟩, B0.out⟩
 have d1 : ((G.length : Int) == 0) = false := beq_eq_false_iff_ne.2 agO
 by_cases q2 : P.length = G.length
 case neg =>
  have d2 : ((P.length : Int) != (G.length : Int)) = true := by simp; omega
  have HQ := ahM q2
  clear q2
  go_wp2_with fail
  go_ret
  exact ⟨⟨false, rfl, by simp; intro h; exact HQ.out h.len⟩, B0.out⟩
 have d2 : ((P.length : Int) != (G.length : Int)) = false := by simp; omega
 have HQ1 := ahM q1
 have HQ2 := ahM q2
 have hn0 : 0 < G.length := by omega
 clear q1 q2
 obtain ⟨i2, hi2, hs0, hs1, hs2⟩ := info_parts LU
 obtain ⟨U1, lm, dM, gr1⟩ := run_make_full (P := Tryz.prog) V0 V0.heap.size 29 38 i2 (.slice none 0 0) 1 Tryz.underlying29 hi2 hs0 hs1 .i64 .i64 G.length ahA agS (Nat.le_refl _)
 rw [Nat.mul_one, show (Value.slice none 0 0).cells = #[Value.slice none 0 0] from rfl, toList_madeCells_one] at dM
 have Tm := ahM (PM.made gr1 (Below.refl _ _) dM)
 have u0 : U1.cell? ⟨w.heap.size, 0, none⟩ = some (.slice A G.length cap) := by rw [Tm.out.aC.cell (p := ⟨w.heap.size, 0, none⟩) s0]; exact y0
 clear dM gr1
 go_upto_region 6 with fail
 obtain ⟨pg, Rl⟩ : ∃ pg, V0.heap.size = pg := ⟨_, rfl⟩
 rw [Rl] at Tm ⊢
 clear gl lm u0 d1 d2 Rl
 rw [← zz G] at Tm
 go_loopw [4, 5, 6, 8, 29] (fun a4 a5 a6 a8 a29 wr => ∃ (k : Nat) (e : Int) (val : Nat → Value), k ≤ G.length ∧ a29 = .int .i64 (k : Int) ∧ a4 = .int .i64 e ∧ kQ G.length 0 (G.take k) e ∧ PM V0 wr pg G.length val (fX G k [])) (fun _ _ _ _ a29 _ => G.length - (intOf a29).toNat)
 case atStart => exact ⟨0, 0, _, Nat.zero_le _, rfl, rfl, rfl, Tm.out⟩
 case round =>
  obtain ⟨k, e, val, hk, rfl, rfl, hok, GD⟩ := hrel
  clear Tm
  have pF := ahM hok
  have HM := ahM GD
  have BW := ahM (B0.out.trans (GD.aC.mono agO))
  have sB := GD.aC.size
  clear hok GD
  by_cases hlt : k < G.length
  ·obtain ⟨x, nv, b, off, hx, rfl, hbl, c0, c1, c2, hI⟩ := IP.out.at_ BW.out hlt
   obtain ⟨NA, cY, rfl, hn1, hn2⟩ := hI.slice
   have HI := ahM hI
   have HX := ahM hx
   have U5 := ahM (List.mem_of_getElem? hx)
   have hxl := mK.out x U5.out
   have mL := ahM (show ¬ MK G.length e x → ∀ z, ¬ kQ G.length 0 G z from fun h => kQ.no hx pF.out h)
   have dl : decide ((k : Int) < (G.length : Int)) = true := by simpa using hlt
   clear hx hI
   by_cases q3 : e ≤ x.lo
   case neg =>
    have d3 : decide (x.lo < e) = true := by simp; omega
    have HQ := ahM (mL.out (fun h => q3 h.lo))
    clear q3
    go_wp2_with fail
    go_ret
    exact ⟨⟨false, rfl, by simp; intro h; obtain ⟨z, hz⟩ := h.ok; exact HQ.out z hz⟩, BW.out.alloc agO _⟩
   have d3 : decide (x.lo < e) = false := by simp; omega
   by_cases q4 : x.lo < x.hi
   case neg =>
    have d4 : decide (x.hi ≤ x.lo) = true := by simp; omega
    have HQ := ahM (mL.out (fun h => q4 h.hi))
    clear q4 q3
    go_wp2_with fail
    go_ret
    exact ⟨⟨false, rfl, by simp; intro h; obtain ⟨z, hz⟩ := h.ok; exact HQ.out z hz⟩, BW.out.alloc agO _⟩
   have d4 : decide (x.hi ≤ x.lo) = false := by simp; omega
   by_cases q5 : x.nx.length ≤ 2
   case neg =>
    have d5 : decide ((2 : Int) < (x.nx.length : Int)) = true := by simp; omega
    have HQ := ahM (mL.out (fun h => q5 h.two))
    clear q5 q4 q3
    go_wp2_with fail
    go_ret
    exact ⟨⟨false, rfl, by simp; intro h; obtain ⟨z, hz⟩ := h.ok; exact HQ.out z hz⟩, BW.out.alloc agO _⟩
   have d5 : decide ((2 : Int) < (x.nx.length : Int)) = false := by simp; omega
   go_upto_region 12 with fail
   obtain ⟨X, hX⟩ : ∃ X, wr.alloc (.cells #[.int .i64 x.lo, .int .i64 x.hi, .slice NA x.nx.length cY] 78) = X := ⟨_, rfl⟩
   have kX : X.heap[wr.heap.size]? = some (.cells #[.int .i64 x.lo, .int .i64 x.hi, .slice NA x.nx.length cY] 78) := hX ▸ heap_alloc_new _ _
   have HMX := ahM (hX ▸ HM.out.below ((Below.refl _ _).alloc (Nat.le_refl _) _))
   have sX : wr.heap.size < X.heap.size := by rw [← hX]; simp
   rw [hX]
   obtain ⟨q, hq⟩ : ∃ q, wr.heap.size = q := ⟨_, rfl⟩
   rw [hq] at kX sX ⊢
   have KX := ahM kX
   have uP := ahM (And.intro q3 (And.intro q4 q5))
   clear kX hX c0 c1 c2 d3 d4 d5 dl q3 q4 HM BW hq
   obtain ⟨iI, pR, pT, nR, nQ⟩ := info_parts nP
   obtain ⟨wo, rfl⟩ : ∃ wo : World, wo = wr := ⟨_, rfl⟩
   go_loopw [8, 56] (fun a8 a56 wr => ∃ (j : Nat) (val : Nat → Value), j ≤ x.nx.length ∧ a56 = .int .i64 (j : Int) ∧ (∀ t ∈ x.nx.take j, 0 ≤ t ∧ t < (G.length : Int)) ∧ wr.heap[q]? = some (.cells #[.int .i64 x.lo, .int .i64 x.hi, .slice NA x.nx.length cY] 78) ∧ PM V0 wr pg G.length val (fX G k (x.nx.take j))) (fun _ a56 _ => x.nx.length - (intOf a56).toNat)
   case atStart => exact ⟨0, val, Nat.zero_le _, rfl, by simp, KX.out, HMX.out⟩
   case round =>
    clear HMX KX val
    obtain ⟨j, val, hj, rfl, hin, Ka, GD⟩ := hrel
    have tP := ahM hin
    have kJ := ahM Ka
    have HM := ahM GD
    have BW := ahM (B0.out.trans (GD.aC.mono agO))
    have sB2 := GD.aC.size
    have hrg := GD.rg
    have z0 : wr.cell? ⟨w.heap.size, 0, none⟩ = some (.slice (some ⟨b, off, none⟩) G.length cap) := by rw [GD.aC.cell (p := ⟨w.heap.size, 0, none⟩) s0]; exact y0
    have v2 : wr.cell? ⟨q, 2, none⟩ = some (.slice NA x.nx.length cY) := by simp [World.cell?, Ka]
    clear hin Ka GD
    by_cases hjl : j < x.nx.length
    ·obtain ⟨s, nb, gN, hs, rfl, hnb, x1⟩ := HI.out.at_ BW.out hjl
     have HS := ahM (bR hs)
     have Vb := ahM (List.mem_of_getElem? hs)
     have dl : decide ((j : Int) < (x.nx.length : Int)) = true := by simpa using hjl
     clear hs
     by_cases q6 : 0 ≤ s
     case neg =>
      have d6 : decide (s < 0) = true := decide_eq_true agO
      have HQ := ahM (mL.out (fun h => q6 (h.nx s Vb.out).1))
      clear q6
      go_wp2_with fail
      go_ret
      exact ⟨⟨false, rfl, by simp; intro h; obtain ⟨z, hz⟩ := h.ok; exact HQ.out z hz⟩, BW.out⟩
     have d6 : decide (s < 0) = false := decide_eq_false agO
     by_cases q7 : s < (G.length : Int)
     case neg =>
      have d7 : decide ((G.length : Int) ≤ s) = true := decide_eq_true agO
      have HQ := ahM (mL.out (fun h => q7 (h.nx s Vb.out).2))
      clear q7 q6
      go_wp2_with fail
      go_ret
      exact ⟨⟨false, rfl, by simp; intro h; obtain ⟨z, hz⟩ := h.ok; exact HQ.out z hz⟩, BW.out⟩
     have d7 : decide ((G.length : Int) ≤ s) = false := decide_eq_false agO
     obtain ⟨p, rfl⟩ : ∃ p : Nat, s = (p : Int) := ⟨s.toNat, by omega⟩
     have hp : p < G.length := by omega
     obtain ⟨t1, t2⟩ := HM.out.cells hp
     have hop := HM.out.own p hp
     obtain ⟨pl, hpl⟩ : ∃ pl, fX G k (x.nx.take j) p = pl := ⟨_, rfl⟩
     have WI : pl.length ≤ 30000000 := by
      rw [← hpl]
      have := CW G mK.out k agO (x.nx.take j) p
      have h2 : (x.nx.take j).length ≤ 2 := by simp; omega
      omega
     rw [hpl] at hop
     obtain ⟨pA, ju, hvp⟩ : ∃ pA ju, val p = .slice pA pl.length ju := by
      rcases hop.2 with ⟨h, h'⟩ | ⟨g, cap', cur, h, _⟩
      ·exact ⟨_, _, by rw [h, h']⟩
      ·exact ⟨_, _, h⟩
     have MO := ahM hvp
     have wK := ahM hpl
     have PZ := ahM (show some pg ≠ Value.ownBlock (.slice pA pl.length ju) from fun e' => by
      rw [← hvp] at e'
      exact cT hop HM.out.cG agQ pg e'.symm rfl)
     have HNq := ahM (show some q ≠ Value.ownBlock (.slice pA pl.length ju) from fun e' => dX kJ.out hop agQ (by rw [hvp]; exact e'))
     have hqp : q ≠ pg := fun e' => dX kJ.out HM.out.cG agQ (by rw [e']; rfl)
     rw [hvp] at hop t1
     have wu := ahM hop
     have hq3 : q < wr.heap.size := (Array.getElem?_eq_some_iff.1 kJ.out).1
     have WJ := hrg.2
     clear hop hvp hpl q6 q7
     go_upto_region 17 with (at_builtin; refine wpList_append_own_at _ rfl (.tmp 74) (.tmp 76) 38 rfl V0.heap.size 3 iI (.int .i64 0) 1 8 Tryz.underlying38 pR pT nR nQ rfl agQ (.slice pA pl.length ju) _ _ rfl (wu.out.alloc _) ⟨wr.heap.size, 0, none⟩ 1 1 [.int .i64 (k : Int)] rfl rfl (cell_one_new _ _ _) agR agS agO ag0 ?_; intro v' W' hown' hgrow _ jR; obtain ⟨g', cap', rfl⟩ := ownsRow_succ hown'; have hc1 := hgrow.cell (a := ⟨pg, p, none⟩) (v := .slice pA pl.length ju) ag2 PZ.out; have hf1 : W'.frozen? ⟨pg, p, none⟩ = false := (World.frozen?_of_block (hgrow.block pg agX PZ.out)).trans ag2)
     have hB := HM.out.app (y := (k : Int)) hp ((Below.refl wr.heap.size wr).alloc (Nat.le_refl _) (.cells #[.int .i64 (k : Int)] 3)) (by rw [MO.out]; exact hgrow) (by rw [wK.out]; simpa [dQ] using hown') (by rw [MO.out]; exact jR)
     rw [wK.out] at hB
     have hBq : (W'.setCell ⟨pg, p, none⟩ (.slice (some ⟨g', 0, none⟩) (pl.length + 1) cap')).heap[q]? = some (.cells #[.int .i64 x.lo, .int .i64 x.hi, .slice (some ⟨nb, gN, none⟩) x.nx.length cY] 78) := by
      rw [Below.heap_setCell _ _ _ _ hqp, hgrow.block q ag0 HNq.out, heap_alloc_old _ _ hq3]
      exact kJ.out
     have HB := ahM hB
     have HBQ := ahM hBq
     clear hB hBq hc1 hf1 jR hgrow hown' t1 t2 wu PZ HNq
     go_wp2_with fail
     go_roundw
     case rel =>
      refine ⟨j + 1, upd val p (.slice (some ⟨g', 0, none⟩) (pl.length + 1) cap'), by omega, by go_num, fun t ht => ?_, HBQ.out, ?_⟩
      ·rw [HS.out] at ht
       rcases List.mem_append.1 ht with h | h
       ·exact tP.out t h
       ·simp at h; omega
      ·rw [HS.out, CX, wK.out]
       exact HB.out
     case measure => simp [intOf]; omega
    ·obtain rfl : j = x.nx.length := by omega
     have dl : decide ((x.nx.length : Int) < (x.nx.length : Int)) = false := by simp
     rw [List.take_length] at tP HM
     have hq3 : q < wr.heap.size := (Array.getElem?_eq_some_iff.1 kJ.out).1
     by_cases q8 : x.nx.length = 2
     ·obtain ⟨Um, nb, gN, hs, rfl, hnb, x1⟩ := HI.out.at_ BW.out (j := 0) agO
      obtain ⟨s1', nb', Zt, hs', hA, ady, x2⟩ := HI.out.at_ BW.out (j := 1) agO
      cases hA
      have hBs := BW.out.size
      have WQ : nb < wr.heap.size := by omega
      have d8 : ((x.nx.length : Int) == 2) = true := by simp; omega
      have e0 : x.nx.getD 0 0 = Um := by simp [List.getD, hs]
      have e1 : x.nx.getD 1 0 = s1' := by simp [List.getD, hs']
      have i0 : (0 : Int) < (x.nx.length : Int) := by omega
      have i1 : (1 : Int) < (x.nx.length : Int) := by omega
      rw [Nat.add_zero] at x1
      by_cases q9 : Um = s1'
      ·have d9 : (Um == s1') = true := by simp [q9]
       have HQ := ahM (mL.out (fun h => h.ne ⟨q8, by rw [e0, e1, q9]⟩))
       clear q9 e0 e1 q8 hs hs' q5
       go_upto_region 18 with fail
       refine aj agP agP ?_
       repeat (go_big_quiet_step (fail))
       refine wpQuiet_nil ?_
       rintro _ ⟨y, rfl⟩
       go_wp2_with fail
       go_ret
       exact ⟨⟨false, rfl, by simp; intro h; obtain ⟨z, hz⟩ := h.ok; exact HQ.out z hz⟩, Ext.below BW.out BW.out.size y⟩
      ·have d9 : (Um == s1') = false := by simp [q9]
       have OX := ahM (show MK G.length e x from ⟨uP.out.1, uP.out.2.1, uP.out.2.2, tP.out, fun h => q9 (by rw [← e0, ← e1]; exact h.2)⟩)
       clear q9 e0 e1 q8 hs hs' q5
       go_upto_region 18 with fail
       refine aj agP agP ?_
       repeat (go_big_quiet_step (fail))
       refine wpQuiet_nil ?_
       rintro _ ⟨y, rfl⟩
       go_wp2_with fail
       go_roundw
       case rel => exact ⟨k + 1, x.hi, val, by omega, by go_num, rfl, by rw [bR HX.out]; exact pF.out.snoc OX.out, by rw [← rA G k x HX.out]; exact HM.out.below y.h⟩
       case measure => simp [intOf]; omega
     ·have d8 : ((x.nx.length : Int) == 2) = false := beq_eq_false_iff_ne.2 agO
      have OX := ahM (show MK G.length e x from ⟨uP.out.1, uP.out.2.1, uP.out.2.2, tP.out, fun h => q8 h.1⟩)
      clear q8 q5
      go_upto_region 18 with fail
      refine aj agP agP ?_
      repeat (go_big_quiet_step (fail))
      refine wpQuiet_nil ?_
      rintro _ ⟨y, rfl⟩
      go_wp2_with fail
      go_roundw
      case rel => exact ⟨k + 1, x.hi, val, by omega, by go_num, rfl, by rw [bR HX.out]; exact pF.out.snoc OX.out, by rw [← rA G k x HX.out]; exact HM.out.below y.h⟩
      case measure => simp [intOf]; omega
  ·obtain rfl : k = G.length := by omega
   have dl : decide ((G.length : Int) < (G.length : Int)) = false := by simp
   rw [List.take_length] at pF
   have z1 : wr.cell? ⟨w.heap.size, 1, none⟩ = some (.slice PA P.length aT) := by rw [HM.out.aC.cell (p := ⟨w.heap.size, 1, none⟩) s0]; exact y1
   have HEF := ahM (tH _ _ _ P wr HM.out.lls (OW.out.below BW.out))
   go_wp2_with (go_at_call 64; refine HEF.out.mono ?_; rintro e w' ⟨rfl, hb5⟩)
   go_ret
   refine ⟨⟨_, rfl, ?_⟩, BW.out.trans (hb5.mono (by have := BW.out.size; omega))⟩
   rw [decide_eq_true_eq]
   constructor
   ·intro h
    exact ⟨fun e => HQ1.out ahg, HQ2.out, ⟨_, pF.out⟩, h⟩
   ·intro h
    exact h.prev
structure SZ (w : World) (v : Value) (l : List Ins) : Prop where
 at_ : ∃ A cap, v = .slice A l.length cap ∧ l.length ≤ cap ∧ cap ≤ maxLen ∧ (0 < l.length → ∃ b off, A = some ⟨b, off, none⟩ ∧ b < w.heap.size ∧ ∀ i x, l[i]? = some x →
  w.cell? ⟨b, off + i * 5, none⟩ = some (.int .u8 x.op) ∧ w.cell? ⟨b, off + i * 5 + 1, none⟩ = some (.int .i64 x.a) ∧ w.cell? ⟨b, off + i * 5 + 2, none⟩ = some (.int .i64 x.b) ∧ w.cell? ⟨b, off + i * 5 + 3, none⟩ = some (.int .i64 x.c) ∧ w.cell? ⟨b, off + i * 5 + 4, none⟩ = some (.int .i64 x.aP))
theorem Q7 : (Tryz.prog.info? 70).map (fun i => (i.zero, i.size, i.bytes)) = some (some (.int .u32 0), 1, 4) := by kernel_rfl
abbrev LC (l : List Int) : List Value := l.map (Value.int .u32)
structure IG (V wr : World) (ib : Nat) (cv ev : Value) (ws : List Int) : Prop where
 ib1 : ib < V.heap.size
 os : wr.os = V.os
 tape : wr.tape = V.tape
 output : wr.output = V.output
 sz : V.heap.size ≤ wr.heap.size
 blk : ∀ k, k < V.heap.size → k ≠ ib → wr.heap[k]? = V.heap[k]?
 im : wr.heap[ib]? = some (.cells #[cv, ev, .int .i64 0, .int .i64 0] 25 (0, 0))
 row : wr.ownsRow V.heap.size 70 1 cv ws.length (LC ws)
theorem IG.below {V wr wr' : World} {ib : Nat} {cv ev : Value} {ws : List Int} (h : IG V wr ib cv ev ws) (hb : Below wr.heap.size wr wr') : IG V wr' ib cv ev ws :=
 ⟨h.ib1, hb.os.trans h.os, hb.tape.trans h.tape, hb.output.trans h.output, Nat.le_trans h.sz hb.size, fun k h1 h2 => (hb.block k (by have := h.sz; omega)).trans (h.blk k h1 h2), (hb.block _ (by have := h.sz; have := h.ib1; omega)).trans h.im, ak h.row hb⟩
theorem IG.base {V wr w : World} {ib : Nat} {cv ev : Value} {ws : List Int} (h : IG V wr ib cv ev ws) (hb : Below w.heap.size w V) (hi : w.heap.size ≤ ib) : Below w.heap.size w wr :=
 ⟨h.os.trans hb.os, h.tape.trans hb.tape, h.output.trans hb.output, Nat.le_trans hb.size h.sz, fun k hk => (h.blk k (by have := hb.size; omega) agO).trans (hb.block k hk)⟩
theorem IG.app {V wr w2 W' : World} {ib : Nat} {cv ev v' : Value} {ws : List Int} {x : Int} (h : IG V wr ib cv ev ws) (hb : Below wr.heap.size wr w2) (hg : w2.grownBy W' cv.ownBlock) (hown : W'.ownsRow V.heap.size 70 1 v' (ws.length + 1) (LC (ws ++ [x]))) : IG V (W'.setCell ⟨ib, 0, none⟩ v') ib v' ev (ws ++ [x]) := by
 have G := grown_of hb hg
 have i1 := h.ib1
 have hsz := h.sz
 have wF := G.size
 have rl : ∀ q, cv.ownBlock = some q → V.heap.size ≤ q := fun q hq => (h.row.lt q hq).1
 have sm : ∀ k, k < V.heap.size → W'.heap[k]? = wr.heap[k]? := fun k hk => G.block k agO (fun e => by have := rl k e.symm; omega)
 refine ⟨i1, G.os.trans h.os, G.tape.trans h.tape, G.output.trans h.output, by simp; omega, fun k h1 h2 => ?_, ?_, ?_⟩
 ·rw [Below.heap_setCell _ _ _ _ h2]; exact (sm k h1).trans (h.blk k h1 h2)
 ·rw [heap_setCell_same W' ib 0 _ _ v' ((sm ib i1).trans h.im)]; rfl
 ·rw [show (ws ++ [x]).length = ws.length + 1 by simp]
  exact ownsRow_setCell_other hown (fun e => by have := (hown.lt ib e).1; omega) _
theorem C5 {w : World} {B : Nat} {v : Value} {ws : List Int} (h : w.ownsRow B 70 1 v ws.length (LC ws)) (hl : ws.length ≤ 1000000) (hw : ∀ x ∈ ws, 0 ≤ x ∧ x < 4294967296) : Words w v ws.length (fun i => ws.getD i 0) := by
 refine ⟨hl, fun i hi => ?_, ?_⟩
 ·have : ws.getD i 0 = ws[i] := by simp [List.getD, List.getElem?_eq_getElem hi]
  rw [this]
  exact hw _ (List.getElem_mem hi)
 ·rcases h.2 with ⟨rfl, h0⟩ | ⟨g, cap, cur, rfl, _, hg, h1, h2, _, _⟩
  ·rw [h0]
   exact ⟨none, 0, rfl, Nat.le_refl _, by unfold maxLen; omega, fun h => by omega⟩
  ·refine ⟨_, cap, rfl, h1, h2, fun _ => ⟨g, 0, rfl, (Array.getElem?_eq_some_iff.1 hg).1, fun i hi => ?_⟩⟩
   rw [Nat.zero_add, h.cellAt i agO]
   simp [LC, List.getD, List.getElem?_eq_getElem hi]
theorem Dr (c : Int → Ins) (st : Int) {D D' : List Int} (h : ∀ x, x ∈ D ↔ x ∈ D') (x : Int) : nL c st D x = nL c st D' x := by
 have : nL c st D x = true ↔ nL c st D' x = true := by
  rw [iZ, iZ]
  unfold tN
  constructor
  ·rintro (e | ⟨a, ha, hm⟩)
   ·exact .inl e
   ·exact .inr ⟨a, (h a).1 ha, hm⟩
  ·rintro (e | ⟨a, ha, hm⟩)
   ·exact .inl e
   ·exact .inr ⟨a, (h a).2 ha, hm⟩
 cases h1 : nL c st D x <;> cases h2 : nL c st D' x <;> simp_all
theorem oY (c : Int → Ins) (st : Int) {D D' : List Int} (h : ∀ x, x ∈ D ↔ x ∈ D') : ∀ m, blk c st D m = blk c st D' m
 | 0 => rfl
 | m + 1 => by
  unfold blk
  rw [oY c st h m, Dr c st h]
  simp only [h]
theorem ya {α : Type} {f : α → List Value} (hf : ∀ x, (f x).length = 6) : ∀ (L : List α) (k j : Nat) (x : α), L[k]? = some x → j < 6 → (L.flatMap f)[k * 6 + j]? = (f x)[j]?
 | y :: L, 0, j, x, h, hj => by
  simp at h; subst h
  rw [List.flatMap_cons, Nat.zero_mul, Nat.zero_add, List.getElem?_append_left (by rw [hf]; exact hj)]
 | y :: L, k + 1, j, x, h, hj => by
  have h' : L[k]? = some x := by simpa using h
  rw [List.flatMap_cons, List.getElem?_append_right (by rw [hf]; omega), hf, show (k + 1) * 6 + j - 6 = k * 6 + j by omega]
  exact ya hf L k j x h' hj
theorem wU {W : World} (h : laidMet Tryz.prog [("ontime/isa.formats", Rows.laid_ontime_isa_formats)] W) : gL W := by
 have hv := tK h
 have hg : Tryz.prog.globalNamed "ontime/isa.formats" = some 0 := by kernel_rfl
 have hc : ∀ k, W.cell? ⟨0, k, none⟩ = gu.toArray[k]? := fun k => World.var?_cell hg hv k
 refine ⟨?_, fun k hk j v hv2 => ?_⟩
 ·have h0 : W.cell? ⟨0, 0, none⟩ = some (.string ⟨#[110, 111, 112]⟩) := by rw [hc 0]; kernel_rfl
  exact mI h0
 ·rw [hc]
  have hj : j < 6 := by
   have := (List.getElem?_eq_some_iff.1 hv2).1
   simpa [Fm.cells] using this
  have hf : Kk[k]? = some (fm k) := by
   unfold fm
   have : k < Kk.length := hk
   simp [List.getD, List.getElem?_eq_getElem this]
  have := ya (f := Fm.cells) (fun x => rfl) Kk k j (fm k) hf hj
  simp only [List.getElem?_toArray]
  unfold gu
  rw [this]
  exact hv2
noncomputable def oM (os : Os) : World :=
 { World.holding Tryz.prog os ⟨#[], #[], []⟩ with heap := (World.holding Tryz.prog os ⟨#[], #[], []⟩).heap.modify 0 fun
   | .cells _ t frozen => .cells gu.toArray t frozen
   | o => o }
theorem mG (os : Os) (args : Array Value) : ((oM os).forCall (fun _ _ => 0) ⟨#[], args, []⟩).memory.heap[0]? = some (.cells gu.toArray 132 (0, 0)) := by kernel_rfl
theorem F7 (os : Os) (args : Array Value) : laidMet Tryz.prog [("ontime/isa.formats", Rows.laid_ontime_isa_formats)] ((oM os).forCall (fun _ _ => 0) ⟨#[], args, []⟩).memory := by
 refine ⟨_, ⟨0, 132, gu.toArray, 8, [], [], by kernel_rfl, by kernel_rfl, by kernel_rfl, by kernel_rfl, rfl, rfl⟩, by decide +kernel, fun b off h => ?_⟩
 have hb : b = 0 := by
  have h' : MemPlace.cell b off ∈ (List.range 180).map (fun i => MemPlace.cell 0 (0 + i)) := by
   have e : (MemPlace.row ⟨0, 0, none⟩ gu.toArray.size ++ [] ++ [] : List MemPlace) = (List.range 180).map (fun i => MemPlace.cell 0 (0 + i)) := by decide +kernel
   rw [e] at h
   exact h
  obtain ⟨i, _, e⟩ := List.mem_map.1 h'
  cases e
  rfl
 subst hb
 refine ⟨⟨gu.toArray, 132, mG os args⟩, fun u v hc => ?_⟩
 simp only [World.cell?, mG os args] at hc
 exfalso
 have hm : Value.iface u v ∈ gu := List.mem_of_getElem? (by simpa using hc)
 unfold gu at hm
 obtain ⟨f, _, hf⟩ := List.mem_flatMap.1 hm
 simp [Fm.cells] at hf
theorem vr {α : Type} {P : Nat → α → Prop} (len : Nat) (h : ∀ i, i < len → ∃ x, P i x) : ∃ l : List α, l.length = len ∧ ∀ i x, l[i]? = some x → P i x := by
 induction len with
 | zero => exact ⟨[], rfl, fun i x hx => by simp at hx⟩
 | succ n ih =>
  obtain ⟨l, h1, h2⟩ := ih (fun i hi => h i agO)
  obtain ⟨x, hx⟩ := h n agO
  refine ⟨l ++ [x], by simp [h1], fun i y hy => ?_⟩
  by_cases hi : i < l.length
  ·rw [List.getElem?_append_left hi] at hy
   exact h2 i y hy
  ·rw [List.getElem?_append_right agO] at hy
   have : i - l.length = 0 := by
    rcases Nat.eq_zero_or_pos (i - l.length) with e | e
    ·exact e
    ·rw [List.getElem?_eq_none agX] at hy; cases hy
   rw [this] at hy
   simp at hy
   subst hy
   rw [show i = n by omega]
   exact hx
section
variable {H : Type} {enc : TypeId × Value → H} {P : Program} {w : World} {base : Nat} {spare : Nat → Bool} {held : Bool}
theorem mF {t e : TypeId} {fuel : Nat} {cs0 : List Value} {y0 : DataW H × List MemPlace} (ht : P.underlying t = some (.slice e)) (c : Nat) (hC : P.cellsOf e = c) (hc : 0 < c)
  (hf : DataW.trod enc P w base spare held fuel t cs0 = some y0) :
  ∃ v len, cs0 = [v] ∧ j5 w w.heap.size v len c (fun i cs => ∃ n y, DataW.trod enc P w base spare held n e cs = some y) := by
 rcases Go.Deep.open_slice ht hf with ⟨hcs, _⟩ | ⟨a, len, cap, m, n, D, Pl, hcs, _, hl, hm, hmm, _, hi⟩
 ·exact ⟨.slice none 0 0, 0, hcs, none, 0, rfl, Nat.le_refl _, by unfold maxLen; omega, fun h => absurd h agO⟩
 ·refine ⟨.slice (some a) len cap, len, hcs, _, cap, rfl, hl, hm, fun h0 => ?_⟩
  have hlm : len ≤ m := by rw [hmm]; split <;> omega
  have cell : ∀ i, i < len → ∃ cs, (∃ n y, DataW.trod enc P w base spare held n e cs = some y) ∧ cs.length = c ∧ ∀ j, j < c → w.cell? ((a.add (i * c)).add j) = cs[j]? := by
   intro i hi'
   obtain ⟨cs, hcs, htr⟩ := hi i agO
   rw [hC] at hcs
   obtain ⟨_, hl', hat⟩ := World.cells?_some hcs
   exact ⟨cs, ⟨n, _, htr⟩, hl', hat⟩
  have hspot : a.spot = none ∧ a.block < w.heap.size := by
   obtain ⟨cs, _, hl', hat⟩ := cell 0 h0
   have h1 := hat 0 hc
   rw [List.getElem?_eq_getElem agO] at h1
   have e0 : ((a.add (0 * c)).add 0) = a := by simp [Addr.add]
   rw [e0] at h1
   exact ⟨World.cell?_spot h1, mI h1⟩
  obtain ⟨b, off, spot⟩ := a
  simp only at hspot
  obtain ⟨rfl, hb⟩ := hspot
  refine ⟨b, off, rfl, hb, fun i hi' => ?_⟩
  obtain ⟨cs, r, hl', hat⟩ := cell i hi'
  refine ⟨cs, r, hl', fun j hj => ?_⟩
  rw [← hat j hj]
  congr 1
  unfold Addr.add
  split <;> split <;> simp <;> omega
end
section
variable {H : Type} {enc : TypeId × Value → H} {w : World} {base : Nat} {spare : Nat → Bool} {held : Bool}
theorem yt : Tryz.prog.cellsOf 3 = 1 := by kernel_rfl
end
def ZG (pc : Int) (x : aZ) : Prop := x.lo ≤ pc ∧ pc < x.hi
instance (pc : Int) (x : aZ) : Decidable (ZG pc x) := by unfold ZG; infer_instance
def jC (G : List aZ) (k : Nat) (l : List Int) : List (Int × Int) := ((List.range k).flatMap fun b => ((G.getD b ⟨0, 0, []⟩).nx).map fun t => ((b : Int), t)) ++ l.map fun t => ((k : Int), t)
theorem Ko (G : List aZ) (k : Nat) (l : List Int) (t : Int) : jC G k (l ++ [t]) = jC G k l ++ [((k : Int), t)] := by simp [jC]
theorem G0 {G : List aZ} {k : Nat} {x : aZ} (hx : G[k]? = some x) : jC G k x.nx = jC G (k + 1) [] := by
 unfold jC
 have e : G.getD k ⟨0, 0, []⟩ = x := by simp [List.getD, hx]
 rw [List.range_succ, List.flatMap_append]
 simp only [List.flatMap_cons, List.flatMap_nil, List.append_nil, List.map_nil, e]
theorem Bz (G : List aZ) (hn : ∀ x ∈ G, x.nx.length ≤ 5000) (k : Nat) (hk : k ≤ G.length) (l : List Int) : (jC G k l).length ≤ 5000 * k + l.length := by
 have c2 : ∀ k, k ≤ G.length → ((List.range k).flatMap fun b => ((G.getD b ⟨0, 0, []⟩).nx).map fun t => ((b : Int), t)).length ≤ 5000 * k := by
  intro k
  induction k with
  | zero => simp
  | succ k ih =>
   intro hk
   have := ih agO
   rw [List.range_succ, List.flatMap_append, List.length_append]
   have h2 : (G.getD k ⟨0, 0, []⟩).nx.length ≤ 5000 := by
    have hk' : k < G.length := by omega
    rw [show G.getD k ⟨0, 0, []⟩ = G[k] by simp [List.getD, List.getElem?_eq_getElem hk']]
    exact hn _ (List.getElem_mem hk')
   simp only [List.flatMap_cons, List.flatMap_nil, List.append_nil, List.length_map]
   omega
 have := c2 k hk
 unfold jC
 rw [List.length_append, List.length_map]
 omega
def xw (L : List (Int × Int)) : List Value := L.flatMap fun p => [.int .i64 p.1, .int .i64 p.2]
theorem rz (L : List (Int × Int)) (a b : Int) : xw (L ++ [(a, b)]) = xw L ++ [.int .i64 a, .int .i64 b] := by simp [xw]
theorem zw : ∀ (L : List (Int × Int)) (i j : Nat) (p : Int × Int), L[i]? = some p → j < 2 → (xw L)[i * 2 + j]? = [Value.int .i64 p.1, .int .i64 p.2][j]?
 | y :: L, 0, j, p, h, hj => by
  simp at h; subst h
  have e : xw (y :: L) = [.int .i64 y.1, .int .i64 y.2] ++ xw L := by simp [xw]
  rw [e, Nat.zero_mul, Nat.zero_add, List.getElem?_append_left (by simpa using hj)]
 | y :: L, i + 1, j, p, h, hj => by
  have h' : L[i]? = some p := by simpa using h
  have e : xw (y :: L) = [.int .i64 y.1, .int .i64 y.2] ++ xw L := by simp [xw]
  rw [e, List.getElem?_append_right agX, show (i + 1) * 2 + j - [Value.int .i64 y.1, .int .i64 y.2].length = i * 2 + j by simp; omega]
  exact zw L i j p h' hj
def OL (w : World) (v : Value) (L : List (Int × Int)) : Prop :=
 ∃ A cap, v = .slice A L.length cap ∧ L.length ≤ cap ∧ cap ≤ 2 ^ 63 - 1 ∧ (0 < L.length → ∃ b off, A = some ⟨b, off, none⟩ ∧ b < w.heap.size ∧ ∀ i p, L[i]? = some p → w.cell? ⟨b, off + i * 2, none⟩ = some (.int .i64 p.1) ∧ w.cell? ⟨b, off + i * 2 + 1, none⟩ = some (.int .i64 p.2))
theorem OL.below {w w' : World} {v : Value} {L : List (Int × Int)} (h : OL w v L) (hb : Below w.heap.size w w') : OL w' v L := by
 obtain ⟨A, cap, h1, h2, h3, h4⟩ := h
 refine ⟨A, cap, h1, h2, h3, fun h0 => ?_⟩
 obtain ⟨b, off, ha, hlt, hc⟩ := h4 h0
 refine ⟨b, off, ha, by have := hb.size; omega, fun i p hp => ?_⟩
 obtain ⟨c0, c1⟩ := hc i p hp
 exact ⟨(hb.cell (p := ⟨b, _, none⟩) hlt).trans c0, (hb.cell (p := ⟨b, _, none⟩) hlt).trans c1⟩
theorem Bg {w : World} {B : Nat} {e : TypeId} {v : Value} {L : List (Int × Int)} (h : w.ownsRow B e 2 v L.length (xw L)) : OL w v L := by
 rcases h.2 with ⟨rfl, h0⟩ | ⟨g, cap', cur, rfl, h1, h2, h3, h4, _, _⟩
 ·exact ⟨none, 0, by rw [h0], by omega, by omega, fun h => by omega⟩
 ·unfold maxLen at h4
  refine ⟨_, cap', rfl, h3, h4, fun _ => ⟨g, 0, rfl, (Array.getElem?_eq_some_iff.1 h2).1, fun i p hp => ?_⟩⟩
  have hi := (List.getElem?_eq_some_iff.1 hp).1
  refine ⟨?_, ?_⟩
  ·rw [Nat.zero_add, h.cellAt _ agO, show i * 2 = i * 2 + 0 from rfl, zw L i 0 p hp agO]; rfl
  ·rw [Nat.zero_add, h.cellAt _ agO, zw L i 1 p hp agO]; rfl
theorem ni (w : World) (a b : Value) (t : TypeId) : ∀ j u, [a, b][j]? = some u → (w.alloc (.cells #[a, b] t)).cell? ((⟨w.heap.size, 0, none⟩ : Addr).add j) = some u := by
 intro j u h
 have e : (⟨w.heap.size, 0, none⟩ : Addr).add j = ⟨w.heap.size, j, none⟩ := by cases j <;> simp [Addr.add]
 rw [e]
 unfold World.cell?
 rw [heap_alloc_new]
 simpa using h
theorem infoP : (Tryz.prog.info? 109).map (fun i => (i.zero, i.size, i.bytes)) = some (some (.agg #[.int .i64 0, .int .i64 0]), 2, 16) := by kernel_rfl
theorem D8 (bv pv : Value) (G : List aZ) (w : World) (HG : fF w bv G) (hn : G.length ≤ 5000) (eV : ∀ x ∈ G, x.nx.length ≤ 5000) :
  Calls Tryz.prog 38 #[.agg #[bv, pv]] w fun e w' => (∃ v, e = .returned v ∧ OL w' v (jC G G.length [])) ∧ Below w.heap.size w w' := by
 obtain ⟨A, cap, rfl, hc1, hc2⟩ := HG.slice
 have IP := ahM HG
 have mK := ahM eV
 clear HG eV
 obtain ⟨V0, gl⟩ : ∃ V0, w.alloc (.cells #[.slice A G.length cap, pv] 31) = V0 := ⟨_, rfl⟩
 have b0 : Below w.heap.size w V0 := gl ▸ (Below.refl _ _).alloc (Nat.le_refl _) _
 have s0 : w.heap.size < V0.heap.size := by rw [← gl]; simp
 have k0 : V0.heap[w.heap.size]? = some (.cells #[.slice A G.length cap, pv] 31) := by rw [← gl]; exact heap_alloc_new _ _
 have y0 : V0.cell? ⟨w.heap.size, 0, none⟩ = some (.slice A G.length cap) := by simp [World.cell?, k0]
 have B0 := ahM b0
 clear k0 b0
 obtain ⟨iP, UB, UL, UK, UJ⟩ := info_parts infoP
 go_enter Tryz.func38, Tryz.ntmps38
 go_upto_region 3 with fail
 clear gl
 go_loopw [3, 4, 5, 7, 11] (fun a3 a4 a5 a7 a11 wr => ∃ k : Nat, k ≤ G.length ∧ a11 = .int .i64 (k : Int) ∧ wr.ownsRow V0.heap.size 109 2 a3 (jC G k []).length (xw (jC G k [])) ∧ Below V0.heap.size V0 wr) (fun _ _ _ _ a11 _ => G.length - (intOf a11).toNat)
 case atStart => exact ⟨0, Nat.zero_le _, rfl, World.ownsRow_nil _ _ _ _, Below.refl _ _⟩
 case round =>
  obtain ⟨k, hk, rfl, hown, hb⟩ := hrel
  have HO := ahM hown
  have HB := ahM hb
  have BW := ahM (B0.out.trans (hb.mono agO))
  have s1 := hb.size
  clear hown hb
  by_cases hlt : k < G.length
  ·obtain ⟨x, nx, b, off, hx, rfl, hbl, c0, c1, c2, hIx⟩ := IP.out.at_ BW.out hlt
   obtain ⟨NA, cY, rfl, hn1, hn2⟩ := hIx.slice
   have HX := ahM (G0 hx)
   have hxl := mK.out x (List.mem_of_getElem? hx)
   have TD := ahM hIx
   have dl : decide ((k : Int) < (G.length : Int)) = true := decide_eq_true agO
   clear hx hIx
   obtain ⟨X, hX⟩ : ∃ X, wr.alloc (.cells #[.int .i64 x.lo, .int .i64 x.hi, .slice NA x.nx.length cY] 78) = X := ⟨_, rfl⟩
   have bX : Below wr.heap.size wr X := hX ▸ (Below.refl _ _).alloc (Nat.le_refl _) _
   have kX : X.heap[wr.heap.size]? = some (.cells #[.int .i64 x.lo, .int .i64 x.hi, .slice NA x.nx.length cY] 78) := hX ▸ heap_alloc_new _ _
   have o2 : X.cell? ⟨wr.heap.size, 2, none⟩ = some (.slice NA x.nx.length cY) := by simp [World.cell?, kX]
   have HOX := ahM (ak HO.out bX)
   have kJ := ahM (HB.out.trans (bX.mono s1))
   clear kX bX
   go_upto_region 6 with fail
   clear hX c0 c1 c2 o2 HO HB BW
   obtain ⟨wo, rfl⟩ : ∃ wo : World, wo = wr := ⟨_, rfl⟩
   go_loopw [3, 7, 19] (fun a3 a7 a19 wr => ∃ j : Nat, j ≤ x.nx.length ∧ a19 = .int .i64 (j : Int) ∧ wr.ownsRow V0.heap.size 109 2 a3 (jC G k (x.nx.take j)).length (xw (jC G k (x.nx.take j))) ∧ Below V0.heap.size V0 wr) (fun _ _ a19 _ => x.nx.length - (intOf a19).toNat)
   case atStart => exact ⟨0, Nat.zero_le _, rfl, HOX.out, kJ.out⟩
   case round =>
    obtain ⟨j, hj, rfl, hown, hb⟩ := hrel
    have HO := ahM hown
    have HB := ahM hb
    have BW := ahM (B0.out.trans (hb.mono agO))
    have s2 := hb.size
    clear hown hb HOX kJ dl
    by_cases hjl : j < x.nx.length
    ·obtain ⟨s, nb, gN, hs, rfl, hnb, x1⟩ := TD.out.at_ BW.out hjl
     have HS := ahM (bR hs)
     have dl : decide ((j : Int) < (x.nx.length : Int)) = true := decide_eq_true agO
     have hel := Bz G mK.out k agO (x.nx.take j)
     have adJ : (jC G k (x.nx.take j)).length ≤ 30000000 := by
      have : (x.nx.take j).length ≤ 5000 := by simp; omega
      omega
     clear hs hel
     go_wp2_with (at_builtin; refine wpList_append_own_at _ rfl (.tmp 23) (.tmp 27) 57 rfl V0.heap.size 109 iP _ 2 16 Tryz.underlying57 UB UL UK UJ rfl agQ u3 _ _ rfl (HO.out.alloc _) ⟨wr.heap.size, 0, none⟩ 1 1 [.int .i64 (k : Int), .int .i64 s] rfl rfl (ni _ _ _ _) agR agS agO ag0 ?_; intro v' W' hown' hgrow _ jR)
     have HN := ahM hown'
     have Qh := ahM ((HB.out.alloc s2 _).grown hgrow ag0 (fun k hk => (HO.out.lt k hk).1))
     go_roundw
     case rel =>
      refine ⟨j + 1, by omega, by go_num, ?_, Qh.out⟩
      rw [HS.out, Ko, rz, List.length_append]
      exact HN.out
     case measure => simp [intOf]; omega
    ·obtain rfl : j = x.nx.length := by omega
     have dl : decide ((x.nx.length : Int) < (x.nx.length : Int)) = false := by simp
     rw [List.take_length] at HO
     go_wp2_with fail
     go_roundw
     case rel =>
      refine ⟨k + 1, by omega, by go_num, ?_, HB.out⟩
      rw [← HX.out]
      exact HO.out
     case measure => simp [intOf]; omega
  ·obtain rfl : k = G.length := by omega
   have dl : decide ((G.length : Int) < (G.length : Int)) = false := by simp
   go_wp2_with fail
   go_ret
   exact ⟨⟨u3, rfl, Bg HO.out⟩, BW.out⟩
structure jY (w : World) (v : Value) (n : Nat) (cd : Nat → Int) : Prop where
 wd : ∀ i, i < n → 0 ≤ cd i ∧ cd i < 4294967296
 at_ : ∃ A cap, v = .slice A n cap ∧ n ≤ cap ∧ cap ≤ maxLen ∧ (0 < n → ∃ b off, A = some ⟨b, off, none⟩ ∧ b < w.heap.size ∧ ∀ i, i < n → w.cell? ⟨b, off + i, none⟩ = some (.int .u32 (cd i)))
theorem jY.words {w : World} {v : Value} {n : Nat} {cd : Nat → Int} (h : jY w v n cd) (hn : n ≤ 1000000) : Words w v n cd := ⟨hn, h.wd, h.at_⟩
theorem QV {cs : List Value} (h : cs.length = 4) : ∃ c0 c1 c2 c3, cs = [c0, c1, c2, c3] := by
 match cs, h with
 | [c0, c1, c2, c3], _ => exact ⟨c0, c1, c2, c3, rfl⟩
theorem array4 {α : Type} {cs : Array α} (h : cs.size = 4) : ∃ c0 c1 c2 c3, cs = #[c0, c1, c2, c3] := by
 obtain ⟨l⟩ := cs
 match l, h with
 | [c0, c1, c2, c3], _ => exact ⟨c0, c1, c2, c3, rfl⟩
theorem u32_in {p : Int} (h : (Lit.int .u32 p).wf = true) : 0 ≤ p ∧ p < 4294967296 := by
 simp [Lit.wf] at h
 have e1 : IntKind.u32.min = 0 := by decide
 have e2 : IntKind.u32.max = 4294967295 := by decide
 omega
theorem Hl : Tryz.prog.cellsOf 9 = 1 := by kernel_rfl
theorem Ay : Tryz.prog.cellsOf 22 = 1 := by kernel_rfl
theorem Ei : Tryz.prog.cellsOf 23 = 1 := by kernel_rfl
theorem AA : Tryz.prog.cellsOf 25 = 4 := by kernel_rfl
theorem trod_struct4 {H : Type} {enc : TypeId × Value → H} {P : Program} {w : World} {base : Nat} {spare : Nat → Bool} {held : Bool} {t : TypeId} {f0 f1 f2 f3 : Field} {fuel : Nat} {cs : List Value} {x : DataW H × List MemPlace} (ht : P.underlying t = some (.struct #[f0, f1, f2, f3])) (h : DataW.trod enc P w base spare held fuel t cs = some x) :
  ∃ y0 y1 y2 y3 n, DataW.trod enc P w base spare held n f0.type ((cs.drop f0.offset).take (P.cellsOf f0.type)) = some y0 ∧ DataW.trod enc P w base spare held n f1.type ((cs.drop f1.offset).take (P.cellsOf f1.type)) = some y1 ∧
   DataW.trod enc P w base spare held n f2.type ((cs.drop f2.offset).take (P.cellsOf f2.type)) = some y2 ∧ DataW.trod enc P w base spare held n f3.type ((cs.drop f3.offset).take (P.cellsOf f3.type)) = some y3 := by
 obtain ⟨xs, n, _, rfl, hl, hlen, hf⟩ := DataW.trod_struct ht h
 match xs, hlen with
 | [y0, y1, y2, y3], _ => exact ⟨y0, y1, y2, y3, n, by simpa using hf 0 f0 rfl, by simpa using hf 1 f1 rfl, by simpa using hf 2 f2 rfl, by simpa using hf 3 f3 rfl⟩
section
variable {H : Type} {enc : TypeId × Value → H} {w : World} {base : Nat} {spare : Nat → Bool} {held : Bool}
theorem Fj {fuel : Nat} {cs : List Value} {y : DataW H × List MemPlace} (h : DataW.trod enc Tryz.prog w base spare held fuel 22 cs = some y) : ∃ v n cd, cs = [v] ∧ jY w v n cd := by
 obtain ⟨v, len, rfl, A, cap, rfl, h1, h2, hc⟩ := mF Tryz.underlying22 1 agP agO h
 obtain ⟨l, hl, hp⟩ := vr (P := fun i (x : Int) => (0 ≤ x ∧ x < 4294967296) ∧ (0 < len → ∃ b off, A = some ⟨b, off, none⟩ ∧ b < w.heap.size ∧ w.cell? ⟨b, off + i, none⟩ = some (.int .u32 x))) len (fun i hi => by
  obtain ⟨b, off, rfl, hb, hx⟩ := hc agO
  obtain ⟨cs, ⟨n, y, htr⟩, _, hj⟩ := hx i hi
  obtain ⟨z, rfl, _, hw⟩ := DataW.trod_int Tryz.underlying70 htr
  have := hj 0 agO
  exact ⟨z, u32_in hw, fun _ => ⟨b, off, rfl, hb, by simpa using this⟩⟩)
 subst hl
 have hg : ∀ i, i < l.length → l.getD i 0 = l[i]?.getD 0 := fun i hi => by simp [List.getD]
 refine ⟨_, l.length, fun i => l.getD i 0, rfl, fun i hi => ?_, A, cap, rfl, h1, h2, fun h0 => ?_⟩
 ·have e : l.getD i 0 = l[i] := by simp [List.getD, List.getElem?_eq_getElem hi]
  show 0 ≤ l.getD i 0 ∧ l.getD i 0 < 4294967296
  rw [e]
  exact (hp i _ (List.getElem?_eq_getElem hi)).1
 ·obtain ⟨b, off, rfl, hb, hx⟩ := hc h0
  refine ⟨b, off, rfl, hb, fun i hi => ?_⟩
  obtain ⟨_, h4⟩ := hp i _ (List.getElem?_eq_getElem hi)
  obtain ⟨b', off', e, _, h5⟩ := h4 h0
  cases e
  rw [h5]
  simp [List.getD, List.getElem?_eq_getElem hi]
theorem JC {fuel : Nat} {cs : List Value} {y : DataW H × List MemPlace} (h : DataW.trod enc Tryz.prog w base spare held fuel 23 cs = some y) : ∃ v l, cs = [v] ∧ nj w v l := by
 obtain ⟨v, len, rfl, A, cap, rfl, h1, h2, hc⟩ := mF Tryz.underlying23 4 agP agO h
 obtain ⟨l, hl, hp⟩ := vr (P := fun i (x : jJ) => x.nm.size ≤ maxLen ∧ (0 < len → ∃ b off, A = some ⟨b, off, none⟩ ∧ b < w.heap.size ∧ w.cell? ⟨b, off + i * 4, none⟩ = some (.string x.nm) ∧ w.cell? ⟨b, off + i * 4 + 1, none⟩ = some (.int .i64 x.st) ∧ w.cell? ⟨b, off + i * 4 + 2, none⟩ = some (.int .i64 x.en) ∧ w.cell? ⟨b, off + i * 4 + 3, none⟩ = some (.int .i64 x.da))) len (fun i hi => by
  obtain ⟨b, off, rfl, hb, hx⟩ := hc agO
  obtain ⟨cs, ⟨n, y, htr⟩, hl, hj⟩ := hx i hi
  obtain ⟨y0, y1, y2, y3, n', g0, g1, g2, g3⟩ := trod_struct4 Tryz.underlying75 htr
  obtain ⟨c0, c1, c2, c3, rfl⟩ := QV hl
  simp only [yt, Hl, List.drop_zero, ahU, ahT, List.take_zero] at g0 g1 g2 g3
  obtain ⟨z0, e0, _, hz0⟩ := DataW.trod_string Tryz.underlying9 g0
  obtain ⟨z1, e1, _, _⟩ := DataW.trod_int Tryz.underlying3 g1
  obtain ⟨z2, e2, _, _⟩ := DataW.trod_int Tryz.underlying3 g2
  obtain ⟨z3, e3, _, _⟩ := DataW.trod_int Tryz.underlying3 g3
  simp at e0 e1 e2 e3
  subst e0 e1 e2 e3
  refine ⟨⟨z0, z1, z2, z3⟩, hz0, fun _ => ⟨b, off, rfl, hb, ?_, ?_, ?_, ?_⟩⟩
  ·simpa using hj 0 agO
  ·simpa [Nat.add_assoc] using hj 1 agO
  ·simpa [Nat.add_assoc] using hj 2 agO
  ·simpa [Nat.add_assoc] using hj 3 agO)
 subst hl
 refine ⟨_, l, rfl, fun e he => ?_, A, cap, rfl, h1, h2, fun h0 => ?_⟩
 ·obtain ⟨i, hi⟩ := List.mem_iff_getElem?.1 he
  exact (hp i e hi).1
 ·obtain ⟨b, off, rfl, hb, hx⟩ := hc h0
  refine ⟨b, off, rfl, hb, fun i x hi => ?_⟩
  obtain ⟨b', off', e, _, h5⟩ := (hp i x hi).2 h0
  cases e
  exact h5
theorem zF {r : Reach} {b0 : Nat} {v : Value} {d : DataW H} {p : List MemPlace} (hv : Value.okWide Tryz.prog w r b0 25 v) (h : DataW.Trod enc Tryz.prog w base spare held 25 v d p) :
  ∃ cv ev sh lk n cd aD, v = .agg #[cv, ev, .int .i64 sh, .int .i64 lk] ∧ jY w cv n cd ∧ nj w ev aD := by
 obtain ⟨cs, rfl, hsz⟩ := okWide_struct Tryz.underlying25 hv
 obtain ⟨c0, c1, c2, c3, rfl⟩ := array4 (hsz.trans AA)
 obtain ⟨fuel, hf⟩ := h
 obtain ⟨y0, y1, y2, y3, n, g0, g1, g2, g3⟩ := trod_struct4 Tryz.underlying25 hf
 simp only [Value.cells, Ay, Ei, yt, List.drop_zero, ahU, ahT, List.take_zero] at g0 g1 g2 g3
 obtain ⟨cv, m, cd, e0, hW⟩ := Fj g0
 obtain ⟨ev, aD, e1, hE⟩ := JC g1
 obtain ⟨z2, e2, _, _⟩ := DataW.trod_int Tryz.underlying3 g2
 obtain ⟨z3, e3, _, _⟩ := DataW.trod_int Tryz.underlying3 g3
 simp at e0 e1 e2 e3
 subst e0 e1 e2 e3
 exact ⟨c0, c1, z2, z3, m, cd, aD, rfl, hW, hE⟩
end
inductive GR (G : List aZ) : Nat → Prop
 | start : GR G 0
 | step {b t : Nat} {x : aZ} : GR G b → G[b]? = some x → (t : Int) ∈ x.nx → GR G t
abbrev UW (n : Nat) (sn : Nat → Bool) : List Value := (List.range n).map fun i => .bool (sn i)
theorem Kw (n : Nat) (sn : Nat → Bool) {p : Nat} (hp : p < n) (b : Bool) : (UW n sn).set p (.bool b) = UW n (upd sn p b) := by
 apply List.ext_getElem?
 intro q
 rw [List.getElem?_set]
 simp only [UW, List.length_map, List.length_range, List.getElem?_map]
 by_cases e : p = q
 ·subst e
  rw [if_pos rfl, if_pos hp, List.getElem?_range hp]
  simp [upd]
 ·rw [if_neg e]
  by_cases hq : q < n
  ·rw [List.getElem?_range hq]
   have : q ≠ p := fun h => e h.symm
   simp [upd, this]
  ·rw [List.getElem?_eq_none (by simpa using hq)]
   rfl
theorem vz : (Tryz.prog.info? 4).map (fun i => (i.zero, i.size, i.bytes)) = some (some (.bool false), 1, 1) := by kernel_rfl
structure SM (w wr : World) (g n : Nat) (sn : Nat → Bool) : Prop where
 aC : Below w.heap.size w wr
 row : wr.ownsRow w.heap.size 4 1 (.slice (some ⟨g, 0, none⟩) n n) n (UW n sn)
theorem SM.cells {w wr : World} {g n : Nat} {sn : Nat → Bool} (h : SM w wr g n sn) {i : Nat} (hi : i < n) : wr.cell? ⟨g, i, none⟩ = some (.bool (sn i)) ∧ wr.frozen? ⟨g, i, none⟩ = false :=
 ⟨by rw [h.row.cellAt _ agO, List.getElem?_map, List.getElem?_range hi]; rfl, h.row.frozenAt _⟩
theorem SM.set {w wr : World} {g n : Nat} {sn : Nat → Bool} (h : SM w wr g n sn) {i : Nat} (hi : i < n) (b : Bool) : SM w (wr.setCell ⟨g, i, none⟩ (.bool b)) g n (upd sn i b) :=
 ⟨h.aC.setCell (h.row.lt g rfl).1 _, by rw [← Kw n sn hi b]; exact (h.row.stored i (.bool b)).1⟩
structure RS (G : List aZ) (sn : Nat → Bool) : Prop where
 zero : sn 0 = true
 sound : ∀ i, i < G.length → sn i = true → GR G i
theorem RS.add {G : List aZ} {sn : Nat → Bool} (h : RS G sn) {b t : Nat} {x : aZ} (hb : b < G.length) (hs : sn b = true) (hx : G[b]? = some x) (ht : (t : Int) ∈ x.nx) : RS G (upd sn t true) := by
 refine ⟨?_, fun i hi hs' => ?_⟩
 ·unfold upd; split; rfl; exact h.zero
 ·unfold upd at hs'
  split at hs'
  ·rename_i e; rw [e]; exact GR.step (h.sound b hb hs) hx ht
  ·exact h.sound i hi hs'
theorem AU {l : List Int} (h : l.Nodup) (x : Int) : (mA l x).Nodup := by
 unfold mA
 split
 ·exact h
 ·rename_i hx
  rw [List.nodup_append]
  exact ⟨h, by simp, fun a ha b hb => by simp at hb; subst hb; exact fun e => hx (e ▸ ha)⟩
theorem ue (L : List (Int × Int)) (S : List Int) : (ug L S).Nodup := by
 have : ∀ (S l : List Int), l.Nodup → (S.foldl (fun l s => mA l (idx L s : Int)) l).Nodup := by
  intro S
  induction S with
  | nil => intro l h; exact h
  | cons s S ih => intro l h; rw [List.foldl_cons]; exact ih _ (AU h _)
 exact this S [] agT
theorem FN {l : List Int} {x y : Int} : y ∈ mA l x ↔ y ∈ l ∨ y = x := by
 unfold mA
 split
 ·rename_i h
  constructor
  ·exact .inl
  ·rintro (h1 | rfl)
   ·exact h1
   ·exact h
 ·simp
theorem Bk (L : List (Int × Int)) (S : List Int) (y : Int) : y ∈ ug L S ↔ ∃ s ∈ S, y = (idx L s : Int) := by
 have : ∀ (S l : List Int), y ∈ (S.foldl (fun l s => mA l (idx L s : Int)) l) ↔ y ∈ l ∨ ∃ s ∈ S, y = (idx L s : Int) := by
  intro S
  induction S with
  | nil => intro l; simp
  | cons s S ih =>
   intro l
   rw [List.foldl_cons, ih, FN]
   simp [or_assoc]
 have h := this S []
 simpa [ug] using h
structure fS (c : Int → Ins) (st en : Int) (D : List Int) (L : List (Int × Int)) : Prop where
 b : Uj c st D (en - st).toNat L
 mem : ∀ a, a ∈ D ↔ om c st en a
 all : ∀ a ∈ D, ∀ t ∈ bM (c a) a, t ∈ D
 st0 : 0 ≤ st
 lt : st < en
theorem fS.of {c : Int → Ins} {st en : Int} {D : List Int} (h0 : 0 ≤ st) (h1 : st < en) (hR : fW c st en D [] (-1)) : fS c st en D (blk c st D (en - st).toNat) := by
 refine ⟨od c st D _, hR.mem h1, fun a ha t ht => ?_, h0, h1⟩
 have hb : ¬ qu c st en a := by
  rcases hR.b with h | h
  ·exact h.2 a ha
  ·have := (hR.dr _ h.1).range _ _ _ h1
   omega
 have hin : st ≤ t ∧ t < en := Classical.byContradiction fun h => hb ⟨t, ht, h⟩
 rcases hR.cl a ha t ht hin.1 hin.2 with h | h
 ·exact h
 ·cases h
section
variable {c : Int → Ins} {st en : Int} {D : List Int} {L : List (Int × Int)}
theorem fS.range (h : fS c st en D L) {a : Int} (ha : a ∈ D) : st ≤ a ∧ a < en := ((h.mem a).1 ha).range _ _ _ h.lt
theorem fS.succ (h : fS c st en D L) {p : Int × Int} (hp : p ∈ L) {s : Int} (hs : s ∈ bM (c (p.2 - 1)) (p.2 - 1)) : s ∈ D ∧ ∃ q ∈ L, q.1 = s := by
 have hla := h.b.last p hp
 have J1 := h.all _ hla s hs
 have hin := h.range J1
 refine ⟨J1, h.b.num s hin.1 ahB J1 ?_⟩
 by_cases hbr : ey (c (p.2 - 1)).op = true
 ·rw [iZ]
  refine .inr ⟨_, hla, ?_⟩
  unfold dO
  rw [if_pos hbr]
  exact hs
 ·have : s = p.2 := by
   unfold bM at hs
   unfold ey at hbr
   split at hs
   ·cases hs
   ·split at hs
    ·simp_all
    ·split at hs
     ·rename_i h; rcases h with h | h <;> simp [h] at hbr
     ·simp at hs; omega
  rw [this] at J1 hin ⊢
  exact h.b.cl _ hp ahB J1
theorem fS.next (h : fS c st en D L) {k : Nat} (hk : k < L.length) : ∀ t ∈ eG c L k, 0 ≤ t ∧ t < (L.length : Int) := by
 intro t ht
 unfold eG at ht
 obtain ⟨s, hs, rfl⟩ := (Bk _ _ _).1 ht
 have e1 : L.getD k (0, 0) = L[k] := by simp [List.getD, List.getElem?_eq_getElem hk]
 unfold kT at hs
 rw [e1] at hs
 obtain ⟨_, hq⟩ := h.succ (List.getElem_mem hk) hs
 have := (rG hq).2.1
 omega
theorem jB (c : Int → Ins) (L : List (Int × Int)) {k : Nat} (hk : k < L.length) : (dw c L)[k]? = some ⟨(L[k]).1, (L[k]).2, eG c L k⟩ := by
 unfold dw
 rw [List.getElem?_map, List.getElem?_range hk]
 simp [List.getD, List.getElem?_eq_getElem hk]
theorem fL (c : Int → Ins) (L : List (Int × Int)) : (dw c L).length = L.length := by simp [dw]
theorem Nn {n : Nat} {G : List aZ} (h1 : ∀ (k : Nat) (x : aZ), G[k]? = some x → x.lo < x.hi ∧ x.nx.length ≤ 2 ∧ (∀ t ∈ x.nx, 0 ≤ t ∧ t < (n : Int)) ∧ x.nx.Nodup) (h2 : ∀ x, G[0]? = some x → 0 ≤ x.lo) (h3 : ∀ (k : Nat) (x y : aZ), G[k]? = some x → G[k + 1]? = some y → x.hi ≤ y.lo) : ∃ z, kQ n 0 G z := by
 have key : ∀ m, m ≤ G.length → ∃ z, kQ n 0 (G.take m) z ∧ (∀ x, G[m]? = some x → z ≤ x.lo) := by
  intro m
  induction m with
  | zero => intro _; exact ⟨0, rfl, h2⟩
  | succ m ih =>
   intro hm
   obtain ⟨z, hz, hl⟩ := ih agO
   have hx : G[m]? = some G[m] := List.getElem?_eq_getElem agO
   obtain ⟨a1, a2, a3, a4⟩ := h1 m _ hx
   refine ⟨G[m].hi, ?_, fun y hy => h3 m _ y hx hy⟩
   rw [bR hx]
   refine hz.snoc ⟨hl _ hx, a1, a2, a3, fun ⟨e1, e2⟩ => ?_⟩
   match eV : G[m].nx, e1, e2, a4 with
   | [u, v], _, e2, a4 => simp at e2 a4; exact a4 e2
 obtain ⟨z, hz, _⟩ := key G.length (Nat.le_refl _)
 rw [List.take_length] at hz
 exact ⟨z, hz⟩
theorem Au {nx : List Int} (h : nx.Nodup) (p k : Nat) : mY nx p k = if (p : Int) ∈ nx then [(k : Int)] else [] := by
 induction nx with
 | nil => rfl
 | cons x nx ih =>
  obtain ⟨h1, h2⟩ := List.nodup_cons.1 h
  have ih := ih h2
  unfold mY at ih ⊢
  by_cases e : x = (p : Int)
  ·subst e
   rw [if_pos agT]
   simp only [List.filter_cons, decide_true, if_true, List.map_cons]
   rw [ih, if_neg h1]
  ·have e' : (p : Int) ≠ x := fun h => e h.symm
   simp only [List.filter_cons, e, decide_false, Bool.false_eq_true, if_false]
   rw [ih]
   simp [e']
theorem GH (c : Int → Ins) (L : List (Int × Int)) : (List.range (dw c L).length).map (fX (dw c L) (dw c L).length []) = gK c L := by
 unfold gK
 rw [fL]
 apply List.map_congr_left
 intro p _
 unfold fX uZ kP
 have : mY [] p L.length = [] := rfl
 rw [this, List.append_nil]
 have key : ∀ m, m ≤ L.length → (List.range m).flatMap (fun b => mY ((dw c L).getD b ⟨0, 0, []⟩).nx p b) = ((List.range m).filter (fun b => decide ((p : Int) ∈ eG c L b))).map (fun (b : Nat) => (b : Int)) := by
  intro m
  induction m with
  | zero => intro _; rfl
  | succ m ih =>
   intro hm
   rw [List.range_succ, List.flatMap_append, List.filter_append, List.map_append, ih agO]
   congr 1
   have e : (dw c L).getD m ⟨0, 0, []⟩ = ⟨(L[m]).1, (L[m]).2, eG c L m⟩ := by simp [List.getD, jB c L (show m < L.length by omega)]
   simp only [List.flatMap_cons, List.flatMap_nil, List.append_nil, e]
   rw [Au (show (eG c L m).Nodup from ue _ _)]
   by_cases hp : (p : Int) ∈ eG c L m
   ·rw [if_pos hp]; simp [hp]
   ·rw [if_neg hp]; simp [hp]
 exact key L.length (Nat.le_refl _)
theorem fS.valid (h : fS c st en D L) (hst : st ∈ D) : cm (dw c L) (gK c L) := by
 have hn0 : L ≠ [] := h.b.ne hst ahB
 refine ⟨fun e => hn0 ?_, by simp [gK, dw], ?_, GH c L⟩
 ·have := congrArg List.length e
  rw [fL] at this
  exact List.length_eq_zero_iff.1 this
 ·rw [fL]
  refine Nn (fun k x hx => ?_) (fun x hx => ?_) (fun k x y hx hy => ?_)
  ·have hk : k < L.length := by have := (List.getElem?_eq_some_iff.1 hx).1; rwa [fL] at this
   rw [jB c L hk] at hx
   cases hx
   refine ⟨(h.b.lo _ (List.getElem_mem hk)).2.1, Nat.le_trans (Bh _ _) (lM _ _), h.next hk, ue _ _⟩
  ·have hk : 0 < L.length := by have := (List.getElem?_eq_some_iff.1 hx).1; rwa [fL] at this
   rw [jB c L hk] at hx
   cases hx
   have := (h.b.lo _ (List.getElem_mem hk)).1
   have := h.st0
   simp only
   omega
  ·have hk : k + 1 < L.length := by have := (List.getElem?_eq_some_iff.1 hy).1; rwa [fL] at this
   rw [jB c L agO] at hx
   rw [jB c L hk] at hy
   cases hx
   cases hy
   exact List.pairwise_iff_getElem.1 h.b.vo k (k + 1) agO hk agO
end
section
variable {c : Int → Ins} {st en : Int} {D : List Int} {L : List (Int × Int)}
structure ML (c : Int → Ins) (st : Int) (D : List Int) (x : Int) : Prop where
 ne : x ≠ st
 before : x - 1 ∈ D
 br : ey (c (x - 1)).op = false
 halt : (c (x - 1)).op ≠ 1
 unlock : (c (x - 1)).op ≠ 29
 lock : (c x).op ≠ 28
theorem fS.inner (h : fS c st en D L) {x : Int} (hx : x ∈ D) (hl : nL c st D x = false) : ML c st D x := by
 have hnl : ¬ tN c st D x := fun hh => by rw [(iZ c st D x).2 hh] at hl; cases hl
 have Z5 : x ≠ st := fun e => hnl (.inl e)
 have key : ∃ a, a ∈ D ∧ x ∈ bM (c a) a := by
  have := (h.mem x).1 hx
  cases this with
  | start => exact absurd rfl Z5
  | step h1 h2 h3 h4 => exact ⟨_, (h.mem _).2 h1, h2⟩
 obtain ⟨a, ha, hs⟩ := key
 have hbr : ey (c a).op = false := by
  rcases hb : ey (c a).op
  ·rfl
  ·exact absurd (.inr ⟨a, ha, by unfold dO; rw [if_pos hb]; exact hs⟩) hnl
 have hsa : (c a).op ≠ 1 ∧ x = a + 1 := by
  unfold bM at hs
  unfold ey at hbr
  split at hs
  ·cases hs
  ·rename_i h1
   refine ⟨h1, ?_⟩
   split at hs
   ·rename_i h2; simp [h2] at hbr
   ·split at hs
    ·rename_i h2; rcases h2 with h2 | h2 <;> simp [h2] at hbr
    ·simpa using hs
 obtain ⟨h1, rfl⟩ := hsa
 have e : a + 1 - 1 = a := by omega
 refine ⟨Z5, by rw [e]; exact ha, by rw [e]; exact hbr, by rw [e]; exact h1, ?_, fun h28 => ?_⟩
 ·rw [e]
  intro h29
  exact hnl (.inr ⟨a, ha, by unfold dO; rw [if_neg (by simp [hbr]), if_neg agO, if_pos h29]; simp⟩)
 ·refine hnl (.inr ⟨a + 1, hx, ?_⟩)
  have hb2 : ey (c (a + 1)).op = false := by simp [ey, h28]
  unfold dO
  rw [if_neg (by simp [hb2]), if_pos h28]
  simp
theorem l8 (hg : ∀ x ∈ D, nL c st D x = false → x ≠ st ∧ x - 1 ∈ D) : ∀ m : Nat, (∀ p ∈ blk c st D m, ∀ x, p.1 < x → x < p.2 → x ∈ D ∧ nL c st D x = false) ∧ (0 < m → st + (m : Int) - 1 ∈ D → ∃ M a, blk c st D m = M ++ [(a, st + (m : Int))])
 | 0 => ⟨by simp [blk], fun h => by omega⟩
 | m + 1 => by
  obtain ⟨i1, i2⟩ := l8 hg m
  have e0 : st + ((m + 1 : Nat) : Int) - 1 = st + m := by omega
  have e1 : st + ((m + 1 : Nat) : Int) = st + m + 1 := by omega
  rw [e0, e1]
  unfold blk
  by_cases hD : st + (m : Int) ∈ D
  ·rw [if_pos hD]
   by_cases hl : nL c st D (st + m) = true
   ·rw [if_pos hl]
    refine ⟨fun p hp x h1 h2 => ?_, fun _ _ => ⟨_, _, rfl⟩⟩
    rcases List.mem_append.1 hp with hp | hp
    ·exact i1 p hp x h1 h2
    ·simp at hp; subst hp; simp only at h1 h2; omega
   ·have hl' : nL c st D (st + m) = false := by simpa using hl
    rw [if_neg hl]
    obtain ⟨hn, hb⟩ := hg _ hD hl'
    have hm : 0 < m := by
     rcases Nat.eq_zero_or_pos m with e | e
     ·subst e; simp at hn
     ·exact e
    obtain ⟨M, a, hM⟩ := i2 hm hb
    rw [hM, iu]
    refine ⟨fun p hp x h1 h2 => ?_, fun _ _ => ⟨_, _, rfl⟩⟩
    rcases List.mem_append.1 hp with hp | hp
    ·exact i1 p (by rw [hM]; simp [hp]) x h1 h2
    ·simp at hp; subst hp
     simp only at h1 h2
     by_cases ex : x = st + m
     ·rw [ex]; exact ⟨hD, hl'⟩
     ·exact i1 (a, st + m) (by rw [hM]; simp) x h1 ahs
  ·rw [if_neg hD]
   exact ⟨i1, fun _ h => absurd h hD⟩
theorem qR {a t : Int} (hbr : ey (c a).op = false) (hs : t ∈ bM (c a) a) : t = a + 1 ∧ (c a).op ≠ 1 := by
 unfold bM at hs
 unfold ey at hbr
 split at hs
 ·cases hs
 ·rename_i h1
  refine ⟨?_, h1⟩
  split at hs
  ·rename_i h2; simp [h2] at hbr
  ·split at hs
   ·rename_i h2; rcases h2 with h2 | h2 <;> simp [h2] at hbr
   ·simpa using hs
theorem uM (hg : ∀ x ∈ D, nL c st D x = false → x ≠ st ∧ x - 1 ∈ D) : ∀ m : Nat, ∀ a ∈ D, st ≤ a → a < st + (m : Int) → ∃ p ∈ blk c st D m, p.1 ≤ a ∧ a < p.2
 | 0, a, _, h1, h2 => by omega
 | m + 1, a, ha, h1, h2 => by
  have ih := uM hg m
  unfold blk
  by_cases hD : st + (m : Int) ∈ D
  ·rw [if_pos hD]
   by_cases hl : nL c st D (st + m) = true
   ·rw [if_pos hl]
    by_cases e : a = st + m
    ·exact ⟨(st + m, st + m + 1), by simp, by simp only; omega, by simp only; omega⟩
    ·obtain ⟨p, hp, q⟩ := ih a ha h1 agO
     exact ⟨p, by simp [hp], q⟩
   ·have hl' : nL c st D (st + m) = false := by simpa using hl
    rw [if_neg hl]
    obtain ⟨hn, hb⟩ := hg _ hD hl'
    have hm : 0 < m := by
     rcases Nat.eq_zero_or_pos m with e | e
     ·subst e; simp at hn
     ·exact e
    obtain ⟨M, a', hM⟩ := (l8 hg m).2 hm hb
    have hlo := (od c st D m).lo (a', st + m) (by rw [hM]; simp)
    rw [hM, iu]
    by_cases e : a = st + m
    ·exact ⟨(a', st + m + 1), by simp, by simp only at hlo ⊢; omega, by simp only; omega⟩
    ·obtain ⟨p, hp, q1, q2⟩ := ih a ha h1 agO
     rw [hM] at hp
     rcases List.mem_append.1 hp with hp | hp
     ·exact ⟨p, by simp [hp], q1, q2⟩
     ·simp at hp; subst hp
      exact ⟨(a', st + m + 1), by simp, q1, by simp only at q2 ⊢; omega⟩
  ·rw [if_neg hD]
   by_cases e : a = st + m
   ·rw [e] at ha; exact absurd ha hD
   ·exact ih a ha h1 agO
theorem fS.Wi (h : fS c st en D (blk c st D (en - st).toNat)) {p : Int × Int} (hp : p ∈ blk c st D (en - st).toNat) {x : Int} (h1 : p.1 < x) (h2 : x < p.2) : x ∈ D ∧ nL c st D x = false :=
 (l8 (c := c) (st := st) (D := D) (fun x hx hl => ⟨(h.inner hx hl).ne, (h.inner hx hl).before⟩) (en - st).toNat).1 p hp x h1 h2
theorem fS.cover (h : fS c st en D (blk c st D (en - st).toNat)) {a : Int} (ha : a ∈ D) : ∃ p ∈ blk c st D (en - st).toNat, p.1 ≤ a ∧ a < p.2 := by
 have hr := h.range ha
 exact uM (c := c) (st := st) (D := D) (fun x hx hl => ⟨(h.inner hx hl).ne, (h.inner hx hl).before⟩) _ a ha hr.1 agO
theorem fS.bu (h : fS c st en D (blk c st D (en - st).toNat)) {p : Int × Int} (hp : p ∈ blk c st D (en - st).toNat) {x : Int} (h1 : p.1 < x) (h2 : x < p.2) : x ∈ D ∧ ML c st D x := by
 obtain ⟨a, b⟩ := (l8 (c := c) (st := st) (D := D) (fun x hx hl => ⟨(h.inner hx hl).ne, (h.inner hx hl).before⟩) (en - st).toNat).1 p hp x h1 h2
 exact ⟨a, h.inner a b⟩
theorem fS.uniq (h : fS c st en D L) {i j : Nat} (hi : i < L.length) (hj : j < L.length) (e : (L[i]).1 = (L[j]).1) : i = j := by
 rcases Nat.lt_trichotomy i j with hlt | rfl | hlt
 ·have := List.pairwise_iff_getElem.1 h.b.vo i j hi hj hlt
  have := (h.b.lo _ (List.getElem_mem hi)).2.1
  omega
 ·rfl
 ·have := List.pairwise_iff_getElem.1 h.b.vo j i hj hi hlt
  have := (h.b.lo _ (List.getElem_mem hj)).2.1
  omega
theorem ND (h : fS c st en D L) {i : Nat} (hi : i < L.length) : idx L (L[i]).1 = i := by
 obtain ⟨_, h2, h3⟩ := rG (L := L) (x := (L[i]).1) ⟨L[i], List.getElem_mem hi, rfl⟩
 have e : L.getD (idx L (L[i]).1) (0, 0) = L[idx L (L[i]).1] := by simp [List.getD, List.getElem?_eq_getElem h2]
 rw [e] at h3
 exact h.uniq h2 hi h3
theorem fS.first (h : fS c st en D L) (hst : st ∈ D) (h0 : 0 < L.length) : (L[0]).1 = st := by
 obtain ⟨q, hq, e⟩ := h.b.num st (Int.le_refl _) ahB hst (zK c st D)
 obtain ⟨j, hj, ej⟩ := List.getElem_of_mem hq
 rcases Nat.eq_zero_or_pos j with e0 | e0
 ·subst e0; rw [ej]; exact e
 ·have := List.pairwise_iff_getElem.1 h.b.vo 0 j h0 hj e0
  have := (h.b.lo _ (List.getElem_mem h0))
  rw [ej] at *
  omega
end
theorem fS.reached {c : Int → Ins} {st en : Int} {D : List Int} {L : List (Int × Int)} (hL : blk c st D (en - st).toNat = L) (h : fS c st en D L) (hst : st ∈ D) : ∀ i, i < (dw c L).length → GR (dw c L) i := by
 have h' : fS c st en D (blk c st D (en - st).toNat) := by rw [hL]; exact h
 have hn0 : 0 < L.length := List.length_pos_iff.2 (h.b.ne hst ahB)
 have key : ∀ a, om c st en a → ∀ i (hi : i < L.length), (L[i]).1 ≤ a → a < (L[i]).2 → GR (dw c L) i := by
  intro a ha
  induction ha with
  | start =>
   intro i hi h1 h2
   have l0 := h.first hst hn0
   have li := h.b.lo _ (List.getElem_mem hi)
   have : i = 0 := h.uniq hi hn0 agO
   subst this
   exact GR.start
  | @step a t h1 h2 h3 h4 ih =>
   intro i hi hl hu
   have PG := (h.mem a).2 h1
   by_cases NS : t = (L[i]).1
   ·-- the block of a
    obtain ⟨k, hk, hka, hkb⟩ : ∃ (k : Nat) (hk : k < L.length), (L[k]).1 ≤ a ∧ a < (L[k]).2 := by
     obtain ⟨p, hp, q1, q2⟩ := h'.cover PG
     rw [hL] at hp
     obtain ⟨k, hk, ek⟩ := List.getElem_of_mem hp
     exact ⟨k, hk, by rw [ek]; exact q1, by rw [ek]; exact q2⟩
    have hg := ih k hk hka hkb
    by_cases fY : a = (L[k]).2 - 1
    ·refine GR.step hg (jB c L hk) ?_
     simp only
     unfold eG
     rw [Bk]
     refine ⟨t, ?_, by rw [NS, ND h hi]⟩
     unfold kT
     have e1 : L.getD k (0, 0) = L[k] := by simp [List.getD, List.getElem?_eq_getElem hk]
     rw [e1, ← fY]
     exact h2
    ·exfalso
     have hin := h'.bu (p := L[k]) (by rw [hL]; exact List.getElem_mem hk) (x := a + 1) agO agO
     have hb := hin.2.br
     rw [show a + 1 - 1 = a by omega] at hb
     have ht := (qR hb h2).1
     rcases Nat.lt_trichotomy i k with hlt | rfl | hlt
     ·have := List.pairwise_iff_getElem.1 h.b.vo i k hi hk hlt
      have := (h.b.lo _ (List.getElem_mem hi)).2.1
      omega
     ·omega
     ·have := List.pairwise_iff_getElem.1 h.b.vo k i hk hi hlt
      omega
   ·obtain ⟨adC, Rw⟩ := h'.Wi (p := L[i]) (by rw [hL]; exact List.getElem_mem hi) (x := t) agO hu
    have hbr : ey (c a).op = false := by
     rcases hb : ey (c a).op
     ·rfl
     ·have : nL c st D t = true := (iZ c st D t).2 (.inr ⟨a, PG, by unfold dO; rw [if_pos hb]; exact h2⟩)
      rw [this] at Rw; cases Rw
    have ht := (qR hbr h2).1
    exact ih i hi agO agO
 intro i hi
 rw [fL] at hi
 have Jb := h.b.lead _ (List.getElem_mem hi)
 have hlo := h.b.lo _ (List.getElem_mem hi)
 exact key _ ((h.mem _).1 Jb.1) i hi (Int.le_refl _) hlo.2.1
section
variable {c c' : Int → Ins} {st en : Int}
theorem tT (hlt : st < en) (h : ∀ a, st ≤ a → a < en → c a = c' a) {a : Int} (ha : om c st en a) : om c' st en a := by
 induction ha with
 | start => exact .start
 | step h1 h2 h3 h4 ih =>
  have hr := h1.range _ _ _ hlt
  exact .step ih (by rw [← h _ hr.1 hr.2]; exact h2) h3 h4
theorem JI (hlt : st < en) (h : ∀ a, st ≤ a → a < en → c a = c' a) (a : Int) : om c st en a ↔ om c' st en a :=
 ⟨tT hlt h, tT hlt (fun a h1 h2 => (h a h1 h2).symm)⟩
theorem AP (h : ∀ a, st ≤ a → a < en → c a = c' a) {a : Int} (h1 : st ≤ a) (h2 : a < en) : qu c st en a ↔ qu c' st en a := by
 unfold qu
 rw [h a h1 h2]
theorem fW.same {D D' : List Int} {bad Sy : Int} (h0 : 0 ≤ st) (hlt : st < en) (h : ∀ a, st ≤ a → a < en → c a = c' a) (hR : fW c st en D [] bad) (Je : fW c' st en D' [] Sy) : (∀ x, x ∈ D ↔ x ∈ D') ∧ bad = Sy := by
 have hm : ∀ x, x ∈ D ↔ x ∈ D' := fun x => by rw [hR.mem hlt, Je.mem hlt, JI hlt h]
 have hb : ∀ x, x ∈ D → (qu c st en x ↔ qu c' st en x) := fun x hx => by
  have := (hR.dr x hx).range _ _ _ hlt
  exact AP h this.1 this.2
 refine ⟨hm, ?_⟩
 rcases hR.b with ⟨e, h1⟩ | ⟨e, h1, h2⟩ <;> rcases Je.b with ⟨e', h1'⟩ | ⟨e', h1', h2'⟩
 ·rw [e, e']
 ·exact absurd ((hb _ ((hm _).2 e')).2 h1') (h1 _ ((hm _).2 e'))
 ·exact absurd ((hb _ e).1 h1) (h1' _ ((hm _).1 e))
 ·have a1 := h2 _ ((hm _).2 e') ((hb _ ((hm _).2 e')).2 h1')
  have a2 := h2' _ ((hm _).1 e) ((hb _ e).1 h1)
  omega
theorem F0 {D : List Int} (h : ∀ a ∈ D, c a = c' a) (x : Int) : nL c st D x = nL c' st D x := by
 unfold nL
 congr 1
 apply Bool.eq_iff_iff.2
 simp only [List.any_eq_true, decide_eq_true_eq]
 constructor
 ·rintro ⟨a, ha, hx⟩; exact ⟨a, ha, by rw [← h a ha]; exact hx⟩
 ·rintro ⟨a, ha, hx⟩; exact ⟨a, ha, by rw [h a ha]; exact hx⟩
theorem yA {D : List Int} (h : ∀ a ∈ D, c a = c' a) : ∀ m, blk c st D m = blk c' st D m
 | 0 => rfl
 | m + 1 => by
  unfold blk
  rw [yA h m, F0 h]
theorem Ic {D D' : List Int} (hm : ∀ x, x ∈ D ↔ x ∈ D') (h : ∀ a ∈ D, c a = c' a) (m : Nat) : blk c st D m = blk c' st D' m := by
 rw [yA h m, oY c' st hm m]
theorem pN {L : List (Int × Int)} (h : ∀ p ∈ L, c (p.2 - 1) = c' (p.2 - 1)) {k : Nat} (hk : k < L.length) : eG c L k = eG c' L k := by
 unfold eG kT
 have e : L.getD k (0, 0) = L[k] := by simp [List.getD, List.getElem?_eq_getElem hk]
 rw [e, h _ (List.getElem_mem hk)]
theorem z8 {L : List (Int × Int)} (h : ∀ p ∈ L, c (p.2 - 1) = c' (p.2 - 1)) : dw c L = dw c' L := by
 unfold dw
 apply List.map_congr_left
 intro k hk
 rw [pN h (List.mem_range.1 hk)]
theorem zZ {L : List (Int × Int)} (h : ∀ p ∈ L, c (p.2 - 1) = c' (p.2 - 1)) : gK c L = gK c' L := by
 unfold gK
 apply List.map_congr_left
 intro p hp
 unfold kP
 congr 1
 apply List.filter_congr
 intro b hb
 rw [pN h (List.mem_range.1 hb)]
end
structure XU where
 G : List aZ
 P : List (List Int)
 at_ : Int
 er : Int
inductive Out (c : Int → Ins) (st en : Int) : XU → Prop
 | bad (D : List Int) (bad : Int) (h0 : 0 ≤ bad) (h : fW c st en D [] bad) : Out c st en ⟨[], [], bad, 10⟩
 | ok (D : List Int) (h : fW c st en D [] (-1)) : Out c st en ⟨dw c (blk c st D (en - st).toNat), gK c (blk c st D (en - st).toNat), -1, 0⟩
theorem Out.same {c c' : Int → Ins} {st en : Int} {r r' : XU} (h0 : 0 ≤ st) (hlt : st < en) (hc : ∀ a, st ≤ a → a < en → c a = c' a) (h : Out c st en r) (h' : Out c' st en r') : r = r' := by
 have hbad : ∀ (D D' : List Int) (b b' : Int), fW c st en D [] b → fW c' st en D' [] b' → (∀ x, x ∈ D ↔ x ∈ D') ∧ b = b' := fun D D' b b' h1 h2 => fW.same h0 hlt hc h1 h2
 cases h with
 | bad D b hb hR =>
  cases h' with
  | bad D' b' hb' Je => rw [(hbad _ _ _ _ hR Je).2]
  | ok D' Je => have := (hbad _ _ _ _ hR Je).2; omega
 | ok D hR =>
  cases h' with
  | bad D' b' hb' Je => have := (hbad _ _ _ _ hR Je).2; omega
  | ok D' Je =>
   obtain ⟨hm, _⟩ := hbad _ _ _ _ hR Je
   have hD : ∀ a ∈ D, c a = c' a := fun a ha => by
    have := (hR.dr a ha).range _ _ _ hlt
    exact hc a this.1 this.2
   rw [← Ic hm hD]
   have hL : ∀ p ∈ blk c st D (en - st).toNat, c (p.2 - 1) = c' (p.2 - 1) := fun p hp => hD _ ((od c st D _).last p hp)
   rw [z8 hL, zZ hL]
end
end Go.Proofs.YtlmgkipmfgijiaaGreatDoor
