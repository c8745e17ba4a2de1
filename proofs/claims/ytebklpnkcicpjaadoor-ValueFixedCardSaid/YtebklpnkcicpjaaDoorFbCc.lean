/-
 What is proved here: what cfg.Build returns.
-/
import Derived.Test.YtebklpnkcicpjaaDoorFbCb
namespace Go.Proofs.YtebklpnkcicpjaaDoor
open Go.RowKit
set_option linter.unusedVariables false
set_option linter.unusedSimpArgs false

def flatB (L : List (Int × Int)) : List Value := L.flatMap fun p => [.int .i64 p.1, .int .i64 p.2, .slice none 0 0]
theorem flatB_len (L : List (Int × Int)) : (flatB L).length = L.length * 3 := by
 induction L with
 | nil => rfl
 | cons p L ih => simp only [flatB, List.flatMap_cons, List.length_append, List.length_cons, List.length_nil] at ih ⊢; omega
theorem flatB_snoc (L : List (Int × Int)) (a b : Int) : flatB (L ++ [(a, b)]) = flatB L ++ [.int .i64 a, .int .i64 b, .slice none 0 0] := by simp [flatB]
theorem flatB_set (L : List (Int × Int)) (a b t : Int) : (flatB (L ++ [(a, b)])).set (L.length * 3 + 1) (.int .i64 t) = flatB (L ++ [(a, t)]) := by
 rw [flatB_snoc, flatB_snoc, ← flatB_len, List.set_append_right _ _ (by omega)]
 simp
theorem flatB_at (L : List (Int × Int)) (a b : Int) : (flatB (L ++ [(a, b)]))[L.length * 3 + 1]? = some (.int .i64 b) := by
 rw [flatB_snoc, ← flatB_len, List.getElem?_append_right (by omega)]
 simp

structure BM (V wr : World) (gb nb : Nat) (bv : Value) (L : List (Int × Int)) : Prop where
 gV : gb < V.heap.size
 nV : nb < V.heap.size
 gn : gb ≠ nb
 os : wr.os = V.os
 tape : wr.tape = V.tape
 output : wr.output = V.output
 sz : V.heap.size ≤ wr.heap.size
 blk : ∀ k, k < V.heap.size → k ≠ gb → k ≠ nb → wr.heap[k]? = V.heap[k]?
 g : wr.heap[gb]? = some (.cells #[bv, .slice none 0 0] 48 (0, 0))
 num : Im wr nb (nmb L)
 row : wr.ownsRow V.heap.size 64 3 bv L.length (flatB L)
theorem BM.below {V wr wr' : World} {gb nb : Nat} {bv : Value} {L : List (Int × Int)} (h : BM V wr gb nb bv L) (hb : Below wr.heap.size wr wr') : BM V wr' gb nb bv L :=
 ⟨h.gV, h.nV, h.gn, hb.os.trans h.os, hb.tape.trans h.tape, hb.output.trans h.output, Nat.le_trans h.sz hb.size, fun k h1 h2 h3 => (hb.block k (by have := h.sz; omega)).trans (h.blk k h1 h2 h3), (hb.block _ (by have := h.sz; have := h.gV; omega)).trans h.g, h.num.below hb h.num.lt, ownsRow_below h.row hb⟩

theorem cells_new3 (w : World) (a b c : Value) (t : TypeId) : ∀ j u, [a, b, c][j]? = some u → (w.alloc (.cells #[a, b, c] t)).cell? ((⟨w.heap.size, 0, none⟩ : Addr).add j) = some u := by
 intro j u h
 have e : (⟨w.heap.size, 0, none⟩ : Addr).add j = ⟨w.heap.size, j, none⟩ := by cases j <;> simp [Addr.add]
 rw [e]
 unfold World.cell?
 rw [heap_alloc_new]
 simpa using h
theorem flatV_nil (L : List (Int × Int)) : flatV L (fun _ => .slice none 0 0) = flatB L := by
 apply List.ext_getElem?
 intro q
 by_cases hq : q < L.length * 3
 ·obtain ⟨a, b, hb, rfl⟩ : ∃ a b, b < 3 ∧ q = a * 3 + b := ⟨q / 3, q % 3, Nat.mod_lt _ (by omega), by omega⟩
  have ha : a < L.length := by omega
  rw [flatV_at L _ ha hb]
  have : ∀ (L : List (Int × Int)) (a b : Nat), a < L.length → b < 3 → (flatB L)[a * 3 + b]? = [.int .i64 (L.getD a (0, 0)).1, .int .i64 (L.getD a (0, 0)).2, .slice none 0 0][b]? := by
   intro L
   induction L with
   | nil => intro a b h; simp at h
   | cons p L ih =>
    intro a b h hb
    have e : flatB (p :: L) = [.int .i64 p.1, .int .i64 p.2, .slice none 0 0] ++ flatB L := by simp [flatB]
    rw [e]
    cases a with
    | zero => rw [List.getElem?_append_left (by simp; omega)]; simp
    | succ a =>
     rw [List.getElem?_append_right (by simp; omega)]
     have := ih a b (by simp at h; omega) hb
     rw [show (a + 1) * 3 + b - [Value.int .i64 p.1, .int .i64 p.2, .slice none 0 0].length = a * 3 + b by simp; omega, this]
     simp [List.getD]
  exact (this L a b ha hb).symm
 ·rw [List.getElem?_eq_none (by rw [flatV_len]; omega), List.getElem?_eq_none (by rw [flatB_len]; omega)]
theorem glt_of_block {w : World} {b : Nat} {o : Obj} (h : w.heap[b]? = some o) : b < w.heap.size := (Array.getElem?_eq_some_iff.1 h).1
theorem infoB : (Tryd.prog.info? 64).map (fun i => (i.zero, i.size, i.bytes)) = some (some (.agg #[.int .i64 0, .int .i64 0, .slice none 0 0]), 3, 40) := by kernel_rfl
theorem BM.im {V wr : World} {gb nb x : Nat} {bv : Value} {L : List (Int × Int)} {f : Int → Option Value} (h : BM V wr gb nb bv L) (hx : Im V x f) (h1 : x ≠ gb) (h2 : x ≠ nb) : Im wr x f := hx.keep (h.blk x hx.lt h1 h2)
theorem BM.rowlt {V wr : World} {gb nb : Nat} {bv : Value} {L : List (Int × Int)} (h : BM V wr gb nb bv L) {j : Nat} (hj : bv.ownBlock = some j) : V.heap.size ≤ j ∧ j < wr.heap.size := h.row.lt j hj
theorem BM.setTo {V wr : World} {gb nb g cap : Nat} {M : List (Int × Int)} {a b t : Int} (h : BM V wr gb nb (.slice (some ⟨g, 0, none⟩) (M.length + 1) cap) (M ++ [(a, b)])) : BM V (wr.setCell ⟨g, M.length * 3 + 1, none⟩ (.int .i64 t)) gb nb (.slice (some ⟨g, 0, none⟩) (M.length + 1) cap) (M ++ [(a, t)]) := by
 have hr := h.row
 rw [show (M ++ [(a, b)]).length = M.length + 1 by simp] at hr
 obtain ⟨r1, r2⟩ := hr.stored (M.length * 3 + 1) (.int .i64 t)
 have hg := (h.rowlt (j := g) rfl)
 have hgV := h.gV
 have hnV := h.nV
 refine ⟨h.gV, h.nV, h.gn, h.os, h.tape, h.output, by simpa using h.sz, fun k h1 h2 h3 => ?_, ?_, ?_, ?_⟩
 ·rw [Below.heap_setCell _ _ _ _ (by show k ≠ g; omega)]; exact h.blk k h1 h2 h3
 ·rw [Below.heap_setCell _ _ _ _ (by show gb ≠ g; omega)]; exact h.g
 ·rw [nmb_set M a t b]
  exact h.num.keep (Below.heap_setCell _ _ _ _ (by show nb ≠ g; omega))
 ·rw [show (M ++ [(a, t)]).length = M.length + 1 by simp, ← flatB_set M a b t]
  exact r1
theorem BM.app {V wr w2 w3 : World} {gb nb : Nat} {bv v' : Value} {L : List (Int × Int)} {a : Int} {o : Obj} (h : BM V wr gb nb bv L) (hm : Im w2 nb (nmb (L ++ [(a, 0)]))) (ho : w2.os = wr.os) (ht : w2.tape = wr.tape) (hp : w2.output = wr.output) (hs : w2.heap.size = wr.heap.size) (hk : ∀ i, i ≠ nb → w2.heap[i]? = wr.heap[i]?)
  (hg : (w2.alloc o).grownBy w3 bv.ownBlock) (hown : w3.ownsRow V.heap.size 64 3 v' (L.length + 1) (flatB (L ++ [(a, 0)]))) : BM V (w3.setCell ⟨gb, 0, none⟩ v') gb nb v' (L ++ [(a, 0)]) := by
 have hgV := h.gV
 have hnV := h.nV
 have hgn := h.gn
 have hsz := h.sz
 have hrl : ∀ j, bv.ownBlock = some j → V.heap.size ≤ j := fun j hj => (h.rowlt hj).1
 have hb : ∀ k, k < V.heap.size → w3.heap[k]? = w2.heap[k]? := fun k hk => by
  rw [hg.block k (by rw [World.size_alloc]; omega) (fun e => by have := hrl k e.symm; omega), heap_alloc_old _ _ (by omega)]
 have hg3 : w3.heap[gb]? = some (.cells #[bv, .slice none 0 0] 48 (0, 0)) := (hb gb hgV).trans ((hk gb hgn).trans h.g)
 have hsz3 := hg.size
 rw [World.size_alloc] at hsz3
 refine ⟨h.gV, h.nV, h.gn, ?_, ?_, ?_, by simp; omega, fun k h1 h2 h3 => ?_, ?_, ?_, ?_⟩
 ·exact hg.os.trans (ho.trans h.os)
 ·exact hg.tape.trans (ht.trans h.tape)
 ·exact hg.output.trans (hp.trans h.output)
 ·rw [Below.heap_setCell _ _ _ _ (by exact h2)]
  exact (hb k h1).trans ((hk k h3).trans (h.blk k h1 h2 h3))
 ·have := heap_setCell_same w3 gb 0 _ _ v' hg3
  rw [this]
  rfl
 ·exact hm.keep ((Below.heap_setCell _ _ _ _ (by exact Ne.symm hgn)).trans (hb nb hnV))
 ·rw [show (L ++ [(a, (0 : Int))]).length = L.length + 1 by simp]
  refine ownsRow_setCell_other hown ?_ _
  intro e
  have := (hown.lt gb e).1
  omega

def NewG (B : Nat) (bv pv : Value) : Prop := (∀ q, bv.ownBlock = some q → B ≤ q) ∧ ∀ q, pv.ownBlock = some q → B ≤ q
set_option maxHeartbeats 4000000 in
set_option maxRecDepth 20000 in
theorem build_new (cv ev : Value) (sh lk : Int) (n : Nat) (cd : Nat → Int) (ents : List Ent) (task : Int) (w : World) (T : Tab w) (HW : Words w cv n cd) (HE : Ents w ev ents) :
  Calls Tryd.prog 30 #[.agg #[cv, ev, .int .i64 sh, .int .i64 lk], .int .i64 task] w fun e w' =>
   (¬ GoodI n cd ents sh lk ∧ e = .returned (.tuple #[.agg #[.slice none 0 0, .slice none 0 0], .int .i64 (-1), .int .i64 3]) ∧ Below w.heap.size w w') ∨
   (GoodI n cd ents sh lk ∧ (task < 0 ∨ (ents.length : Int) ≤ task) ∧ e = .returned (.tuple #[.agg #[.slice none 0 0, .slice none 0 0], .int .i64 (-1), .int .i64 2]) ∧ Below w.heap.size w w') ∨
   (GoodI n cd ents sh lk ∧ ∃ (k : Nat) (en : Ent) (D : List Int) (bad : Int), task = (k : Int) ∧ ents[k]? = some en ∧ 0 ≤ bad ∧ RInv (insAt cd) en.st en.en D [] bad ∧ e = .returned (.tuple #[.agg #[.slice none 0 0, .slice none 0 0], .int .i64 bad, .int .i64 10]) ∧ Below w.heap.size w w') ∨
   (GoodI n cd ents sh lk ∧ ∃ (k : Nat) (en : Ent) (D : List Int) (L : List (Int × Int)) (bv pv : Value), task = (k : Int) ∧ ents[k]? = some en ∧ RInv (insAt cd) en.st en.en D [] (-1) ∧ blk (insAt cd) en.st D (en.en - en.st).toNat = L ∧ e = .returned (.tuple #[.agg #[bv, pv], .int .i64 (-1), .int .i64 0]) ∧ Blks w' bv (gBlks (insAt cd) L) ∧ Lls w' pv (gPrev (insAt cd) L) ∧ Below w.heap.size w w' ∧ NewG w.heap.size bv pv) := by
 have hn := HW.le
 obtain ⟨A, cap, hcv, hc1, hc2, hrd⟩ := HW.at_
 obtain ⟨EA, ecap, hev, he1, he2, hed⟩ := HE.at_
 have h63 : ents.length ≤ 2 ^ 63 - 1 := by unfold maxLen at he2; omega
 have HWH := Lib.hid HW
 have HEH := Lib.hid HE
 have HT := Lib.hid T
 clear hrd hed HW HE T
 subst hcv hev
 obtain ⟨V0, hV0⟩ : ∃ V0, (w.alloc (.cells #[.slice A n cap, .slice EA ents.length ecap, .int .i64 sh, .int .i64 lk] 38)).alloc (.cells #[.slice none 0 0, .slice none 0 0] 48) = V0 := ⟨_, rfl⟩
 have b0 : Below w.heap.size w V0 := hV0 ▸ ((Below.refl _ _).alloc (Nat.le_refl _) _).alloc (by simp) _
 have s0 : w.heap.size + 2 = V0.heap.size := by rw [← hV0]; simp
 have k0 : V0.heap[w.heap.size]? = some (.cells #[.slice A n cap, .slice EA ents.length ecap, .int .i64 sh, .int .i64 lk] 38) := by rw [← hV0, heap_alloc_old _ _ (by simp)]; exact heap_alloc_new _ _
 have k1 : V0.heap[w.heap.size + 1]? = some (.cells #[.slice none 0 0, .slice none 0 0] 48) := by rw [← hV0]; exact heap_alloc_at _ _ (by simp)
 have y0 : V0.cell? ⟨w.heap.size, 0, none⟩ = some (.slice A n cap) := by simp [World.cell?, k0]
 have y1 : V0.cell? ⟨w.heap.size, 1, none⟩ = some (.slice EA ents.length ecap) := by simp [World.cell?, k0]
 have y2 : V0.cell? ⟨w.heap.size, 2, none⟩ = some (.int .i64 sh) := by simp [World.cell?, k0]
 have y3 : V0.cell? ⟨w.heap.size, 3, none⟩ = some (.int .i64 lk) := by simp [World.cell?, k0]
 have K0 := Lib.hid k0
 have K1 := Lib.hid k1
 have B0 := Lib.hid b0
 have HCK := Lib.hid (check_any (.slice A n cap) (.slice EA ents.length ecap) sh lk n cd ents V0 (HT.out.below b0) (HWH.out.below b0) (HEH.out.below b0))
 have f0 : V0.frozen? ⟨w.heap.size + 1, 0, none⟩ = false := by simp [World.frozen?, k1]
 have f1 : V0.frozen? ⟨w.heap.size + 1, 1, none⟩ = false := by simp [World.frozen?, k1]
 have r0 : V0.cell? ⟨w.heap.size + 1, 0, none⟩ = some (.slice none 0 0) := by simp [World.cell?, k1]
 have r1 : V0.cell? ⟨w.heap.size + 1, 1, none⟩ = some (.slice none 0 0) := by simp [World.cell?, k1]
 have s1 : w.heap.size + 1 < V0.heap.size := by omega
 have s2 : w.heap.size < V0.heap.size := by omega
 clear k0 k1 b0
 by_cases hg : GoodI n cd ents sh lk
 case neg =>
  have HC := Lib.hid (show Calls Tryd.prog 54 #[.agg #[.slice A n cap, .slice EA ents.length ecap, .int .i64 sh, .int .i64 lk]] V0 fun e w' => ∃ r, e = .returned (.int .i64 r) ∧ (r != 0) = true ∧ ∃ y : Ext V0, y.w = w' from HCK.out.mono fun e w' ⟨⟨r, h1, h2⟩, h3⟩ => ⟨r, h1, by simp; intro h; exact hg (h2.1 h), ⟨w', h3⟩, rfl⟩)
  go_enter Tryd.func30, Tryd.ntmps30
  go_upto_region 1 with fail
  clear hV0
  go_wp2_with (go_at_call 54; refine HC.out.mono ?_; rintro e w' ⟨r, rfl, dr, y, rfl⟩)
  refine bodyPost_ret (v := .tuple #[.agg #[.slice none 0 0, .slice none 0 0], .int .i64 (-1), .int .i64 3]) (by simp [results, Tryd.results30, go_sem, *]) rfl (.inl ⟨hg, rfl, ?_⟩)
  refine Below.setCell (Below.setCell (Ext.below B0.out (by omega) y) ?_ _) ?_ _ <;> simp
 have HC := Lib.hid (show Calls Tryd.prog 54 #[.agg #[.slice A n cap, .slice EA ents.length ecap, .int .i64 sh, .int .i64 lk]] V0 fun e w' => e = .returned (.int .i64 0) ∧ ∃ y : Ext V0, y.w = w' from HCK.out.mono fun e w' ⟨⟨r, h1, h2⟩, h3⟩ => ⟨by rw [h1, h2.2 hg], ⟨w', h3⟩, rfl⟩)
 have HGd := Lib.hid hg
 clear hg HCK
 by_cases ht : task < 0 ∨ (ents.length : Int) ≤ task
 case pos =>
  go_enter Tryd.func30, Tryd.ntmps30
  go_upto_region 1 with fail
  clear hV0
  by_cases h0 : task < 0
  ·have d0 : decide (task < 0) = true := decide_eq_true h0
   go_wp2_with (go_at_call 54; refine HC.out.mono ?_; rintro e w' ⟨rfl, y, rfl⟩)
   refine bodyPost_ret (v := .tuple #[.agg #[.slice none 0 0, .slice none 0 0], .int .i64 (-1), .int .i64 2]) (by simp [results, Tryd.results30, go_sem, *]) rfl (.inr (.inl ⟨HGd.out, ht, rfl, ?_⟩))
   refine Below.setCell (Below.setCell (Ext.below B0.out (by omega) y) ?_ _) ?_ _ <;> simp
  ·have d0 : decide (task < 0) = false := decide_eq_false h0
   have d1 : decide ((ents.length : Int) ≤ task) = true := decide_eq_true (by omega)
   go_wp2_with (go_at_call 54; refine HC.out.mono ?_; rintro e w' ⟨rfl, y, rfl⟩)
   refine bodyPost_ret (v := .tuple #[.agg #[.slice none 0 0, .slice none 0 0], .int .i64 (-1), .int .i64 2]) (by simp [results, Tryd.results30, go_sem, *]) rfl (.inr (.inl ⟨HGd.out, ht, rfl, ?_⟩))
   refine Below.setCell (Below.setCell (Ext.below B0.out (by omega) y) ?_ _) ?_ _ <;> simp
 obtain ⟨k, rfl⟩ : ∃ k : Nat, task = (k : Int) := ⟨task.toNat, by omega⟩
 have hk : k < ents.length := by omega
 have d0 : decide ((k : Int) < 0) = false := decide_eq_false (by omega)
 have d1 : decide ((ents.length : Int) ≤ (k : Int)) = false := decide_eq_false (by omega)
 obtain ⟨e, b, off, he, rfl, hbl, c0, c1, c2, c3⟩ := HEH.out.cells B0.out hk
 have hem := List.mem_of_getElem? he
 obtain ⟨g1, g2, g3⟩ := HGd.out.ch.bounds e hem
 have hb2 : b < V0.heap.size := by omega
 have hcd := HGd.out.code
 clear ht HEH
 go_enter Tryd.func30, Tryd.ntmps30
 go_upto_region 1 with fail
 clear hV0
 go_upto_region 6 with (go_at_call 54; refine HC.out.mono ?_; rintro e w' ⟨rfl, y, rfl⟩)
 obtain ⟨W1, hW1⟩ : ∃ W1, y.w.alloc (.cells #[.string e.nm, .int .i64 e.st, .int .i64 e.en, .int .i64 e.da] 102) = W1 := ⟨_, rfl⟩
 have bW : Below V0.heap.size V0 W1 := hW1 ▸ y.h.alloc y.h.size _
 have kW : W1.heap[y.w.heap.size]? = some (.cells #[.string e.nm, .int .i64 e.st, .int .i64 e.en, .int .i64 e.da] 102) := hW1 ▸ heap_alloc_new _ _
 have sW : y.w.heap.size < W1.heap.size := by rw [← hW1]; simp
 have sy := y.h.size
 rw [hW1]
 obtain ⟨q, hq⟩ : ∃ q, y.w.heap.size = q := ⟨_, rfl⟩
 rw [hq] at kW sW sy ⊢
 have B1 := Lib.hid (B0.out.trans (bW.mono (by omega)))
 have HRE := Lib.hid (reach_any (.slice A n cap) (.slice (some ⟨b, off, none⟩) ents.length ecap) sh lk e.nm e.st e.en e.da n cd W1 (HT.out.below B1.out) (HWH.out.below B1.out) g1 g2 g3)
 have z0 : W1.cell? ⟨w.heap.size, 0, none⟩ = some (.slice A n cap) := by rw [bW.cell (p := ⟨w.heap.size, 0, none⟩) s2]; exact y0
 have z1 : W1.cell? ⟨w.heap.size, 1, none⟩ = some (.slice (some ⟨b, off, none⟩) ents.length ecap) := by rw [bW.cell (p := ⟨w.heap.size, 1, none⟩) s2]; exact y1
 have z2 : W1.cell? ⟨w.heap.size, 2, none⟩ = some (.int .i64 sh) := by rw [bW.cell (p := ⟨w.heap.size, 2, none⟩) s2]; exact y2
 have z3 : W1.cell? ⟨w.heap.size, 3, none⟩ = some (.int .i64 lk) := by rw [bW.cell (p := ⟨w.heap.size, 3, none⟩) s2]; exact y3
 have v0 : W1.cell? ⟨q, 0, none⟩ = some (.string e.nm) := by simp [World.cell?, kW]
 have v1 : W1.cell? ⟨q, 1, none⟩ = some (.int .i64 e.st) := by simp [World.cell?, kW]
 have v2 : W1.cell? ⟨q, 2, none⟩ = some (.int .i64 e.en) := by simp [World.cell?, kW]
 have v3 : W1.cell? ⟨q, 3, none⟩ = some (.int .i64 e.da) := by simp [World.cell?, kW]
 have kR : W1.heap[w.heap.size + 1]? = some (.cells #[.slice none 0 0, .slice none 0 0] 48) := (bW.block _ s1).trans K1.out
 have s3 : w.heap.size + 1 < W1.heap.size := by omega
 have KW := Lib.hid kW
 have KR := Lib.hid kR
 clear hW1 hq kW kR bW y y0 y1 y2 y3 r0 r1 f0 f1 c0 c1 c2 c3 HC K0 K1 B0 d0 d1
 go_upto_region 7 with (go_at_call 55; refine HRE.out.mono ?_; rintro e' W2 ⟨D, bad, fb, rfl, hfb, hRI, hIm, hb2'⟩)
 have kR2 := (hb2'.block _ s3).trans KR.out
 have kW2 := (hb2'.block _ sW).trans KW.out
 have r0 : W2.cell? ⟨w.heap.size + 1, 0, none⟩ = some (.slice none 0 0) := by simp [World.cell?, kR2]
 have r1 : W2.cell? ⟨w.heap.size + 1, 1, none⟩ = some (.slice none 0 0) := by simp [World.cell?, kR2]
 have f0 : W2.frozen? ⟨w.heap.size + 1, 0, none⟩ = false := by simp [World.frozen?, kR2]
 have f1 : W2.frozen? ⟨w.heap.size + 1, 1, none⟩ = false := by simp [World.frozen?, kR2]
 have B2 := Lib.hid (B1.out.trans (hb2'.mono (by omega)))
 have HRI := Lib.hid hRI
 have sW2 := hb2'.size
 have HFI := Lib.hid hIm
 have KW2 := Lib.hid kW2
 have KR2 := Lib.hid kR2
 clear hRI z0 z1 z2 z3 v0 v1 v2 v3 KW KR B1 HRE hb2' hIm kR2 kW2
 rcases Classical.em (bad = -1) with hbd | hbd
 case inr =>
  have hbp : 0 ≤ bad := by
   rcases HRI.out.b with h | h
   ·exact absurd h.1 hbd
   ·have := (HRI.out.dr bad h.1).range _ _ _ g2
    omega
  have dd : decide (0 ≤ bad) = true := decide_eq_true hbp
  go_wp2_with fail
  refine bodyPost_ret (v := .tuple #[.agg #[.slice none 0 0, .slice none 0 0], .int .i64 bad, .int .i64 10]) (by simp [results, Tryd.results30, go_sem, *]) rfl (.inr (.inr (.inl ⟨HGd.out, k, e, D, bad, rfl, he, hbp, HRI.out, rfl, ?_⟩)))
  refine Below.setCell (Below.setCell B2.out ?_ _) ?_ _ <;> simp
 subst hbd
 have hcD : ∀ a ∈ D, (0 ≤ a ∧ a ≤ 1000000) ∧ (-1000000 ≤ (insAt cd a).imm ∧ (insAt cd a).imm ≤ 1000000) := fun a ha => by
  have h1 := (HRI.out.dr a ha).range _ _ _ g2
  have h2 := decI_imm (cd a.toNat) (HWH.out.wd a.toNat (by omega)).1
  unfold insAt
  omega
 have HLE := Lib.hid (leaders_any e.nm e.st e.en e.da fb (insAt cd) D W2 (by omega) hcD HFI.out)
 have HCD := Lib.hid hcD
 have v0 : W2.cell? ⟨q, 0, none⟩ = some (.string e.nm) := by simp [World.cell?, KW2.out]
 have v1 : W2.cell? ⟨q, 1, none⟩ = some (.int .i64 e.st) := by simp [World.cell?, KW2.out]
 have v2 : W2.cell? ⟨q, 2, none⟩ = some (.int .i64 e.en) := by simp [World.cell?, KW2.out]
 have v3 : W2.cell? ⟨q, 3, none⟩ = some (.int .i64 e.da) := by simp [World.cell?, KW2.out]
 clear r0 r1 f0 f1 hcD
 go_upto_region 10 with (go_at_call 56; refine HLE.out.mono ?_; rintro e' W3 ⟨mb, mg, rfl, hmb, hMI, hMm, hb3⟩)
 have mk := fun W : World => (show (Instr.makeMap 135 none).run Tryd.prog W = .ok (.map (some W.heap.size)) (W.alloc (.map #[] 0)) from rfl)
 obtain ⟨V, hV⟩ : ∃ V, (W3.alloc (.cells #[.slice none 0 0, .slice none 0 0] 48)).alloc (.map #[] 0) = V := ⟨_, rfl⟩
 have sV : W3.heap.size + 2 = V.heap.size := by rw [← hV]; simp
 have bV : Below W3.heap.size W3 V := hV ▸ ((Below.refl _ _).alloc (Nat.le_refl _) _).alloc (by simp) _
 have kg : V.heap[W3.heap.size]? = some (.cells #[.slice none 0 0, .slice none 0 0] 48) := by rw [← hV, heap_alloc_old _ _ (by simp)]; exact heap_alloc_new _ _
 have kn : Im V (W3.heap.size + 1) (nmb []) := by
  rw [← hV, nmb_nil]
  have := Im.made (W3.alloc (.cells #[.slice none 0 0, .slice none 0 0] 48))
  rwa [World.size_alloc] at this
 have sW3 := hb3.size
 have kW3 : V.heap[q]? = _ := (bV.block _ (by omega)).trans ((hb3.block _ (by omega)).trans KW2.out)
 have kR3 : V.heap[w.heap.size + 1]? = _ := (bV.block _ (by omega)).trans ((hb3.block _ (by omega)).trans KR2.out)
 have hFl := HFI.out.lt
 have hF3 : Im V fb (fnd (insAt cd) D) := HFI.out.keep ((bV.block _ (by omega)).trans (hb3.block _ hFl))
 have hMl := hMm.lt
 have hM3 : Im V mb mg := hMm.keep (bV.block _ hMl)
 have hB3 : Below w.heap.size w V := B2.out.trans ((hb3.mono (by have := B2.out.size; omega)).trans (bV.mono (by have := B2.out.size; omega)))
 have u1 : V.cell? ⟨q, 1, none⟩ = some (.int .i64 e.st) := by simp [World.cell?, kW3]
 have KW3 := Lib.hid kW3
 have KR3 := Lib.hid kR3
 have HF3 := Lib.hid hF3
 have HM3 := Lib.hid hM3
 have B3 := Lib.hid hB3
 have HBM := Lib.hid (show BM V V W3.heap.size (W3.heap.size + 1) (.slice none 0 0) (blk (insAt cd) e.st D 0) from ⟨by omega, by omega, by omega, rfl, rfl, rfl, Nat.le_refl _, fun _ _ _ _ => rfl, kg, kn, World.ownsRow_nil _ _ _ _⟩)
 have HMI := Lib.hid hMI
 have v1' : W3.cell? ⟨q, 1, none⟩ = some (.int .i64 e.st) := by rw [hb3.cell (p := ⟨q, 1, none⟩) (by show q < _; omega)]; exact v1
 clear kW3 kR3 hF3 hM3 hB3 kg kn bV hMm hMI hb3 v0 v1 v2 v3 HLE KW2 KR2 HFI
 go_upto_region 13 with fail
 clear hV
 obtain ⟨gb, hgb⟩ : ∃ gb, W3.heap.size = gb := ⟨_, rfl⟩
 rw [hgb] at HBM sV sW3 ⊢
 obtain ⟨nb, hnb⟩ : ∃ nb, gb + 1 = nb := ⟨_, rfl⟩
 rw [hnb] at HBM ⊢
 have hfg : fb < gb := by omega
 have hmg : mb < gb := by omega
 obtain ⟨i1, hi1, hy0, hy1, hy2⟩ := info_parts infoB
 have hqg : q < gb := by omega
 have hwg : w.heap.size + 1 < gb := by omega
 have hDst : e.st ∈ D := by rcases HRI.out.s with h | h; exact h; cases h
 clear u1 v1' mk hk hbl hb2 sy sW s3 sW2 hfb hmb hFl hMl sW3 hgb hc1 hc2 he1 he2 h63 s0 s1 s2
 go_loopw [13, 14, 15] (fun a13 a14 a15 wr => ∃ (m : Nat) (bv : Value), a13 = .int .i64 (e.st + (m : Int)) ∧ e.st + (m : Int) ≤ e.en ∧ BM V wr gb nb bv (blk (insAt cd) e.st D m)) (fun a13 _ _ _ => (e.en - intOf a13).toNat)
 case atStart => exact ⟨0, _, by simp, by simp; omega, HBM.out⟩
 case round =>
  obtain ⟨m, bv, rfl, hme, hM⟩ := hrel
  have HM := Lib.hid hM
  clear hM HBM
  have kq := (HM.out.blk q (by omega) (by omega) (by omega)).trans KW3.out
  have v2 : wr.cell? ⟨q, 2, none⟩ = some (.int .i64 e.en) := by simp [World.cell?, kq]
  have hF := HM.out.im HF3.out (by omega) (by omega)
  have hMk := HM.out.im HM3.out (by omega) (by omega)
  have hBI := blk_inv (insAt cd) e.st D m
  have HBI := Lib.hid hBI
  have hbl := blk_len (insAt cd) e.st D m
  clear kq hBI
  by_cases hlt : e.st + (m : Int) < e.en
  ·-- DEVA
   have dl : decide (e.st + (m : Int) < e.en) = true := decide_eq_true hlt
   have wr1 : IntKind.i64.wrap (e.st + (m : Int) + 1) = e.st + (m : Int) + 1 := IntWalk.i64_in _ (by omega)
   have hm4 : m ≤ 4096 := by omega
   by_cases hD : e.st + (m : Int) ∈ D
   ·have l1 := hF.look_some (P := Tryd.prog) (kt := 3) (t := 130) (e := 23) Tryd.underlying3 Tryd.underlying130 (k := e.st + (m : Int)) (v := (insAt cd (e.st + m)).val) (by unfold fnd; rw [if_pos hD]) true
    obtain ⟨i, hi⟩ : ∃ i, insAt cd (e.st + m) = i := ⟨_, rfl⟩
    rw [hi] at l1
    simp only [↓reduceIte, Ins.val, kv] at l1
    obtain ⟨X1, hX1⟩ : ∃ X1, wr.alloc (.cells #[.int .u8 i.op, .int .i64 i.a, .int .i64 i.b, .int .i64 i.c, .int .i64 i.imm] 23) = X1 := ⟨_, rfl⟩
    have b1 : Below wr.heap.size wr X1 := hX1 ▸ (Below.refl _ _).alloc (Nat.le_refl _) _
    have HM1 := Lib.hid (HM.out.below b1)
    have hM1 : Im X1 mb mg := hMk.below b1 hMk.lt
    clear hi hF hMk
    by_cases hl : ldB (insAt cd) e.st D (e.st + m) = true
    ·have l2 := hM1.look_some (P := Tryd.prog) (kt := 3) (t := 133) (e := 4) Tryd.underlying3 Tryd.underlying133 (k := e.st + (m : Int)) (v := .bool true) (by
      rcases HMI.out.lead (e.st + m) with h | h
      ·exact h.2
      ·exact absurd ((ldB_iff _ _ _ _).1 hl) h.1) false
     simp only [Bool.false_eq_true, ↓reduceIte, kv] at l2
     have HBK := Lib.hid (show blk (insAt cd) e.st D (m + 1) = blk (insAt cd) e.st D m ++ [(e.st + m, e.st + m + 1)] by rw [blk, if_pos hD, if_pos hl])
     obtain ⟨L, hL⟩ : ∃ L, blk (insAt cd) e.st D m = L := ⟨_, rfl⟩
     rw [hL] at HBK HM1 HBI hbl HM
     have HNE := Lib.hid (show ∀ p ∈ L, p.1 ≠ e.st + m from fun p hp => by have := HBI.out.lo p hp; omega)
     clear hL hl hD HM hM1
     go_upto_region 18 with fail
     clear l1 l2 hX1
     obtain ⟨bA, bcap, rfl⟩ : ∃ bA bcap, bv = .slice bA L.length bcap := by
      rcases HM1.out.row.2 with ⟨h, h'⟩ | ⟨g, cap', cur, h, _⟩
      ·exact ⟨_, _, by rw [h, h']⟩
      ·exact ⟨_, _, h⟩
     have t0 : X1.cell? ⟨gb, 0, none⟩ = some (.slice bA L.length bcap) := by simp [World.cell?, HM1.out.g]
     obtain ⟨X2, l3, m3, o1, o2, o3, o4, o5⟩ := HM1.out.num.put (P := Tryd.prog) (kt := 3) (t := 135) (e := 3) Tryd.underlying3 Tryd.underlying135 (k := e.st + (m : Int)) (kwf_of (by omega) (by omega)) (.int .i64 (L.length : Int))
     simp only [kv] at l3
     rw [nmb_snoc L (e.st + m) 0 HNE.out] at m3
     have row2 := (HM1.out.row).kept (grown_setBlock o1 o2 o3 o4 o5) (.inr (fun e' => by have := HM1.out.rowlt e'; have := HM1.out.nV; omega))
     have hgk : gb ≠ nb := by omega
     have g2' := (o5 gb hgk).trans HM1.out.g
     have t1 : X2.cell? ⟨gb, 0, none⟩ = some (.slice bA L.length bcap) := by simp [World.cell?, g2']
     have t2 : X2.frozen? ⟨gb, 0, none⟩ = false := by simp [World.frozen?, g2']
     have HR2 := Lib.hid row2
     have HG2 := Lib.hid (And.intro m3 (And.intro o1 (And.intro o2 (And.intro o3 (And.intro o4 o5)))))
     have hgs : gb < X2.heap.size := by have := HM1.out.sz; omega
     have hVs : V.heap.size ≤ X2.heap.size := by have := HM1.out.sz; omega
     have HN2 := Lib.hid (show some gb ≠ Value.ownBlock (.slice bA L.length bcap) from fun e' => by have := HM1.out.rowlt e'.symm; omega)
     clear row2 g2' m3 o1 o2 o3 o4 o5 hgk
     go_upto_region 20 with (at_builtin; refine wpList_append_own_at _ rfl (.tmp 79) (.tmp 82) 45 rfl V.heap.size 64 i1 _ 3 40 Tryd.underlying45 hi1 hy0 hy1 hy2 rfl (by decide) (.slice bA L.length bcap) _ _ rfl (HR2.out.alloc _) ⟨X2.heap.size, 0, none⟩ 1 1 [.int .i64 (e.st + m), .int .i64 0, .slice none 0 0] rfl rfl (cells_new3 _ _ _ _ _) (by simp [Value.oneCell']) (by unfold maxLen; omega) (by omega) (by rw [World.size_alloc]; omega) ?_; intro v' W' hown' hgrow _ hob; obtain ⟨g', cap', rfl⟩ := ownsRow_succ hown'; have hc1 := hgrow.cell (a := ⟨gb, 0, none⟩) (v := .slice bA L.length bcap) (by simp [go_sem, *]) HN2.out; have hf1 : W'.frozen? ⟨gb, 0, none⟩ = false := (World.frozen?_of_block (hgrow.block gb (by simp; omega) HN2.out)).trans (by simp [go_sem, *]))
     have hMA := HM1.out.app (a := e.st + m) HG2.out.1 HG2.out.2.1 HG2.out.2.2.1 HG2.out.2.2.2.1 HG2.out.2.2.2.2.1 HG2.out.2.2.2.2.2 hgrow (by rw [flatB_snoc]; exact hown')
     obtain ⟨X4, hX4⟩ : ∃ X4, W'.setCell ⟨gb, 0, none⟩ (.slice (some ⟨g', 0, none⟩) (L.length + 1) cap') = X4 := ⟨_, rfl⟩
     rw [hX4] at hMA ⊢
     have hrw := hMA.row
     rw [show (L ++ [(e.st + (m : Int), (0 : Int))]).length = L.length + 1 by simp] at hrw
     have t3 : X4.cell? ⟨gb, 0, none⟩ = some (.slice (some ⟨g', 0, none⟩) (L.length + 1) cap') := by simp [World.cell?, hMA.g]
     have t4 : X4.cell? ⟨g', L.length * 3 + 1, none⟩ = some (.int .i64 0) := by rw [hrw.cellAt _ (by omega)]; exact flatB_at L _ _
     have t5 : X4.frozen? ⟨g', L.length * 3 + 1, none⟩ = false := hrw.frozenAt _
     have hcp : L.length + 1 ≤ cap' := by
      rcases hrw.2 with ⟨h, _⟩ | ⟨_, _, _, h, _, _, h2, _⟩
      ·cases h
      ·cases h; exact h2
     have HMA := Lib.hid hMA
     clear hX4 hMA hrw hc1 hf1 hob hgrow hown' t0 t1 t2 l3 HG2 HR2 HN2 hgs hVs
     go_wp2_with fail
     go_roundw
     case rel =>
      refine ⟨m + 1, .slice (some ⟨g', 0, none⟩) (L.length + 1) cap', by rw [show ((m + 1 : Nat) : Int) = (m : Int) + 1 by omega, Int.add_assoc], by omega, ?_⟩
      rw [HBK.out]
      exact HMA.out.setTo
     case measure => simp [intOf]; omega
    ·have l2 := hM1.look_none (P := Tryd.prog) (kt := 3) (t := 133) (e := 4) Tryd.underlying3 Tryd.underlying133 (bool_zero X1) (k := e.st + (m : Int)) (kwf_of (by omega) (by omega)) (by
      rcases HMI.out.lead (e.st + m) with h | h
      ·exact absurd ((ldB_iff _ _ _ _).2 h.1) hl
      ·exact h.2) false
     simp only [Bool.false_eq_true, ↓reduceIte, kv] at l2
     have hm0 : 0 < m := by
      rcases Nat.eq_zero_or_pos m with h | h
      ·subst h
       exact absurd (by simpa using ldB_st (insAt cd) e.st D) hl
      ·exact h
     obtain ⟨M, pa, pb, hL⟩ := snoc_pair _ (HBI.out.ne hDst hm0)
     have HBK := Lib.hid (show blk (insAt cd) e.st D (m + 1) = M ++ [(pa, e.st + m + 1)] by rw [blk, if_pos hD, if_neg hl, hL, setTo_snoc])
     rw [hL] at HM1 hbl
     clear hL hl hD HM hM1 HBI
     have hrw := HM1.out.row
     rw [show (M ++ [(pa, pb)]).length = M.length + 1 by simp] at hrw
     obtain ⟨g', cap', rfl⟩ := ownsRow_succ hrw
     have t3 : X1.cell? ⟨gb, 0, none⟩ = some (.slice (some ⟨g', 0, none⟩) (M.length + 1) cap') := by simp [World.cell?, HM1.out.g]
     have t4 : X1.cell? ⟨g', M.length * 3 + 1, none⟩ = some (.int .i64 pb) := by rw [hrw.cellAt _ (by omega)]; exact flatB_at M _ _
     have t5 : X1.frozen? ⟨g', M.length * 3 + 1, none⟩ = false := hrw.frozenAt _
     have hcp : M.length + 1 ≤ cap' := by
      rcases hrw.2 with ⟨h, _⟩ | ⟨_, _, _, h, _, _, h2, _⟩
      ·cases h
      ·cases h; exact h2
     have hbl' : M.length + 1 ≤ m := by simpa using hbl
     clear hrw hbl
     go_upto_region 20 with fail
     clear l1 l2 hX1
     go_wp2_with fail
     go_roundw
     case rel =>
      refine ⟨m + 1, .slice (some ⟨g', 0, none⟩) (M.length + 1) cap', by rw [show ((m + 1 : Nat) : Int) = (m : Int) + 1 by omega, Int.add_assoc], by omega, ?_⟩
      rw [HBK.out]
      exact HM1.out.setTo
     case measure => simp [intOf]; omega
   ·have l1 := hF.look_none (P := Tryd.prog) (kt := 3) (t := 130) (e := 23) Tryd.underlying3 Tryd.underlying130 (ins_zero wr) (k := e.st + (m : Int)) (kwf_of (by omega) (by omega)) (by unfold fnd; rw [if_neg hD]) true
    simp only [↓reduceIte, kv] at l1
    have HBK := Lib.hid (show blk (insAt cd) e.st D (m + 1) = blk (insAt cd) e.st D m by rw [blk, if_neg hD])
    clear hD hF hMk
    go_wp2_with fail
    go_roundw
    case rel =>
     refine ⟨m + 1, bv, by rw [show ((m + 1 : Nat) : Int) = (m : Int) + 1 by omega, Int.add_assoc], by omega, ?_⟩
     rw [HBK.out]
     exact HM.out.below ((Below.refl _ _).alloc (Nat.le_refl _) _)
    case measure => simp [intOf]; omega
  ·-- DEVB
   have dl : decide (e.st + (m : Int) < e.en) = false := decide_eq_false hlt
   have HMN := Lib.hid (show m = (e.en - e.st).toNat by omega)
   have hm0 : 0 < m := by omega
   clear hF hMk
   obtain ⟨L, hL⟩ : ∃ L, blk (insAt cd) e.st D m = L := ⟨_, rfl⟩
   rw [hL] at HM hbl HBI
   have HLE := Lib.hid hL
   have hn0 : 0 < L.length := List.length_pos_iff.2 (HBI.out.ne hDst hm0)
   have hL4 : L.length ≤ 4096 := by omega
   obtain ⟨g, gcap, rfl⟩ : ∃ g gcap, bv = .slice (some ⟨g, 0, none⟩) L.length gcap := by
    rcases HM.out.row.2 with ⟨h, h'⟩ | ⟨g, cap', cur, h, _⟩
    ·omega
    ·exact ⟨_, _, h⟩
   have t0 : wr.cell? ⟨gb, 0, none⟩ = some (.slice (some ⟨g, 0, none⟩) L.length gcap) := by simp [World.cell?, HM.out.g]
   obtain ⟨i2, hi2, hs0, hs1, hs2⟩ := info_parts infoS
   obtain ⟨U1, lm, rowP, gr1⟩ := run_make_full (P := Tryd.prog) wr V.heap.size 46 62 i2 (.slice none 0 0) 1 Tryd.underlying46 hi2 hs0 hs1 .i64 .i64 L.length (by rw [hs2]; omega) (by unfold maxLen; omega) HM.out.sz
   rw [Nat.mul_one, show (Value.slice none 0 0).cells = #[Value.slice none 0 0] from rfl, toList_madeCells_one] at rowP
   have gU : U1.heap[gb]? = _ := (gr1.block gb (by have := HM.out.sz; have := HM.out.gV; omega) (by simp)).trans HM.out.g
   have u0 : U1.cell? ⟨gb, 0, none⟩ = some (.slice (some ⟨g, 0, none⟩) L.length gcap) := by simp [World.cell?, gU]
   have u1 : U1.cell? ⟨gb, 1, none⟩ = some (.slice none 0 0) := by simp [World.cell?, gU]
   have u2 : U1.frozen? ⟨gb, 1, none⟩ = false := by simp [World.frozen?, gU]
   clear hL hlt hme hbl
   go_upto_region 23 with fail
   obtain ⟨pg, hpg⟩ : ∃ pg, wr.heap.size = pg := ⟨_, rfl⟩
   rw [hpg] at rowP ⊢
   obtain ⟨U2, hU2⟩ : ∃ U2, U1.setCell ⟨gb, 1, none⟩ (.slice (some ⟨pg, 0, none⟩) L.length L.length) = U2 := ⟨_, rfl⟩
   have bN : BN V U2 gb nb g gcap pg L (fun _ => .slice none 0 0) (lstAt (insAt cd) L 0 []) := by
    have hgr := HM.out.rowlt (j := g) rfl
    have hpr := rowP.lt pg rfl
    have hz := HM.out.sz
    have hgV := HM.out.gV
    have hnV := HM.out.nV
    have gs := gr1.size
    have sm : ∀ k, k < V.heap.size → k ≠ gb → U2.heap[k]? = wr.heap[k]? := fun k h1 h2 => by
     rw [← hU2, Below.heap_setCell _ _ _ _ h2]
     exact gr1.block k (by omega) (by simp)
    refine ⟨hgV, hnV, HM.out.gn, ?_, ?_, ?_, ?_, fun k h1 h2 h3 => (sm k h1 h2).trans (HM.out.blk k h1 h2 h3), ?_, HM.out.num.keep (sm nb hnV (Ne.symm HM.out.gn)), ?_, ?_, fun i hi => ?_, fun i j hi hj _ q hq => by cases hq⟩
    ·rw [← hU2]; exact gr1.os.trans HM.out.os
    ·rw [← hU2]; exact gr1.tape.trans HM.out.tape
    ·rw [← hU2]; exact gr1.output.trans HM.out.output
    ·rw [← hU2]; simp; omega
    ·rw [← hU2, heap_setCell_same U1 gb 1 _ _ _ gU]
     rfl
    ·rw [flatV_nil, ← hU2]
     exact ownsRow_setCell_other (HM.out.row.kept gr1 (.inr (by simp [Value.ownBlock]))) (by simp [Value.ownBlock]; omega) _
    ·rw [← hU2]
     have e : ((List.range L.length).map fun i => (fun _ => Value.slice none 0 0) (L.length + i)) = List.replicate L.length (Value.slice none 0 0) := by
      apply List.ext_getElem?
      intro q
      by_cases hq : q < L.length
      ·simp [hq]
      ·simp [hq]
     rw [e]
     exact ownsRow_setCell_other rowP (by simp [Value.ownBlock]; omega) _
    ·rw [lstAt_zero]
     exact World.ownsRow_nil _ _ _ _
   rw [hU2]
   have HBN := Lib.hid bN
   have HCL := Lib.hid (show ∀ k, k < L.length → (lastI L k ∈ D ∧ lastI L k + 1 = (L.getD k (0, 0)).2) ∧ ∀ s ∈ succI (insAt cd (lastI L k)) (lastI L k), (∃ p ∈ L, p.1 = s) ∧ kwf s from fun k hk => by
    have hp : L[k] ∈ L := List.getElem_mem hk
    have e1 : L.getD k (0, 0) = L[k] := by simp [List.getD, List.getElem?_eq_getElem hk]
    have hla := HBI.out.last _ hp
    have hlo := HBI.out.lo _ hp
    unfold lastI
    rw [e1]
    refine ⟨⟨hla, by omega⟩, fun s hs => ?_⟩
    have hnb : ¬ Bads (insAt cd) e.st e.en (L[k].2 - 1) := by
     rcases HRI.out.b with h | h
     ·exact h.2 _ hla
     ·have := (HRI.out.dr _ h.1).range _ _ _ g2
      omega
    have hin : e.st ≤ s ∧ s < e.en := Classical.byContradiction fun h => hnb ⟨s, hs, h⟩
    have hsD : s ∈ D := by
     rcases HRI.out.cl _ hla s hs hin.1 hin.2 with h | h
     ·exact h
     ·cases h
    refine ⟨?_, kwf_of (by omega) (by omega)⟩
    have hmm := HMN.out
    refine HBI.out.num s hin.1 (by omega) hsD ?_
    by_cases hbr : isBr (insAt cd (L[k].2 - 1)).op = true
    ·rw [ldB_iff]
     refine .inr ⟨_, hla, ?_⟩
     unfold marksI
     rw [if_pos hbr]
     exact hs
    ·have : s = L[k].2 := by
      unfold succI at hs
      unfold isBr at hbr
      split at hs
      ·cases hs
      ·split at hs
       ·simp_all
       ·split at hs
        ·rename_i h; rcases h with h | h <;> simp [h] at hbr
        ·simp at hs; omega
     rw [this] at hsD hin ⊢
     exact HBI.out.cl _ hp (by omega) hsD)
   clear hU2 gU u0 u1 u2 lm rowP gr1 bN HM HBI t0 hpg
   go_loopw [16, 17, 19, 20, 103] (fun a16 a17 a19 a20 a103 wr => ∃ (k : Nat) (val : Nat → Value), k ≤ L.length ∧ a103 = .int .i64 (k : Int) ∧ BN V wr gb nb g gcap pg L val (lstAt (insAt cd) L k [])) (fun _ _ _ _ a103 _ => L.length - (intOf a103).toNat)
   case atStart => exact ⟨0, _, Nat.zero_le _, rfl, HBN.out⟩
   case round =>
    obtain ⟨k', val, hk', rfl, hN⟩ := hrel
    clear HBN
    have HN := Lib.hid hN
    clear hN
    have t0 : wr.cell? ⟨gb, 0, none⟩ = some (.slice (some ⟨g, 0, none⟩) L.length gcap) := by simp [World.cell?, HN.out.gg]
    have t1 : wr.cell? ⟨gb, 1, none⟩ = some (.slice (some ⟨pg, 0, none⟩) L.length L.length) := by simp [World.cell?, HN.out.gg]
    have hrg := HN.out.rg
    by_cases hlt : k' < L.length
    ·have dl : decide ((k' : Int) < (L.length : Int)) = true := by simpa using hlt
     obtain ⟨⟨hlD, hlt2⟩, hsu⟩ := HCL.out k' hlt
     obtain ⟨p1, p2⟩ := HCD.out _ hlD
     obtain ⟨la, hla⟩ : ∃ la, lastI L k' = la := ⟨_, rfl⟩
     have HNX := Lib.hid (show nextOf (insAt cd) L k' = nxl L (succI (insAt cd la) la) by unfold nextOf; rw [hla])
     rw [hla] at hlD hlt2 hsu p1 p2
     have bt : wr.cell? ⟨g, k' * 3 + 1, none⟩ = some (.int .i64 (la + 1)) := by rw [HN.out.brow.cellAt _ (by omega), flatV_at L val hlt (by omega), hlt2]; rfl
     have hF := HN.out.im HF3.out (by omega) (by omega)
     obtain ⟨i, hi⟩ : ∃ i, insAt cd la = i := ⟨_, rfl⟩
     have l1 : ∀ y : Ext wr, (Instr.lookup 130 (.map (some fb)) (.int .i64 la) false).run Tryd.prog y.w = .ok (.agg #[.int .u8 i.op, .int .i64 i.a, .int .i64 i.b, .int .i64 i.c, .int .i64 i.imm]) y.w := fun y => by
      have := (hF.ext y).look_some (P := Tryd.prog) (kt := 3) (t := 130) (e := 23) Tryd.underlying3 Tryd.underlying130 (k := la) (v := i.val) (by unfold fnd; rw [if_pos hlD, hi]) false
      simpa only [Bool.false_eq_true, ↓reduceIte, Ins.val, kv] using this
     rw [hi] at HNX hsu p2
     have w1 : IntKind.i64.wrap (la + 1 - 1) = la := by rw [IntWalk.i64_in _ (by omega)]; omega
     have HSC := Lib.hid (fun W : World => successors_any i la W p1.1 p1.2 p2.1 p2.2)
     have HSU := Lib.hid hsu
     clear hi hlD hlt2 hla hF hsu p2
     obtain ⟨hrg1, hrg2, hrg3⟩ := hrg
     have sg : g < wr.heap.size := hrg1.2
     go_upto_region 26 with fail
     refine wp_region_ext_tail_const 12 14 _ _ rfl rfl rfl (by kernel_rfl) (by kernel_rfl) ?_
     simp only [Act.put, List.setIfInBounds_toArray, List.set_cons_zero, List.set_cons_succ, List.take_succ_cons, List.take_zero, List.drop_succ_cons, List.drop_zero, Nat.reduceSub]
     repeat (go_big_quiet_step (fail))
     refine wpQuiet_nil ?_
     rintro _ ⟨y, rfl⟩
     go_wp2_with (go_at_call 57; refine (HSC.out _).mono ?_; rintro e' W4 ⟨⟨v, rfl, ⟨SA, scap, rfl, sc1, sc2, sc3⟩, sc4⟩, hb4⟩)
     refine NoPanic.normal ?_
     go_upto_region 27 with fail
     obtain ⟨S, hS⟩ : ∃ S, succI i la = S := ⟨_, rfl⟩
     have hS2 : S.length ≤ 2 := hS ▸ succI_len _ _
     rw [hS] at HNX HSU sc1 sc3 sc4 ⊢
     have hy := y.h.size
     have HN4 := Lib.hid ((HN.out.below y.h).below hb4)
     have I4 := Lib.hid (show Ints W4 (.slice SA S.length scap) S from ⟨SA, scap, rfl, sc1, sc2, sc3⟩)
     have DJ := Lib.hid (show ∀ q, (Value.slice SA S.length scap).ownBlock = some q → q ≠ g ∧ q ≠ pg ∧ ∀ i, i < 2 * L.length → (val i).ownBlock ≠ some q from fun q hq => by
      have h1 := sc4 q hq
      refine ⟨by omega, by omega, fun i hi h2 => ?_⟩
      have := ((HN.out.own i hi).lt q h2).2
      omega)
     clear hS sc1 sc2 sc3 sc4 hb4 hy y HN t0 t1 bt l1 w1 HSC sg hrg1 hrg2 hrg3 p1
     obtain ⟨wo, rfl⟩ : ∃ wo : World, wo = wr := ⟨_, rfl⟩
     go_loopw [19, 20, 124] (fun a19 a20 a124 wr => ∃ (j : Nat) (val : Nat → Value), j ≤ S.length ∧ a124 = .int .i64 (j : Int) ∧ BN V wr gb nb g gcap pg L val (lstAt (insAt cd) L k' (nxl L (S.take j))) ∧ Ints wr (.slice SA S.length scap) S ∧ ∀ q, (Value.slice SA S.length scap).ownBlock = some q → q ≠ g ∧ q ≠ pg ∧ ∀ i, i < 2 * L.length → (val i).ownBlock ≠ some q) (fun _ _ a124 _ => S.length - (intOf a124).toNat)
     case atStart => exact ⟨0, _, Nat.zero_le _, rfl, HN4.out, I4.out, DJ.out⟩
     case round =>
      clear HN4 I4 DJ val
      obtain ⟨j, val, hj, rfl, hN, hI, hD'⟩ := hrel
      have HN := Lib.hid hN
      have HI := Lib.hid hI
      have HD := Lib.hid hD'
      clear hN hI hD'
      by_cases hjl : j < S.length
      ·obtain ⟨A', cap2, hv, i1', i2', i3'⟩ := HI.out
       cases hv
       obtain ⟨sb, so, rfl, hsb, hsc⟩ := i3' (by omega)
       obtain ⟨s, hs⟩ : ∃ s, S[j] = s := ⟨_, rfl⟩
       have x1 : wr.cell? ⟨sb, so + j, none⟩ = some (.int .i64 s) := by rw [hsc j hjl, ← hs]; simp [List.getD, List.getElem?_eq_getElem hjl]
       have hS? : S[j]? = some s := by rw [List.getElem?_eq_getElem hjl, hs]
       obtain ⟨hnum, hkw⟩ := HSU.out s (List.mem_of_getElem? hS?)
       obtain ⟨n1, n2, n3⟩ := nmb_some hnum
       obtain ⟨p, hp⟩ : ∃ p, idx L s = p := ⟨_, rfl⟩
       have HNT := Lib.hid (nxl_take L S j s hS?)
       rw [hp] at n1 n2 HNT
       have l2 := HN.out.num.look_some (P := Tryd.prog) (kt := 3) (t := 135) (e := 3) Tryd.underlying3 Tryd.underlying135 (k := s) (v := .int .i64 (p : Int)) n1 false
       simp only [Bool.false_eq_true, ↓reduceIte, kv] at l2
       have dl2 : decide ((j : Int) < (S.length : Int)) = true := by simpa using hjl
       obtain ⟨l, hl⟩ : ∃ l, nxl L (S.take j) = l := ⟨_, rfl⟩
       have hll : l.length ≤ 2 := by
        have := nxl_len L (S.take j)
        rw [hl] at this
        simp at this
        omega
       rw [hl] at HN HNT
       have bn : wr.cell? ⟨g, k' * 3 + 2, none⟩ = some (val k') := by rw [HN.out.brow.cellAt _ (by omega), flatV_at L val hlt (by omega)]; rfl
       have bf : wr.frozen? ⟨g, k' * 3 + 2, none⟩ = false := HN.out.brow.frozenAt _
       have hok := HN.out.own k' (by omega)
       rw [lstAt_self _ _ _ _ hlt] at hok
       have HCN := Lib.hid (gcontains_any (val k') l (p : Int) wr (gown_ints hok))
       unfold maxLen at i2'
       obtain ⟨vA, vcap, hval⟩ : ∃ vA vcap, val k' = .slice vA l.length vcap := by
        rcases hok.2 with ⟨h, h'⟩ | ⟨g, cap', cur, h, _⟩
        ·exact ⟨_, _, by rw [h, h']⟩
        ·exact ⟨_, _, h⟩
       have HOK := Lib.hid hok
       have HVL := Lib.hid hval
       rw [hval] at bn HCN
       clear hsc i3' hs hnum n1 n3 hp hl hkw hok hval hS?
       by_cases hin : (p : Int) ∈ l
       ·have HAD := Lib.hid (show addN l (p : Int) = l by unfold addN; rw [if_pos hin])
        rw [decide_eq_true hin] at HCN
        clear hin
        go_wp2_with (go_at_call 58; refine HCN.out.mono ?_; rintro e' w' ⟨rfl, rfl⟩)
        go_roundw
        case rel =>
         refine ⟨j + 1, val, by omega, by go_num, ?_, HI.out, HD.out⟩
         rw [HNT.out, HAD.out]
         exact HN.out
        case measure => simp [intOf]; omega
       ·have HAD := Lib.hid (show addN l (p : Int) = l ++ [(p : Int)] by unfold addN; rw [if_neg hin])
        have HIN := Lib.hid hin
        rw [decide_eq_false hin] at HCN
        clear hin
        obtain ⟨iI, hiI, hI0, hI1, hI2⟩ := info_parts infoI
        have hsz := HN.out.rg
        have HNg := Lib.hid (show some g ≠ Value.ownBlock (.slice vA l.length vcap) from fun e' => by
         rw [← HVL.out] at e'
         exact own_ne HOK.out HN.out.brow (by decide) g e'.symm rfl)
        have hg0 : g < wr.heap.size := hsz.1.2
        have hOA : wr.ownsRow V.heap.size 3 1 (.slice vA l.length vcap) l.length (ivs l) := by rw [← HVL.out]; exact HOK.out
        have HOA := Lib.hid hOA
        have hVw := HN.out.sz
        clear hOA hsz
        go_upto_region 32 with (first | (go_at_call 58; refine HCN.out.mono ?_; rintro e' w' ⟨rfl, rfl⟩) | (at_builtin; refine wpList_append_own_at _ rfl (.tmp 142) (.tmp 144) 62 rfl V.heap.size 3 iI (.int .i64 0) 1 8 Tryd.underlying62 hiI hI0 hI1 hI2 rfl (by decide) (.slice vA l.length vcap) _ _ rfl (HOA.out.alloc _) ⟨wr.heap.size, 0, none⟩ 1 1 [.int .i64 (p : Int)] rfl rfl (cell_one_new _ _ _) (by simp [Value.oneCell']) (by unfold maxLen; omega) (by omega) (by rw [World.size_alloc]; omega) ?_; intro v' W' hown' hgrow _ hob; obtain ⟨g', cap', rfl⟩ := ownsRow_succ hown'; have hc1 := hgrow.cell (a := ⟨g, k' * 3 + 2, none⟩) (v := .slice vA l.length vcap) (by simp [go_sem, *]) HNg.out; have hf1 : W'.frozen? ⟨g, k' * 3 + 2, none⟩ = false := (World.frozen?_of_block (hgrow.block g (by simp; omega) HNg.out)).trans (by simp [go_sem, *])))
        have hBX := HN.out.app (x := 0) (i := k') (y := (p : Int)) (by omega) ((Below.refl wr.heap.size wr).alloc (Nat.le_refl _) (.cells #[.int .i64 (p : Int)] 3)) (by rw [HVL.out]; exact hgrow) (by rw [lstAt_self _ _ _ _ hlt]; simpa [ivs] using hown') (by rw [HVL.out]; exact hob) g (k' * 3 + 2) (.inl ⟨hlt, rfl, rfl⟩)
        rw [lstAt_self _ _ _ _ hlt] at hBX
        have hIX := ((HI.out.below ((Below.refl wr.heap.size wr).alloc (Nat.le_refl _) (.cells #[.int .i64 (p : Int)] 3))).grown hgrow (fun q hq hq2 => (HD.out q hq).2.2 k' (by omega) (by rw [HVL.out]; exact hq2))).grown (grown_setCell W' g (k' * 3 + 2) (.slice (some ⟨g', 0, none⟩) (l.length + 1) cap')) (fun q hq hq2 => (HD.out q hq).1 (by simpa using hq2.symm))
        have hDX : ∀ q, (Value.slice (some ⟨sb, so, none⟩) S.length scap).ownBlock = some q → q ≠ g ∧ q ≠ pg ∧ ∀ i, i < 2 * L.length → (upd val k' (.slice (some ⟨g', 0, none⟩) (l.length + 1) cap') i).ownBlock ≠ some q := fun q hq => by
         obtain ⟨d1, d2, d3⟩ := HD.out q hq
         refine ⟨d1, d2, fun i hi => ?_⟩
         unfold upd
         split
         ·rcases hob with h | h
          ·rw [h, ← HVL.out]; exact d3 k' (by omega)
          ·rw [h, World.size_alloc]
           intro e'
           simp [Value.ownBlock] at hq e'
           omega
         ·exact d3 i hi
        obtain ⟨X, hX⟩ : ∃ X, W'.setCell ⟨g, k' * 3 + 2, none⟩ (.slice (some ⟨g', 0, none⟩) (l.length + 1) cap') = X := ⟨_, rfl⟩
        rw [hX] at hBX hIX ⊢
        obtain ⟨val2, hval2⟩ : ∃ val2, upd val k' (.slice (some ⟨g', 0, none⟩) (l.length + 1) cap') = val2 := ⟨_, rfl⟩
        rw [hval2] at hBX hDX
        have hop := hBX.own (L.length + p) (by omega)
        have hpl : upd (lstAt (insAt cd) L k' l) k' (l ++ [(p : Int)]) (L.length + p) = lstAt (insAt cd) L k' l (L.length + p) := by unfold upd; rw [if_neg (by omega)]
        rw [hpl] at hop
        have HLA := Lib.hid (lstAt_add (insAt cd) L k' p l hlt n2 HIN.out)
        have HPL := Lib.hid hpl
        obtain ⟨pl, hpl2⟩ : ∃ pl, lstAt (insAt cd) L k' l (L.length + p) = pl := ⟨_, rfl⟩
        have hpll : pl.length ≤ 5000 := by
         rw [← hpl2]
         unfold lstAt
         rw [if_neg (by omega)]
         have h1 := prevOf_len (insAt cd) L k' (L.length + p - L.length)
         have h2 : (if ((L.length + p - L.length : Nat) : Int) ∈ l then [(k' : Int)] else []).length ≤ 1 := by split <;> simp
         rw [List.length_append]
         omega
        rw [hpl2] at hop HLA HPL
        obtain ⟨pA, pcap, hvp⟩ : ∃ pA pcap, val2 (L.length + p) = .slice pA pl.length pcap := by
         rcases hop.2 with ⟨h, h'⟩ | ⟨g, cap', cur, h, _⟩
         ·exact ⟨_, _, by rw [h, h']⟩
         ·exact ⟨_, _, h⟩
        have HVP := Lib.hid hvp
        have q0 : X.cell? ⟨gb, 1, none⟩ = some (.slice (some ⟨pg, 0, none⟩) L.length L.length) := by simp [World.cell?, hBX.gg]
        have q1 : X.cell? ⟨pg, p, none⟩ = some (.slice pA pl.length pcap) := by rw [hBX.prow.cellAt _ (by omega), List.getElem?_map, List.getElem?_range n2, ← hvp]; rfl
        have q2 : X.frozen? ⟨pg, p, none⟩ = false := hBX.prow.frozenAt _
        have HNp := Lib.hid (show some pg ≠ Value.ownBlock (.slice pA pl.length pcap) from fun e' => by
         rw [← hvp] at e'
         exact own_ne hop hBX.prow (by decide) pg e'.symm rfl)
        have HNb := Lib.hid (show some gb ≠ Value.ownBlock (.slice pA pl.length pcap) from fun e' => by
         rw [← hvp] at e'
         have := (hop.lt gb e'.symm).1
         have := hBX.gV
         omega)
        rw [hvp] at hop
        have HOP := Lib.hid hop
        have HBX := Lib.hid hBX
        have HIX := Lib.hid hIX
        have HDX := Lib.hid hDX
        have hpgs : pg < X.heap.size := hBX.rg.2.1.2
        have hgbs : gb < X.heap.size := by have := hBX.sz; have := hBX.gV; omega
        have hVX := hBX.sz
        clear hX hBX hIX hDX hop hvp hval2 hpl hpl2 hc1 hf1 hob hgrow hown' HN HI HD HCN HOK HVL HOA HNg hg0 hVw bn bf l2 x1 hsb
        have FIN := Lib.hid (show ∀ (W2 : World) (v2 : Value), ((X.alloc (.cells #[.int .i64 (k' : Int)] 3)).drew).grownBy W2 (Value.slice pA pl.length pcap).ownBlock → W2.ownsRow V.heap.size 3 1 v2 (pl.length + 1) (ivs pl ++ [.int .i64 (k' : Int)]) → (v2.ownBlock = (Value.slice pA pl.length pcap).ownBlock ∨ v2.ownBlock = some ((X.alloc (.cells #[.int .i64 (k' : Int)] 3)).drew).heap.size) →
          ∃ val3, BN V (W2.setCell ⟨pg, p, none⟩ v2) gb nb g gcap pg L val3 (lstAt (insAt cd) L k' (l ++ [(p : Int)])) ∧ Ints (W2.setCell ⟨pg, p, none⟩ v2) (.slice (some ⟨sb, so, none⟩) S.length scap) S ∧ ∀ q, (Value.slice (some ⟨sb, so, none⟩) S.length scap).ownBlock = some q → q ≠ g ∧ q ≠ pg ∧ ∀ i, i < 2 * L.length → (val3 i).ownBlock ≠ some q from fun W2 v2 hg2 ho2 hb2 => by
         have bD : Below X.heap.size X ((X.alloc (.cells #[.int .i64 (k' : Int)] 3)).drew) := Below.drew ((Below.refl _ _).alloc (Nat.le_refl _) _)
         have h3 := HBX.out.app (x := 0) (i := L.length + p) (y := (k' : Int)) (by omega) bD (by rw [HVP.out]; exact hg2) (by rw [HPL.out]; simpa [ivs] using ho2) (by rw [HVP.out]; exact hb2) pg p (.inr ⟨by omega, rfl, by omega⟩)
         rw [HPL.out] at h3
         refine ⟨_, by rw [HLA.out]; exact h3, ((HIX.out.below bD).grown hg2 (fun q hq hq2 => (HDX.out q hq).2.2 (L.length + p) (by omega) (by rw [HVP.out]; exact hq2))).grown (grown_setCell W2 pg p v2) (fun q hq hq2 => (HDX.out q hq).2.1 (by simpa using hq2.symm)), fun q hq => ?_⟩
         obtain ⟨d1, d2, d3⟩ := HDX.out q hq
         refine ⟨d1, d2, fun i hi => ?_⟩
         unfold upd
         split
         ·rcases hb2 with h | h
          ·rw [h, ← HVP.out]; exact d3 _ (by omega)
          ·rw [h]
           intro e'
           have hlt3 : q < X.heap.size := by
            obtain ⟨A5, cap5, hv5, _, _, h5⟩ := HIX.out
            cases hv5
            obtain ⟨b5, o5, hA5, hlt5, _⟩ := h5 (by omega)
            cases hA5
            simp [Value.ownBlock] at hq
            omega
           have e2 : (X.alloc (.cells #[.int .i64 (k' : Int)] 3)).drew.heap.size = X.heap.size + 1 := by show (X.alloc _).heap.size = _; simp
           rw [e2] at e'
           cases e'
           omega
         ·exact d3 i hi)
        clear HIX HDX HBX HLA HPL HVP
        refine wp_region_noPanic ?_
        go_region_law (refine step_append_own rfl (.tmp 155) (.tmp 157) 62 rfl V.heap.size 3 iI (.int .i64 0) 1 8 Tryd.underlying62 hiI hI0 hI1 hI2 rfl (by decide) (.slice pA pl.length pcap) pl.length (ivs pl) (by simp [Act.eval, Act.put]) (World.ownsRow.alloc (World.ownsRow.drew HOP.out) _) ⟨X.heap.size, 0, none⟩ 1 1 [.int .i64 (k' : Int)] (by simp [Act.eval, Act.put]) rfl (cell_one_new _ _ _) (by simp [Value.oneCell']) (by unfold maxLen; omega) (by omega) (by show V.heap.size ≤ (World.alloc _ _).heap.size; rw [World.size_alloc]; omega) ?_; intro v' W2 hown2 hgrow2 hat2; obtain ⟨g2, cap2, rfl⟩ := ownsRow_succ hown2; have hc1 := hgrow2.cell (a := ⟨pg, p, none⟩) (v := .slice pA pl.length pcap) (by simp [go_sem, *]) HNp.out; have hc2 := hgrow2.cell (a := ⟨gb, 1, none⟩) (v := .slice (some ⟨pg, 0, none⟩) L.length L.length) (by simp [go_sem, *]) HNb.out; have hf1 : W2.frozen? ⟨pg, p, none⟩ = false := (World.frozen?_of_block (hgrow2.block pg (by simp; omega) HNp.out)).trans (by simp [go_sem, *]))
        all_goals
         obtain ⟨val3, f1, f2, f3⟩ := FIN.out W2 _ hgrow2 hown2 hat2
         have F1 := Lib.hid f1
         have F2 := Lib.hid f2
         have F3 := Lib.hid f3
         clear f1 f2 f3 hgrow2 hown2 hat2 hc1 hc2 hf1
         refine NoPanic.normal ?_
         go_wp2_with fail
         go_roundw
         case rel =>
          refine ⟨j + 1, val3, by omega, by go_num, ?_, F2.out, F3.out⟩
          rw [HNT.out, HAD.out]
          exact F1.out
         case measure => simp [intOf]; omega
      ·obtain rfl : j = S.length := by omega
       have dl2 : decide ((S.length : Int) < (S.length : Int)) = false := by simp
       rw [List.take_length] at HN
       go_wp2_with fail
       go_roundw
       case rel =>
        refine ⟨k' + 1, val, by omega, by go_num, ?_⟩
        rw [← lstAt_step, HNX.out]
        exact HN.out
       case measure => simp [intOf]; omega
    ·obtain rfl : k' = L.length := by omega
     have dl : decide ((L.length : Int) < (L.length : Int)) = false := by simp
     have hB3 := B3.out.size
     have sR : w.heap.size + 1 < V.heap.size := glt_of_block KR3.out
     have rq : w.heap.size + 1 ≠ gb := by omega
     have kR := (HN.out.blk (w.heap.size + 1) sR rq (by omega)).trans KR3.out
     have r0 : wr.cell? ⟨w.heap.size + 1, 0, none⟩ = some (.slice none 0 0) := by simp [World.cell?, kR]
     have r1 : wr.cell? ⟨w.heap.size + 1, 1, none⟩ = some (.slice none 0 0) := by simp [World.cell?, kR]
     have f0 : wr.frozen? ⟨w.heap.size + 1, 0, none⟩ = false := by simp [World.frozen?, kR]
     have f1 : wr.frozen? ⟨w.heap.size + 1, 1, none⟩ = false := by simp [World.frozen?, kR]
     go_wp2_with fail
     have G1 : wr.grownBy ((wr.setCell ⟨w.heap.size + 1, 0, none⟩ (.slice (some ⟨g, 0, none⟩) L.length gcap)).setCell ⟨w.heap.size + 1, 1, none⟩ (.slice (some ⟨pg, 0, none⟩) L.length L.length)) (some (w.heap.size + 1)) := by
      refine ⟨rfl, rfl, rfl, by simp, fun j _ hne => ?_⟩
      have : j ≠ w.heap.size + 1 := fun e => hne (by rw [e])
      rw [Below.heap_setCell _ _ _ _ this, Below.heap_setCell _ _ _ _ this]
     have hgr := HN.out.graph G1 sR
     have HNW := Lib.hid (show NewG w.heap.size (.slice (some ⟨g, 0, none⟩) L.length gcap) (.slice (some ⟨pg, 0, none⟩) L.length L.length) from by
      have h1 := HN.out.rg
      have h2 := B3.out.size
      refine ⟨fun q hq => ?_, fun q hq => ?_⟩
      ·have e : g = q := by simpa [Value.ownBlock] using hq
       omega
      ·have e : pg = q := by simpa [Value.ownBlock] using hq
       omega)
     have hBB : Below w.heap.size w ((wr.setCell ⟨w.heap.size + 1, 0, none⟩ (.slice (some ⟨g, 0, none⟩) L.length gcap)).setCell ⟨w.heap.size + 1, 1, none⟩ (.slice (some ⟨pg, 0, none⟩) L.length L.length)) := by
      refine Below.setCell (Below.setCell ⟨HN.out.os.trans B3.out.os, HN.out.tape.trans B3.out.tape, HN.out.output.trans B3.out.output, Nat.le_trans B3.out.size HN.out.sz, fun j hj => ?_⟩ ?_ _) ?_ _
      ·exact (HN.out.blk j (by omega) (by omega) (by omega)).trans (B3.out.block j hj)
      ·simp
      ·simp
     refine bodyPost_ret (v := .tuple #[.agg #[.slice (some ⟨g, 0, none⟩) L.length gcap, .slice (some ⟨pg, 0, none⟩) L.length L.length], .int .i64 (-1), .int .i64 0]) (by simp [results, Tryd.results30, go_sem, *]) rfl (.inr (.inr (.inr ⟨HGd.out, k, e, D, L, _, _, rfl, he, HRI.out, ?_, rfl, hgr.1, hgr.2, hBB, HNW.out⟩)))
     rw [← HMN.out]; exact HLE.out

theorem build_any (cv ev : Value) (sh lk : Int) (n : Nat) (cd : Nat → Int) (ents : List Ent) (task : Int) (w : World) (T : Tab w) (HW : Words w cv n cd) (HE : Ents w ev ents) :
  Calls Tryd.prog 30 #[.agg #[cv, ev, .int .i64 sh, .int .i64 lk], .int .i64 task] w fun e w' =>
   (¬ GoodI n cd ents sh lk ∧ e = .returned (.tuple #[.agg #[.slice none 0 0, .slice none 0 0], .int .i64 (-1), .int .i64 3]) ∧ Below w.heap.size w w') ∨
   (GoodI n cd ents sh lk ∧ (task < 0 ∨ (ents.length : Int) ≤ task) ∧ e = .returned (.tuple #[.agg #[.slice none 0 0, .slice none 0 0], .int .i64 (-1), .int .i64 2]) ∧ Below w.heap.size w w') ∨
   (GoodI n cd ents sh lk ∧ ∃ (k : Nat) (en : Ent) (D : List Int) (bad : Int), task = (k : Int) ∧ ents[k]? = some en ∧ 0 ≤ bad ∧ RInv (insAt cd) en.st en.en D [] bad ∧ e = .returned (.tuple #[.agg #[.slice none 0 0, .slice none 0 0], .int .i64 bad, .int .i64 10]) ∧ Below w.heap.size w w') ∨
   (GoodI n cd ents sh lk ∧ ∃ (k : Nat) (en : Ent) (D : List Int) (L : List (Int × Int)) (bv pv : Value), task = (k : Int) ∧ ents[k]? = some en ∧ RInv (insAt cd) en.st en.en D [] (-1) ∧ blk (insAt cd) en.st D (en.en - en.st).toNat = L ∧ e = .returned (.tuple #[.agg #[bv, pv], .int .i64 (-1), .int .i64 0]) ∧ Blks w' bv (gBlks (insAt cd) L) ∧ Lls w' pv (gPrev (insAt cd) L) ∧ Below w.heap.size w w') :=
 (build_new cv ev sh lk n cd ents task w T HW HE).mono fun e w' h => by
  rcases h with h | h | h | ⟨hg, k, en, D, L, bv, pv, h1, h2, h3, h4, h5, h6, h7, h8, _⟩
  ·exact .inl h
  ·exact .inr (.inl h)
  ·exact .inr (.inr (.inl h))
  ·exact .inr (.inr (.inr ⟨hg, k, en, D, L, bv, pv, h1, h2, h3, h4, h5, h6, h7, h8⟩))

end Go.Proofs.YtebklpnkcicpjaaDoor


