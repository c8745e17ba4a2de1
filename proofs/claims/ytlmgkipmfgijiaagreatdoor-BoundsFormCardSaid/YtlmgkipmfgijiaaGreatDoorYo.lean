/-
  What is proved here: parts yPlain, dDef, dRef, dMem, dCyc, dCyc2, dCnt, dPas, dPas2, dWr, dCoP, dEq, dCo, dPm.
-/
import Derived.Test.YtlmgkipmfgijiaaGreatDoorYa
import Derived.Test.YtlmgkipmfgijiaaGreatDoorYe
import Derived.Test.YtlmgkipmfgijiaaGreatDoorYf
import Derived.Laws.EntriesVeiled
namespace Go.Proofs.YtlmgkipmfgijiaaGreatDoor
set_option linter.unusedVariables false
set_option linter.unusedSimpArgs false
set_option maxRecDepth 100000
set_option maxHeartbeats 8000000
section
inductive Rb (nx : Nat → List Nat) (bu : Nat → Prop) (hd b : Nat) : Nat → Prop
 | self : Rb nx bu hd b b
 | step {x y : Nat} : Rb nx bu hd b x → y ∈ nx x → y ≠ hd → bu y → Rb nx bu hd b y
def Ug (nx : Nat → List Nat) (bu : Nat → Prop) (hd b : Nat) : Prop := ∃ x, Rb nx bu hd b x ∧ b ∈ nx x
def Qm (bu : Nat → Prop) (hd b : Nat) (S : Nat → Prop) (y : Nat) : Prop := y ≠ b ∧ (y ≠ hd → bu y → S y)
theorem Qm.more {bu : Nat → Prop} {hd b : Nat} {S S' : Nat → Prop} {y : Nat} (h : Qm bu hd b S y) (hg : ∀ x, S x → S' x) : Qm bu hd b S' y := ⟨h.1, fun h1 h2 => hg y (h.2 h1 h2)⟩
structure MJ (nx : Nat → List Nat) (bu : Nat → Prop) (hd b mW : Nat) (S S' : Nat → Prop) (r : Bool) : Prop where
 grow : ∀ x, S x → S' x
 sub : ∀ x, S' x → S x ∨ bu x
 yes : r = true → ∀ Q : Nat → Prop, Q mW → (∀ x, Q x → ∀ y ∈ nx x, y ≠ hd → bu y → Q y) → ∃ x, Q x ∧ b ∈ nx x
 no : r = false → ∀ x, (x = mW ∨ S' x ∧ ¬ S x) → ∀ y ∈ nx x, Qm bu hd b S' y
structure mC (nx : Nat → List Nat) (bu : Nat → Prop) (hd b : Nat) (ts : List Nat) (S S' : Nat → Prop) : Prop where
 grow : ∀ x, S x → S' x
 sub : ∀ x, S' x → S x ∨ bu x
 ts : ∀ y ∈ ts, Qm bu hd b S' y
 no : ∀ x, S' x ∧ ¬ S x → ∀ y ∈ nx x, Qm bu hd b S' y
section
variable {nx : Nat → List Nat} {bu : Nat → Prop} {hd b mW y : Nat} {ts : List Nat} {S S' MI : Nat → Prop}
theorem mC.nil : mC nx bu hd b [] S S := ⟨fun _ h => h, fun _ h => .inl h, by simp, fun x h => absurd h.1 h.2⟩
theorem mC.skip (h : mC nx bu hd b ts S S') (hb : y ≠ b) (hs : y = hd ∨ ¬ bu y ∨ S' y) : mC nx bu hd b (ts ++ [y]) S S' := by
 refine ⟨h.grow, h.sub, fun z hz => ?_, h.no⟩
 rcases List.mem_append.1 hz with hz | hz
 ·exact h.ts z hz
 ·obtain rfl : z = y := by simpa using hz
  refine ⟨hb, fun h1 h2 => ?_⟩
  rcases hs with h3 | h3 | h3
  ·exact absurd h3 h1
  ·exact absurd h2 h3
  ·exact h3
theorem mC.into (h : mC nx bu hd b ts S S') (hb : y ≠ b) (hi : bu y) (k : MJ nx bu hd b y (fun x => S' x ∨ x = y) MI false) : mC nx bu hd b (ts ++ [y]) S MI := by
 have hg : ∀ x, S' x → MI x := fun x hx => k.grow x (.inl hx)
 refine ⟨fun x hx => hg x (h.grow x hx), fun x hx => ?_, fun z hz => ?_, fun x hx z hz => ?_⟩
 ·rcases k.sub x hx with (h1 | rfl) | h1
  ·exact h.sub x h1
  ·exact .inr hi
  ·exact .inr h1
 ·rcases List.mem_append.1 hz with hz | hz
  ·exact (h.ts z hz).more hg
  ·obtain rfl : z = y := by simpa using hz
   exact ⟨hb, fun _ _ => k.grow z (.inr rfl)⟩
 ·by_cases h1 : S' x
  ·exact (h.no x ⟨h1, hx.2⟩ z hz).more hg
  ·by_cases h2 : x = y
   ·exact k.no rfl x (.inl h2) z hz
   ·exact k.no rfl x (.inr ⟨hx.1, fun h3 => h3.elim h1 h2⟩) z hz
theorem mC.all (h : mC nx bu hd b (nx mW) S S') : MJ nx bu hd b mW S S' false := by
 refine ⟨h.grow, h.sub, fun h => (by cases h), fun _ x hx z hz => ?_⟩
 rcases hx with rfl | hx
 ·exact h.ts z hz
 ·exact h.no x hx z hz
theorem mC.found (h : mC nx bu hd b ts S S') (hb : b ∈ nx mW) : MJ nx bu hd b mW S S' true :=
 ⟨h.grow, h.sub, fun _ Q hQ _ => ⟨mW, hQ, hb⟩, fun h => (by cases h)⟩
theorem mC.yes (h : mC nx bu hd b ts S S') (hy : y ∈ nx mW) (hh : y ≠ hd) (hi : bu y) (k : MJ nx bu hd b y (fun x => S' x ∨ x = y) MI true) : MJ nx bu hd b mW S MI true := by
 refine ⟨fun x hx => k.grow x (.inl (h.grow x hx)), fun x hx => ?_, fun _ Q hQ hc => k.yes rfl Q (hc mW hQ y hy hh hi) hc, fun h => by cases h⟩
 rcases k.sub x hx with (h1 | rfl) | h1
 ·exact h.sub x h1
 ·exact .inr hi
 ·exact .inr h1
theorem MJ.cyc {r : Bool} (h : MJ nx bu hd b b (fun _ => False) S' r) : r = true ↔ Ug nx bu hd b := by
 constructor
 ·intro hr
  exact h.yes hr (Rb nx bu hd b) .self fun x hx y hy h1 h2 => .step hx hy h1 h2
 ·rintro ⟨x, hx, hb⟩
  cases r with
  | true => rfl
  | false =>
   have key : ∀ z, Rb nx bu hd b z → z = b ∨ S' z := fun z hz => by
    induction hz with
    | self => exact .inl rfl
    | @step x y _ hy h1 h2 ih => exact .inr ((h.no rfl x (ih.imp_right fun h => ⟨h, id⟩) y hy).2 h1 h2)
   have := h.no rfl x ((key x hx).imp_right fun h => ⟨h, id⟩) b hb
   exact absurd rfl this.1
end
end
section
open Go.RowKit
def s8 (w : World) (v : Value) (l : List Bool) : Prop :=
 ∃ A cap, v = .slice A l.length cap ∧ l.length ≤ cap ∧ cap ≤ maxLen ∧ (0 < l.length → ∃ b off, A = some ⟨b, off, none⟩ ∧ b < w.heap.size ∧ ∀ k, k < l.length → w.cell? ⟨b, off + k, none⟩ = some (.bool (l.getD k false)))
theorem s8.below {w w' : World} {v : Value} {l : List Bool} (h : s8 w v l) (hb : Below w.heap.size w w') : s8 w' v l := by
 obtain ⟨A, cap, h1, h2, h3, h4⟩ := h
 refine ⟨A, cap, h1, h2, h3, fun h0 => ?_⟩
 obtain ⟨b, off, e, hl, hc⟩ := h4 h0
 exact ⟨b, off, e, by have := hb.size; omega, fun k hk => (hb.cell (p := ⟨b, _, none⟩) hl).trans (hc k hk)⟩
theorem qB {w : World} {B : Nat} {v : Value} {l : List Bool} (h : w.ownsRow B 4 1 v l.length (qI l)) : s8 w v l := by
 rcases h.2 with ⟨rfl, h0⟩ | ⟨g, cap', cur, rfl, h1, h2, h3, h4, _, _⟩
 ·exact ⟨none, 0, by rw [h0], by omega, by unfold maxLen; omega, fun h => by omega⟩
 ·refine ⟨_, cap', rfl, h3, h4, fun _ => ⟨g, 0, rfl, (Array.getElem?_eq_some_iff.1 h2).1, fun k hk => ?_⟩⟩
  rw [Nat.zero_add, h.cellAt _ agO, qI, List.getElem?_map, List.getD, List.getElem?_eq_getElem hk]
  rfl
def EI (c : Ins) : List Value := [.int .u8 c.op, .int .i64 c.a, .int .i64 c.b, .int .i64 c.c, .int .i64 c.aP]
def Ql (w : World) (v : Value) (l : List Ins) : Prop :=
 ∃ A cap, v = .slice A l.length cap ∧ l.length ≤ cap ∧ cap ≤ maxLen ∧ (0 < l.length → ∃ b off, A = some ⟨b, off, none⟩ ∧ b < w.heap.size ∧ ∀ k c, l[k]? = some c → ∀ j u, (EI c)[j]? = some u → w.cell? ⟨b, off + k * 5 + j, none⟩ = some u)
def I1 (w : World) (v : Value) (C : List (List Ins)) : Prop :=
 ∃ A cap, v = .slice A C.length cap ∧ C.length ≤ cap ∧ cap ≤ maxLen ∧ (0 < C.length → ∃ b off, A = some ⟨b, off, none⟩ ∧ b < w.heap.size ∧ ∀ k x, C[k]? = some x → ∃ u, w.cell? ⟨b, off + k, none⟩ = some u ∧ Ql w u x)
theorem Ql.below {w w' : World} {v : Value} {l : List Ins} (h : Ql w v l) (hb : Below w.heap.size w w') : Ql w' v l := by
 obtain ⟨A, cap, h1, h2, h3, h4⟩ := h
 refine ⟨A, cap, h1, h2, h3, fun h0 => ?_⟩
 obtain ⟨b, off, e, hl, hc⟩ := h4 h0
 exact ⟨b, off, e, by have := hb.size; omega, fun k c hk j u hu => (hb.cell (p := ⟨b, _, none⟩) hl).trans (hc k c hk j u hu)⟩
theorem I1.below {w w' : World} {v : Value} {C : List (List Ins)} (h : I1 w v C) (hb : Below w.heap.size w w') : I1 w' v C := by
 obtain ⟨A, cap, h1, h2, h3, h4⟩ := h
 refine ⟨A, cap, h1, h2, h3, fun h0 => ?_⟩
 obtain ⟨b, off, e, hl, hc⟩ := h4 h0
 exact ⟨b, off, e, by have := hb.size; omega, fun k x hk => by
  obtain ⟨u, h5, h6⟩ := hc k x hk
  exact ⟨u, (hb.cell (p := ⟨b, _, none⟩) hl).trans h5, h6.below hb⟩⟩
structure Ez (w : World) (sp : Nat) (bv pv cv rv dv : Value) (G : List aZ) (C : List (List Ins)) (rel : List Bool) (D : List Int) : Prop where
 blk : w.heap[sp]? = some (.cells #[bv, pv, cv, rv, dv] 159 (0, 0))
 Ie : fF w bv G
 Mq : I1 w cv C
 rls : s8 w rv rel
 dom : Ints w dv D
 lc : C.length = G.length
 lr : rel.length = G.length
 ld : D.length = G.length
section
variable {w w' : World} {sp : Nat} {bv pv cv rv dv : Value} {G : List aZ} {C : List (List Ins)} {rel : List Bool} {D : List Int}
theorem Ez.below (h : Ez w sp bv pv cv rv dv G C rel D) (hb : Below w.heap.size w w') : Ez w' sp bv pv cv rv dv G C rel D :=
 ⟨(hb.block sp (Array.getElem?_eq_some_iff.1 h.blk).1).trans h.blk, h.Ie.below hb, h.Mq.below hb, h.rls.below hb, h.dom.below hb, h.lc, h.lr, h.ld⟩
theorem Ez.cells (h : Ez w sp bv pv cv rv dv G C rel D) : w.cell? ⟨sp, 0, none⟩ = some bv ∧ w.cell? ⟨sp, 1, none⟩ = some pv ∧ w.cell? ⟨sp, 2, none⟩ = some cv ∧ w.cell? ⟨sp, 3, none⟩ = some rv ∧ w.cell? ⟨sp, 4, none⟩ = some dv ∧ sp < w.heap.size :=
 ⟨by simp [World.cell?, h.blk], by simp [World.cell?, h.blk], by simp [World.cell?, h.blk], by simp [World.cell?, h.blk], by simp [World.cell?, h.blk], (Array.getElem?_eq_some_iff.1 h.blk).1⟩
end
def eL (n : Nat) (l : List Int) : Bool := l.all fun x => decide (0 ≤ x) && decide (x < (n : Int))
theorem oN (v : Value) (l : List Int) (n q : Nat) (w : World) (HI : Ints w v l) (hq : q < w.heap.size) (hc : w.cell? ⟨q, 0, none⟩ = some (.int .i64 (n : Int))) :
  Calls Tryz.prog 76 #[v, .pointer (some ⟨q, 0, none⟩)] w fun e w' => e = .returned (.bool (eL n l)) ∧ w = w' := by
 obtain ⟨A, cap, rfl, hc1, hc2⟩ := HI.slice
 have HH := ahM HI
 obtain ⟨m, hm⟩ : ∃ m, l.length = m := ⟨_, rfl⟩
 rw [hm] at hc1 ⊢
 have HM := ahM hm
 obtain ⟨kn, hkn⟩ : ∃ b, eL n l = b := ⟨_, rfl⟩
 rw [hkn]
 have HK := ahM hkn
 clear hm HI hkn
 go_enter Tryz.func76, Tryz.ntmps76
 go_upto_region 2 with fail
 go_loopw [8] (fun a8 wr => ∃ k : Nat, k ≤ m ∧ a8 = .int .i64 (k : Int) ∧ w = wr ∧ ∀ x ∈ l.take k, 0 ≤ x ∧ x < (n : Int)) (fun a8 _ => m - (intOf a8).toNat)
 case atStart => exact ⟨0, Nat.zero_le _, rfl, rfl, by simp⟩
 case round =>
  obtain ⟨k, hk, rfl, rfl, hal⟩ := hrel
  have HAL := ahM hal
  clear hal
  by_cases hlt : k < m
  ·have dl : decide ((k : Int) < (m : Int)) = true := decide_eq_true agO
   obtain ⟨x, b, o, hx, e, hb, c1⟩ := (HM.out ▸ HH.out : Ints w (.slice A l.length cap) l).at_ (Below.refl _ _) (j := k) ahm
   subst e
   have HX := ahM (show l.take (k + 1) = l.take k ++ [x] by rw [List.take_add_one, hx]; rfl)
   have U5 := ahM (List.mem_of_getElem? hx)
   clear hx
   by_cases h0 : x < 0
   ·have d0 : decide (x < 0) = true := decide_eq_true h0
    have HF := ahM (show kn = false by
     rw [← HK.out]; unfold eL
     exact List.all_eq_false.2 ⟨x, U5.out, by simp; omega⟩)
    clear h0
    go_wp2_with fail
    go_ret
    exact ⟨by rw [HF.out]; rfl, rfl⟩
   ·have d0 : decide (x < 0) = false := decide_eq_false h0
    by_cases h1 : x < (n : Int)
    ·have d1 : decide ((n : Int) ≤ x) = false := decide_eq_false agO
     have y8 := ahM (show ∀ y ∈ l.take (k + 1), 0 ≤ y ∧ y < (n : Int) from fun y hy => by
      rw [HX.out] at hy
      rcases List.mem_append.1 hy with hy | hy
      ·exact HAL.out y hy
      ·obtain rfl : y = x := by simpa using hy
       omega)
     clear h0
     go_wp2_with fail
     go_roundw
     case rel => exact ⟨k + 1, by omega, by go_num, (by trivial), y8.out⟩
     case measure => simp [intOf]; omega
    ·have d1 : decide ((n : Int) ≤ x) = true := decide_eq_true agO
     have HF := ahM (show kn = false by
      rw [← HK.out]; unfold eL
      exact List.all_eq_false.2 ⟨x, U5.out, by simp; omega⟩)
     clear h0
     go_wp2_with fail
     go_ret
     exact ⟨by rw [HF.out]; rfl, rfl⟩
  ·obtain rfl : m = k := by omega
   have dl : decide ((m : Int) < (m : Int)) = false := by simp
   have HT := ahM (show kn = true by
    have h2 := HAL.out
    rw [List.take_of_length_le (by rw [HM.out]; exact Nat.le_refl _)] at h2
    rw [← HK.out]; unfold eL
    exact List.all_eq_true.2 fun x hx => by have := h2 x hx; simp; omega)
   go_wp2_with fail
   go_ret
   exact ⟨by rw [HT.out]; rfl, rfl⟩
end
section
open Go.RowKit
def oI (n : Nat) (x : Lp) : Bool := eL n [x.h] && eL n x.bl && eL n x.la
theorem mN {w : World} {sp : Nat} {bv pv cv rv dv : Value} {G : List aZ} {C : List (List Ins)} {rel : List Bool} {D : List Int} (HS : Ez w sp bv pv cv rv dv G C rel D) (hn : G.length ≤ 5000) (x : Lp) (p : Int) (v1 v2 : Value) (H1 : Ints w v1 x.bl) (H2 : Ints w v2 x.la) :
  Calls Tryz.prog 45 #[.pointer (some ⟨sp, 0, none⟩), .agg #[.int .i64 x.h, v1, v2, .int .i64 p]] w fun e w' => e = .returned (.bool (oI G.length x)) ∧ Below w.heap.size w w' := by
 obtain ⟨A, cap, rfl, hc1, hc2⟩ := HS.Ie.slice
 obtain ⟨A1, jG, rfl, -, -⟩ := H1.slice
 obtain ⟨A2, fR, rfl, -, -⟩ := H2.slice
 have WR : ∀ (fn : Fn) (first cap : Array Value) (w : World), (Instr.makeFunc fn first cap).run Tryz.prog w = .ok (.func fn first cap) w := fun _ _ _ _ => rfl
 have he : ∀ (args : Array Value) (w : World), (callFunc 76 args).run Tryz.prog w = .ok (.enter 76 args) w := fun _ _ => by kernel_rfl
 obtain ⟨xh, qE⟩ : ∃ h, x.h = h := ⟨_, rfl⟩
 obtain ⟨n1, hn1⟩ : ∃ n, x.bl.length = n := ⟨_, rfl⟩
 obtain ⟨n2, hn2⟩ : ∃ n, x.la.length = n := ⟨_, rfl⟩
 obtain ⟨gn, hgn⟩ : ∃ n, G.length = n := ⟨_, rfl⟩
 obtain ⟨R, hR⟩ : ∃ r, oI G.length x = r := ⟨_, rfl⟩
 obtain ⟨t0, t1, -, -, -, t5⟩ := HS.cells
 rw [hgn] at t0 hc1
 rw [hR, qE, hn1, hn2]
 have MV := ahM hR
 have HX := ahM qE
 have OZ := ahM hn1
 have A6 := ahM hn2
 have HG := ahM hgn
 have TJ := ahM (show Ints w (.slice A1 n1 jG) x.bl by rw [← hn1]; exact H1)
 have YO := ahM (show Ints w (.slice A2 n2 fR) x.la by rw [← hn2]; exact H2)
 obtain ⟨W1, hW1⟩ : ∃ W, w.alloc (.cells #[.int .i64 xh, .slice A1 n1 jG, .slice A2 n2 fR, .int .i64 p] 46) = W := ⟨_, rfl⟩
 obtain ⟨q3, hq3⟩ : ∃ q, w.heap.size = q := ⟨_, rfl⟩
 have b1 : Below w.heap.size w W1 := hW1 ▸ (Below.refl _ _).alloc (Nat.le_refl _) _
 have k3 : W1.heap[q3]? = some (.cells #[.int .i64 xh, .slice A1 n1 jG, .slice A2 n2 fR, .int .i64 p] 46 (0, 0)) := by rw [← hq3, ← hW1]; exact heap_alloc_new _ _
 have u0 : W1.cell? ⟨sp, 0, none⟩ = some (.slice A gn cap) := (b1.cell (p := ⟨sp, 0, none⟩) t5).trans t0
 have su : sp < W1.heap.size := by have := b1.size; omega
 have B1 := ahM b1
 have K3 := ahM k3
 obtain ⟨W2, hW2⟩ : ∃ W, W1.alloc (.cells #[.int .i64 (gn : Int)] 3) = W := ⟨_, rfl⟩
 obtain ⟨q5, hq5⟩ : ∃ q, W1.heap.size = q := ⟨_, rfl⟩
 have b2 : Below W1.heap.size W1 W2 := hW2 ▸ (Below.refl _ _).alloc (Nat.le_refl _) _
 have k5 : W2.heap[q5]? = some (.cells #[.int .i64 (gn : Int)] 3 (0, 0)) := by rw [← hq5, ← hW2]; exact heap_alloc_new _ _
 have Wh := (b2.block q3 (Array.getElem?_eq_some_iff.1 k3).1).trans k3
 obtain ⟨c0, c1, c2, -, c4⟩ := cJ Wh
 have B2 := ahM (b1.trans (b2.mono b1.size))
 obtain ⟨Y, hY⟩ : ∃ W, W2.alloc (.cells #[.int .i64 xh] 3) = W := ⟨_, rfl⟩
 obtain ⟨q7, hq7⟩ : ∃ q, W2.heap.size = q := ⟨_, rfl⟩
 have b3 : Below W2.heap.size W2 Y := hY ▸ (Below.refl _ _).alloc (Nat.le_refl _) _
 have k7 : Y.heap[q7]? = some (.cells #[.int .i64 xh] 3 (0, 0)) := by rw [← hq7, ← hY]; exact heap_alloc_new _ _
 have Wb := (b3.block q5 (Array.getElem?_eq_some_iff.1 k5).1).trans k5
 have Zz := (b3.block q3 c4).trans Wh
 obtain ⟨d0, d1, d2, -, d4⟩ := cJ Zz
 have BY := ahM (B2.out.trans (b3.mono B2.out.size))
 have c5 : Y.cell? ⟨q5, 0, none⟩ = some (.int .i64 (gn : Int)) := by simp [World.cell?, Wb]
 have s5 : q5 < Y.heap.size := (Array.getElem?_eq_some_iff.1 Wb).1
 have MX := ahM (oN (.slice (some ⟨q7, 0, none⟩) 1 1) [xh] gn q5 Y ⟨_, 1, rfl, by simp, by unfold maxLen; simp, fun _ => ⟨q7, 0, rfl, (Array.getElem?_eq_some_iff.1 k7).1, fun k hk => by
  obtain rfl : k = 0 := by simpa using hk
  simp [World.cell?, k7]⟩⟩ s5 c5)
 have O1 := ahM (oN _ _ gn q5 Y (TJ.out.below BY.out) s5 c5)
 have HK3 := ahM (oN _ _ gn q5 Y (YO.out.below BY.out) s5 c5)
 have wJ := ahM (show R = (eL gn [xh] && eL gn x.bl && eL gn x.la) by rw [← hR, ← qE, ← hgn]; rfl)
 clear hR HS H1 H2 qE hn1 hn2 hgn t0 t1 k3 b1 b2 b3 k5 Wh k7 Wb Zz
 obtain ⟨r1, hr1⟩ : ∃ r, eL gn [xh] = r := ⟨_, rfl⟩
 obtain ⟨r2, hr2⟩ : ∃ r, eL gn x.bl = r := ⟨_, rfl⟩
 obtain ⟨r3, hr3⟩ : ∃ r, eL gn x.la = r := ⟨_, rfl⟩
 rw [hr1] at MX wJ
 rw [hr2] at O1 wJ
 rw [hr3] at HK3 wJ
 clear hr1 hr2 hr3
 go_enter Tryz.func45, Tryz.ntmps45
 rcases r1 with _ | _
 ·go_wp2_with (go_at_call 76; refine MX.out.mono ?_; rintro e w' ⟨rfl, rfl⟩)
  go_ret
  exact ⟨by rw [wJ.out]; rfl, BY.out⟩
 ·rcases r2 with _ | _
  ·go_wp2_with (go_at_call 76; (first | ((with_reducible refine MX.out.mono ?_); rintro e w' ⟨rfl, rfl⟩) | ((with_reducible refine O1.out.mono ?_); rintro e w' ⟨rfl, rfl⟩)))
   go_ret
   exact ⟨by rw [wJ.out]; rfl, BY.out⟩
  ·go_wp2_with (go_at_call 76; (first | ((with_reducible refine MX.out.mono ?_); rintro e w' ⟨rfl, rfl⟩) | ((with_reducible refine O1.out.mono ?_); rintro e w' ⟨rfl, rfl⟩) | ((with_reducible refine HK3.out.mono ?_); rintro e w' ⟨rfl, rfl⟩)))
   go_ret
   exact ⟨by rw [wJ.out]; simp, BY.out⟩
end
section
open Go.RowKit
def gO (n : Nat) (l : List Int) : List Bool := (List.range n).map fun (k : Nat) => decide ((k : Int) ∈ l)
theorem gB (n : Nat) (l : List Int) : (gO n l).length = n := by simp [gO]
theorem FO (n : Nat) : gO n [] = List.replicate n false := by
 apply List.ext_getElem
 ·simp [gO]
 ·intro i h1 h2; simp [gO]
theorem C6 (n : Nat) (l : List Int) (b : Nat) : (gO n l).set b true = gO n (l ++ [(b : Int)]) := by
 apply List.ext_getElem
 ·simp [gO]
 ·intro i h1 h2
  rw [List.getElem_set]
  simp only [gO, List.getElem_map, List.getElem_range, List.mem_append, List.mem_singleton]
  by_cases e : b = i
  ·rw [if_pos e]; simp [e]
  ·rw [if_neg e]
   have : ¬ ((i : Int) = (b : Int)) := by omega
   simp [this]
theorem JR {n : Nat} {l : List Int} {k : Nat} (hk : k < n) : (gO n l).getD k false = decide ((k : Int) ∈ l) := by
 rw [List.getD, gO, List.getElem?_map, List.getElem?_range hk]; rfl
theorem vV (l : List Bool) (k : Nat) (x : Bool) : (qI l).set k (.bool x) = qI (l.set k x) := by simp [qI, List.map_set]
theorem qV {w : World} {B g m cap : Nat} {l : List Bool} (h : w.ownsRow B 4 1 (.slice (some ⟨g, 0, none⟩) m cap) m (qI l)) (hl : l.length = m) {k : Nat} (hk : k < m) : w.cell? ⟨g, k, none⟩ = some (.bool (l.getD k false)) := by
 rw [h.cellAt _ agO, qI, List.getElem?_map, List.getD, List.getElem?_eq_getElem (by omega : k < l.length)]; rfl
theorem pO {w : World} {sp : Nat} {bv pv cv rv dv : Value} {G : List aZ} {C : List (List Ins)} {rel : List Bool} {D : List Int} (HS : Ez w sp bv pv cv rv dv G C rel D) (hn : G.length ≤ 5000) (x : Lp) (p : Int) (v1 v2 : Value) (H1 : Ints w v1 x.bl) (H2 : Ints w v2 x.la) (hk : eL G.length x.bl = true) :
  Calls Tryz.prog 46 #[.pointer (some ⟨sp, 0, none⟩), .agg #[.int .i64 x.h, v1, v2, .int .i64 p]] w fun e w' => ∃ g, e = .returned (.slice (some ⟨g, 0, none⟩) G.length G.length) ∧ w'.ownsRow w.heap.size 4 1 (.slice (some ⟨g, 0, none⟩) G.length G.length) G.length (qI (gO G.length x.bl)) ∧ Below w.heap.size w w' := by
 obtain ⟨A, cap, rfl, hc1, hc2⟩ := HS.Ie.slice
 obtain ⟨A1, jG, rfl, hb1, hb2⟩ := H1.slice
 obtain ⟨A2, fR, rfl, -, -⟩ := H2.slice
 obtain ⟨xh, qE⟩ : ∃ h, x.h = h := ⟨_, rfl⟩
 obtain ⟨n1, hn1⟩ : ∃ n, x.bl.length = n := ⟨_, rfl⟩
 obtain ⟨n2, hn2⟩ : ∃ n, x.la.length = n := ⟨_, rfl⟩
 obtain ⟨bl, hbl⟩ : ∃ l, x.bl = l := ⟨_, rfl⟩
 obtain ⟨gn, hgn⟩ : ∃ n, G.length = n := ⟨_, rfl⟩
 obtain ⟨t0, t1, -, -, -, t5⟩ := HS.cells
 rw [hgn] at t0 hc1 hk hn ⊢
 rw [qE, hn1, hn2]
 rw [hbl] at hk H1 hn1 ⊢
 rw [hbl, hn1] at hb1
 try rw [hn1] at H1
 have HKN := ahM (List.all_eq_true.1 (show (bl.all fun x => decide (0 ≤ x) && decide (x < (gn : Int))) = true from hk))
 have OZ := ahM hn1
 have TJ := ahM H1
 obtain ⟨W1, hW1⟩ : ∃ W, w.alloc (.cells #[.int .i64 xh, .slice A1 n1 jG, .slice A2 n2 fR, .int .i64 p] 46) = W := ⟨_, rfl⟩
 obtain ⟨q3, hq3⟩ : ∃ q, w.heap.size = q := ⟨_, rfl⟩
 have b1 : Below w.heap.size w W1 := hW1 ▸ (Below.refl _ _).alloc (Nat.le_refl _) _
 have k3 : W1.heap[q3]? = some (.cells #[.int .i64 xh, .slice A1 n1 jG, .slice A2 n2 fR, .int .i64 p] 46 (0, 0)) := by rw [← hq3, ← hW1]; exact heap_alloc_new _ _
 have u0 : W1.cell? ⟨sp, 0, none⟩ = some (.slice A gn cap) := (b1.cell (p := ⟨sp, 0, none⟩) t5).trans t0
 have su : sp < W1.heap.size := by have := b1.size; omega
 obtain ⟨i2, hi2, hs0, hs1, hs2⟩ := info_parts vz
 obtain ⟨U1, lm, dM, gr1⟩ := run_make_full (P := Tryz.prog) W1 w.heap.size 55 4 i2 (.bool false) 1 Tryz.underlying55 hi2 hs0 hs1 .i64 .i64 gn ahA agS b1.size
 rw [Nat.mul_one, show (Value.bool false).cells = #[Value.bool false] from rfl, toList_madeCells_one] at dM
 have bU : Below w.heap.size w U1 := b1.grown gr1 b1.size (fun k hk => by cases hk)
 have ZB : U1.heap[q3]? = _ := (gr1.block q3 (Array.getElem?_eq_some_iff.1 k3).1 agT).trans k3
 obtain ⟨c0, c1, c2, -, c4⟩ := cJ ZB
 obtain ⟨g, hg⟩ : ∃ q, W1.heap.size = q := ⟨_, rfl⟩
 rw [hg] at lm dM
 have HR := ahM (show U1.ownsRow w.heap.size 4 1 (.slice (some ⟨g, 0, none⟩) gn gn) gn (qI (gO gn (bl.take 0))) by rw [List.take_zero, FO]; simpa [qI] using dM)
 have BU := ahM bU
 clear HS H1 H2 qE hn1 hn2 hgn t0 t1 t5 b1 k3 bU ZB dM gr1 hk hbl hi2 hs0 hs1 hs2 i2 hg hc1 hc2
 go_enter Tryz.func46, Tryz.ntmps46
 go_upto_region 3 with fail
 clear lm u0 su c0 c1 c2 c4 hW1 hq3
 go_loopw [18] (fun a18 wr => ∃ k : Nat, k ≤ n1 ∧ a18 = .int .i64 (k : Int) ∧ wr.ownsRow w.heap.size 4 1 (.slice (some ⟨g, 0, none⟩) gn gn) gn (qI (gO gn (bl.take k))) ∧ Below w.heap.size w wr) (fun a18 _ => n1 - (intOf a18).toNat)
 case atStart => exact ⟨0, Nat.zero_le _, rfl, HR.out, BU.out⟩
 case round =>
  clear HR BU
  obtain ⟨k, hk, rfl, hr, hb⟩ := hrel
  have HR := ahM hr
  have HB := ahM hb
  by_cases hlt : k < n1
  ·have dl : decide ((k : Int) < (n1 : Int)) = true := decide_eq_true agO
   obtain ⟨y, yb, yo, hy, e, hyb, cy⟩ := (OZ.out ▸ TJ.out : Ints w (.slice A1 bl.length jG) bl).at_ hb (j := k) (by rw [OZ.out]; exact hlt)
   subst e
   have Wp := HKN.out y (List.mem_of_getElem? hy)
   simp only [Bool.and_eq_true, decide_eq_true_eq] at Wp
   obtain ⟨b, rfl⟩ : ∃ b : Nat, y = (b : Int) := ⟨y.toNat, by omega⟩
   have kA : b < gn := by omega
   have ib : (b : Int) < (gn : Int) := Wp.2
   have syb : yb < wr.heap.size := by have := hb.size; omega
   have x1 := qV hr (gB _ _) kA
   have x2 := hr.frozenAt b
   have r1 := (hr.stored b (.bool true)).1
   have sg := (hr.lt g rfl)
   rw [vV, C6, show bl.take k ++ [(b : Int)] = bl.take (k + 1) by rw [List.take_add_one, hy]; rfl] at r1
   have R1 := ahM r1
   have B1 := ahM (hb.setCell (p := ⟨g, b, none⟩) sg.1 (.bool true))
   have sg2 := sg.2
   clear hr hb hy Wp r1 sg
   go_wp2_with fail
   go_roundw
   case rel => exact ⟨k + 1, by omega, by go_num, R1.out, B1.out⟩
   case measure => simp [intOf]; omega
  ·obtain rfl : n1 = k := by omega
   have dl : decide ((n1 : Int) < (n1 : Int)) = false := by simp
   rw [List.take_of_length_le (by rw [OZ.out]; exact Nat.le_refl _)] at hr
   have wq := ahM hr
   clear hr hb
   go_wp2_with fail
   go_ret
   exact ⟨g, rfl, wq.out, HB.out⟩
end
section
open Go.RowKit
def sn (s : List Bool) (x : Nat) : Prop := s.getD x false = true
theorem Fq {s : List Bool} {t : Nat} (ht : t < s.length) : sn (s.set t true) = fun x => sn s x ∨ x = t := by
 funext x
 unfold sn
 by_cases e : x = t
 ·subst e; simp [List.getD, ht]
 ·simp [List.getD, List.getElem?_set_ne (Ne.symm e), e]
theorem pH : ∀ {a b : List Bool}, a.length = b.length → (∀ x, sn b x → sn a x) → unseen a ≤ unseen b
 | [], b, _, _ => by simp [unseen]
 | x :: a, b, hl, hh => by
  cases b with
  | nil => cases hl
  | cons y b =>
   have h1 := pH (a := a) (b := b) ahG fun z hz => by have := hh (z + 1); simpa [sn] using this (by simpa [sn] using hz)
   have h2 := hh 0
   unfold unseen at h1 ⊢
   rw [List.countP_cons, List.countP_cons]
   cases x <;> cases y <;> simp [sn] at h1 h2 ⊢ <;> omega
structure Lz (w wr : World) (q4 q7 q5 q6 q9 q10 sb sp n b hd : Nat) (iv l1 l2 l3 : Value) (s : List Bool) : Prop where
 aC : Below w.heap.size w wr
 k4 : wr.heap[q4]? = some (.cells #[.pointer (some ⟨sp, 0, none⟩)] 117 (0, 0))
 k7 : wr.heap[q7]? = some (.cells #[.int .i64 (b : Int)] 3 (0, 0))
 k5 : wr.heap[q5]? = some (.cells #[.int .i64 (hd : Int), l1, l2, l3] 46 (0, 0))
 k6 : wr.heap[q6]? = some (.cells #[iv] 55 (0, 0))
 k9 : wr.heap[q9]? = some (.cells #[.slice (some ⟨sb, 0, none⟩) n n] 55 (0, 0))
 k10 : wr.heap[q10]? = some (.cells #[.func (.func 100) #[] #[.pointer (some ⟨q4, 0, none⟩), .pointer (some ⟨q7, 0, none⟩), .pointer (some ⟨q5, 0, none⟩), .pointer (some ⟨q6, 0, none⟩), .pointer (some ⟨q9, 0, none⟩), .pointer (some ⟨q10, 0, none⟩)]] 155 (0, 0))
 row : wr.ownsRow w.heap.size 4 1 (.slice (some ⟨sb, 0, none⟩) n n) n (qI s)
 len : s.length = n
section
variable {w wr : World} {q4 q7 q5 q6 q9 q10 sb sp n b hd : Nat} {iv l1 l2 l3 : Value} {s : List Bool}
theorem Lz.set (h : Lz w wr q4 q7 q5 q6 q9 q10 sb sp n b hd iv l1 l2 l3 s) (t : Nat) : Lz w (wr.setCell ⟨sb, t, none⟩ (.bool true)) q4 q7 q5 q6 q9 q10 sb sp n b hd iv l1 l2 l3 (s.set t true) := by
 have keep : ∀ (q : Nat) (cs : Array Value) (t' : TypeId) (fr : Nat × Nat), wr.heap[q]? = some (.cells cs t' fr) → t' ≠ 4 → (wr.setCell ⟨sb, t, none⟩ (.bool true)).heap[q]? = some (.cells cs t' fr) := fun q cs t' fr hq ht => by
  rw [Below.heap_setCell _ _ _ _ (dX hq h.row ht ∘ fun e => by rw [e]; rfl)]; exact hq
 have r := (h.row.stored t (.bool true)).1
 rw [vV] at r
 exact ⟨h.aC.setCell (p := ⟨sb, t, none⟩) (h.row.lt sb rfl).1 _, keep _ _ _ _ h.k4 agQ, keep _ _ _ _ h.k7 agQ, keep _ _ _ _ h.k5 agQ, keep _ _ _ _ h.k6 agQ, keep _ _ _ _ h.k9 agQ, keep _ _ _ _ h.k10 agQ, r, by simp [h.len]⟩
theorem Lz.cells (h : Lz w wr q4 q7 q5 q6 q9 q10 sb sp n b hd iv l1 l2 l3 s) : wr.cell? ⟨q4, 0, none⟩ = some (.pointer (some ⟨sp, 0, none⟩)) ∧ wr.cell? ⟨q7, 0, none⟩ = some (.int .i64 (b : Int)) ∧ wr.cell? ⟨q5, 0, none⟩ = some (.int .i64 (hd : Int)) ∧ wr.cell? ⟨q6, 0, none⟩ = some iv ∧ wr.cell? ⟨q9, 0, none⟩ = some (.slice (some ⟨sb, 0, none⟩) n n) ∧
  wr.cell? ⟨q10, 0, none⟩ = some (.func (.func 100) #[] #[.pointer (some ⟨q4, 0, none⟩), .pointer (some ⟨q7, 0, none⟩), .pointer (some ⟨q5, 0, none⟩), .pointer (some ⟨q6, 0, none⟩), .pointer (some ⟨q9, 0, none⟩), .pointer (some ⟨q10, 0, none⟩)]) ∧ (q4 < wr.heap.size ∧ q7 < wr.heap.size ∧ q5 < wr.heap.size ∧ q6 < wr.heap.size ∧ q9 < wr.heap.size ∧ q10 < wr.heap.size) :=
 ⟨by simp [World.cell?, h.k4], by simp [World.cell?, h.k7], by simp [World.cell?, h.k5], by simp [World.cell?, h.k6], by simp [World.cell?, h.k9], by simp [World.cell?, h.k10], (Array.getElem?_eq_some_iff.1 h.k4).1, (Array.getElem?_eq_some_iff.1 h.k7).1, (Array.getElem?_eq_some_iff.1 h.k5).1, (Array.getElem?_eq_some_iff.1 h.k6).1, (Array.getElem?_eq_some_iff.1 h.k9).1, (Array.getElem?_eq_some_iff.1 h.k10).1⟩
end
theorem xp {w : World} {sp : Nat} {bv pv cv rv dv : Value} {G : List aZ} {C : List (List Ins)} {rel : List Bool} {D : List Int} (HS : Ez w sp bv pv cv rv dv G C rel D) (HB : GB G G.length) (q4 q7 q5 q6 q9 q10 sb b hd : Nat) (iv l1 l2 l3 : Value) (inl : List Bool) (HI : s8 w iv inl) (hil : inl.length = G.length) : ∀ (f mW : Nat) (s : List Bool) (wr : World), Lz w wr q4 q7 q5 q6 q9 q10 sb sp G.length b hd iv l1 l2 l3 s → unseen s ≤ f → mW < G.length →
  Calls Tryz.prog 100 #[.int .i64 (mW : Int), .pointer (some ⟨q4, 0, none⟩), .pointer (some ⟨q7, 0, none⟩), .pointer (some ⟨q5, 0, none⟩), .pointer (some ⟨q6, 0, none⟩), .pointer (some ⟨q9, 0, none⟩), .pointer (some ⟨q10, 0, none⟩)] wr fun e w' => ∃ (r : Bool) (s' : List Bool), e = .returned (.bool r) ∧ Lz w w' q4 q7 q5 q6 q9 q10 sb sp G.length b hd iv l1 l2 l3 s' ∧ MJ (cU G) (sn inl) hd b mW (sn s) (sn s') r := by
 have he : ∀ (args : Array Value) (w : World), (callFunc 100 args).run Tryz.prog w = .ok (.enter 100 args) w := fun _ _ => by kernel_rfl
 obtain ⟨A, cap, rfl, hc1, hc2⟩ := HS.Ie.slice
 have IW := ahM HS.Ie
 have ET := ahM HS.cells
 have jI := ahM HB
 have tP := ahM HI
 have P7 := ahM hil
 clear HS HB hc1 hc2 HI hil
 intro f
 induction f using Nat.strongRecOn with
 | _ f ih =>
  intro mW s wr hC hu hfn
  have IH := ahM ih
  have HC := ahM hC
  have HU := ahM hu
  have HSL := ahM hC.len
  obtain ⟨ib, io, fA, rfl, hib, hic⟩ : ∃ ib io fA, iv = .slice (some ⟨ib, io, none⟩) G.length fA ∧ ib < w.heap.size ∧ ∀ k, k < G.length → w.cell? ⟨ib, io + k, none⟩ = some (.bool (inl.getD k false)) := by
   obtain ⟨A', cap', e1, _, _, e4⟩ := tP.out
   rw [P7.out] at e1 e4
   obtain ⟨b', off, rfl, h1, h2⟩ := e4 agO
   exact ⟨b', off, cap', e1, h1, h2⟩
  obtain ⟨t1, -, -, -, -, -, t7⟩ := hC.cells
  obtain ⟨x, NV, gb, go, hx, rfl, hgb, c0, c1, c2, hN⟩ := IW.out.at_ hC.aC (j := mW) hfn
  obtain ⟨NA, cY, rfl, hn1, hn2⟩ := hN.slice
  have hsc := ET.out
  have u0 : wr.cell? ⟨sp, 0, none⟩ = some (.slice (some ⟨gb, go, none⟩) G.length cap) := (hC.aC.cell (p := ⟨sp, 0, none⟩) hsc.2.2.2.2.2).trans hsc.1
  have Qw : sp < wr.heap.size := by have := hC.aC.size; have := hsc.2.2.2.2.2; omega
  have VR : gb < wr.heap.size := by have := hC.aC.size; omega
  have hnl : x.nx.length ≤ 5000 := jI.out.two mW x hx
  have ifr : (mW : Int) < (G.length : Int) := by omega
  have HX := ahM hx
  have HNI := ahM hN
  have s4 := t7.1
  have Gs : cU G mW = x.nx.map Int.toNat := vp hx
  have mK := ahM Gs
  clear ih hC hu hsc hx hN c0 c1 hn1 Gs t7
  go_enter Tryz.func100, Tryz.ntmps100
  go_upto_region 2 with fail
  clear u0 Qw VR c2 s4 t1
  go_loopw [21] (fun a21 wr => ∃ (j : Nat) (s' : List Bool), j ≤ x.nx.length ∧ a21 = .int .i64 (j : Int) ∧ Lz w wr q4 q7 q5 q6 q9 q10 sb sp G.length b hd (.slice (some ⟨ib, io, none⟩) G.length fA) l1 l2 l3 s' ∧ mC (cU G) (sn inl) hd b ((cU G mW).take j) (sn s) (sn s')) (fun a21 _ => x.nx.length - (intOf a21).toNat)
  case atStart => exact ⟨0, s, Nat.zero_le _, rfl, HC.out, .nil⟩
  case round =>
   clear HC
   obtain ⟨j, s', hj, rfl, hC, hR⟩ := hrel
   obtain ⟨t1, t2, t3, t4, t5, t6, z4, z7, z5, z6, z9, z10⟩ := hC.cells
   have HC := ahM hC
   have HR := ahM hR
   by_cases hlt : j < x.nx.length
   ·have dl : decide ((j : Int) < (x.nx.length : Int)) = true := decide_eq_true agO
    obtain ⟨sv, nb, gN, hs, hNA, hnb, y1⟩ := HNI.out.at_ hC.aC hlt
    subst hNA
    have J0 := jI.out.nx mW x HX.out sv (List.mem_of_getElem? hs)
    obtain ⟨t, rfl⟩ : ∃ t : Nat, sv = (t : Int) := ⟨sv.toNat, by omega⟩
    have htn : t < G.length := by omega
    have hT : (cU G mW)[j]? = some t := by rw [mK.out, List.getElem?_map, hs]; rfl
    have jl := ahM (show (cU G mW).take (j + 1) = (cU G mW).take j ++ [t] by rw [List.take_add_one, hT]; rfl)
    have HTM := ahM (List.mem_of_getElem? hT)
    have snw : nb < wr.heap.size := by have := hC.aC.size; omega
    have itn : (t : Int) < (G.length : Int) := by omega
    have ic := (hC.aC.cell (p := ⟨ib, io + t, none⟩) hib).trans (hic t htn)
    have siw : ib < wr.heap.size := by have := hC.aC.size; omega
    have sc := qV hC.row hC.len htn
    have sf := hC.row.frozenAt t
    have ssb := (hC.row.lt sb rfl).2
    obtain ⟨bi, NZ⟩ : ∃ v, inl.getD t false = v := ⟨_, rfl⟩
    obtain ⟨bs, DR⟩ : ∃ v, s'.getD t false = v := ⟨_, rfl⟩
    rw [NZ] at ic
    rw [DR] at sc
    have Ch := ahM NZ
    have Qg := ahM DR
    clear hC hR hs J0 hT NZ DR
    by_cases htb : t = b
    ·have d1 : ((t : Int) == (b : Int)) = true := by simp [htb]
     have HF := ahM (HR.out.found (mW := mW) (by rw [← htb]; exact HTM.out))
     clear htb
     go_wp2_with fail
     go_ret
     exact ⟨true, s', rfl, HC.out, HF.out⟩
    ·have d1 : ((t : Int) == (b : Int)) = false := by simp; omega
     by_cases I9 : t = hd
     ·have d2 : ((t : Int) == (hd : Int)) = true := by simp [I9]
      have HF := ahM (HR.out.skip htb (.inl I9))
      clear htb I9
      go_wp2_with fail
      go_roundw
      case rel => exact ⟨j + 1, s', by omega, by go_num, HC.out, by rw [jl.out]; exact HF.out⟩
      case measure => simp [intOf]; omega
     ·have d2 : ((t : Int) == (hd : Int)) = false := by simp; omega
      rcases bi with _ | _
      ·have HF := ahM (HR.out.skip htb (.inr (.inl (show ¬ sn inl t by unfold sn; rw [Ch.out]; simp))))
       clear htb I9
       go_wp2_with fail
       go_roundw
       case rel => exact ⟨j + 1, s', by omega, by go_num, HC.out, by rw [jl.out]; exact HF.out⟩
       case measure => simp [intOf]; omega
      ·rcases bs with _ | _
       ·have hU : unseen s' ≤ f := Nat.le_trans (pH (by rw [HC.out.len, HSL.out]) HR.out.grow) HU.out
        have hs1 : s'[t]? = some false := by
         rcases qx (show t < s'.length by rw [HC.out.len]; exact htn) with h | h
         ·have := lQ.2 h; rw [Qg.out] at this; cases this
         ·exact h
        have Uv := ij hs1
        have y7 := ahM (HC.out.set t)
        obtain ⟨U, xZ⟩ : ∃ U, wr.setCell ⟨sb, t, none⟩ (.bool true) = U := ⟨_, rfl⟩
        rw [xZ] at y7
        obtain ⟨a1, a2, a3, a4, a5, a6, a7, a8, a9, a10, a11, a12⟩ := y7.out.cells
        have sN := ahM (IH.out (unseen (s'.set t true)) agO t (s'.set t true) U y7.out (Nat.le_refl _) htn)
        have Vl := ahM (show sn inl t from Ch.out)
        have HTB := ahM htb
        have Tc := ahM I9
        have EW := ahM (show t < s'.length by rw [HC.out.len]; exact htn)
        clear htb I9 hU hs1 Uv
        go_upto_region 8 with fail
        clear t1 t2 t3 t4 t5 t6 z4 z7 z5 z6 z9 z10 sc sf ic y1 xZ
        go_wp2_with (go_at_call 100; refine sN.out.mono ?_; rintro e W7 ⟨r, s7, rfl, UU, N7⟩)
        ·rename_i hr
         subst hr
         rw [Fq EW.out] at N7
         go_ret
         exact ⟨true, s7, rfl, UU, HR.out.yes HTM.out Tc.out Vl.out N7⟩
        ·rename_i hr
         have hr' : r = false := by simpa using hr
         subst hr'
         rw [Fq EW.out] at N7
         go_roundw
         case rel => exact ⟨j + 1, s7, by omega, by go_num, UU, by rw [jl.out]; exact HR.out.into HTB.out Vl.out N7⟩
         case measure => simp [intOf]; omega
       ·have HF := ahM (HR.out.skip htb (.inr (.inr (show sn s' t from Qg.out))))
        clear htb I9
        go_wp2_with fail
        go_roundw
        case rel => exact ⟨j + 1, s', by omega, by go_num, HC.out, by rw [jl.out]; exact HF.out⟩
        case measure => simp [intOf]; omega
   ·obtain rfl : j = x.nx.length := by omega
    have dl : decide ((x.nx.length : Int) < (x.nx.length : Int)) = false := by simp
    have HF := ahM (mC.all (mW := mW) (by
     have e : (cU G mW).take x.nx.length = cU G mW := List.take_of_length_le (by rw [mK.out, List.length_map]; exact Nat.le_refl _)
     rw [e] at hR
     exact hR))
    clear hC hR
    go_wp2_with fail
    go_ret
    exact ⟨false, s', rfl, HC.out, HF.out⟩
end
section
open Go.RowKit
def XT (Q : Prop) (e : Ending) : Prop := ∃ r : Bool, e = .returned (.bool r) ∧ (r = true ↔ Q)
theorem Aq {w : World} {sp : Nat} {bv pv cv rv dv : Value} {G : List aZ} {C : List (List Ins)} {rel : List Bool} {D : List Int} (HS : Ez w sp bv pv cv rv dv G C rel D) (HB : GB G G.length) (b hd : Nat) (iv l1 l2 : Value) (n1 n2 : List Int) (p : Int) (inl : List Bool) (HI : s8 w iv inl) (hil : inl.length = G.length) (hb : b < G.length) (H1 : Ints w l1 n1) (H2 : Ints w l2 n2) :
  Calls Tryz.prog 78 #[.pointer (some ⟨sp, 0, none⟩), .agg #[.int .i64 (hd : Int), l1, l2, .int .i64 p], iv, .int .i64 (b : Int)] w fun e w' => XT (b ≠ hd ∧ Ug (cU G) (sn inl) hd b) e ∧ Below w.heap.size w w' := by
 have WR : ∀ (fn : Fn) (first cap : Array Value) (w : World), (Instr.makeFunc fn first cap).run Tryz.prog w = .ok (.func fn first cap) w := fun _ _ _ _ => rfl
 have he : ∀ (args : Array Value) (w : World), (callFunc 100 args).run Tryz.prog w = .ok (.enter 100 args) w := fun _ _ => by kernel_rfl
 obtain ⟨A1, jG, rfl, -, -⟩ := H1.slice
 obtain ⟨A2, fR, rfl, -, -⟩ := H2.slice
 obtain ⟨m1, hm1⟩ : ∃ m, n1.length = m := ⟨_, rfl⟩
 obtain ⟨m2, hm2⟩ : ∃ m, n2.length = m := ⟨_, rfl⟩
 rw [hm1, hm2]
 obtain ⟨IA, fA, rfl⟩ : ∃ IA fA, iv = .slice IA G.length fA := by
  obtain ⟨A, c, h, _⟩ := HI
  exact ⟨A, c, by rw [h, hil]⟩
 have EB := ahM HS
 have O2 := ahM HI
 have Ju := ahM HB
 obtain ⟨q4, hq4⟩ : ∃ q, w.heap.size = q := ⟨_, rfl⟩
 obtain ⟨W1, hW1⟩ : ∃ W, w.alloc (.cells #[.pointer (some ⟨sp, 0, none⟩)] 117) = W := ⟨_, rfl⟩
 obtain ⟨q5, hq5⟩ : ∃ q, W1.heap.size = q := ⟨_, rfl⟩
 obtain ⟨W2, hW2⟩ : ∃ W, W1.alloc (.cells #[.int .i64 (hd : Int), .slice A1 m1 jG, .slice A2 m2 fR, .int .i64 p] 46) = W := ⟨_, rfl⟩
 obtain ⟨q6, hq6⟩ : ∃ q, W2.heap.size = q := ⟨_, rfl⟩
 obtain ⟨W3, hW3⟩ : ∃ W, W2.alloc (.cells #[.slice IA G.length fA] 55) = W := ⟨_, rfl⟩
 obtain ⟨q7, hq7⟩ : ∃ q, W3.heap.size = q := ⟨_, rfl⟩
 obtain ⟨W4, UE⟩ : ∃ W, W3.alloc (.cells #[.int .i64 (b : Int)] 3) = W := ⟨_, rfl⟩
 have b1 : Below w.heap.size w W1 := hW1 ▸ (Below.refl _ _).alloc (Nat.le_refl _) _
 have b2 : Below W1.heap.size W1 W2 := hW2 ▸ (Below.refl _ _).alloc (Nat.le_refl _) _
 have b3 : Below W2.heap.size W2 W3 := hW3 ▸ (Below.refl _ _).alloc (Nat.le_refl _) _
 have b4 : Below W3.heap.size W3 W4 := UE ▸ (Below.refl _ _).alloc (Nat.le_refl _) _
 have b34 := b3.trans (b4.mono b3.size)
 have b24 := b2.trans (b34.mono b2.size)
 have b14 := b1.trans (b24.mono b1.size)
 have We : W1.heap[q4]? = some (.cells #[.pointer (some ⟨sp, 0, none⟩)] 117 (0, 0)) := by rw [← hq4, ← hW1]; exact heap_alloc_new _ _
 have Wc : W2.heap[q5]? = some (.cells #[.int .i64 (hd : Int), .slice A1 m1 jG, .slice A2 m2 fR, .int .i64 p] 46 (0, 0)) := by rw [← hq5, ← hW2]; exact heap_alloc_new _ _
 have Wa : W3.heap[q6]? = some (.cells #[.slice IA G.length fA] 55 (0, 0)) := by rw [← hq6, ← hW3]; exact heap_alloc_new _ _
 have k7 : W4.heap[q7]? = some (.cells #[.int .i64 (b : Int)] 3 (0, 0)) := by rw [← hq7, ← UE]; exact heap_alloc_new _ _
 have lt : ∀ {W : World} {q : Nat} {o : Obj}, W.heap[q]? = some o → q < W.heap.size := fun h => (Array.getElem?_eq_some_iff.1 h).1
 have k4 := (b24.block q4 (lt We)).trans We
 have k5 := (b34.block q5 (lt Wc)).trans Wc
 have k6 := (b4.block q6 (lt Wa)).trans Wa
 have c5 := (cJ k5).1
 have s5 := (cJ k5).2.2.2.2
 have c7 : W4.cell? ⟨q7, 0, none⟩ = some (.int .i64 (b : Int)) := by simp [World.cell?, k7]
 have c6 : W4.cell? ⟨q6, 0, none⟩ = some (.slice IA G.length fA) := by simp [World.cell?, k6]
 have s6 := lt k6
 have s7 := lt k7
 have K4 := ahM k4
 have K5 := ahM k5
 have K6 := ahM k6
 have K7 := ahM k7
 have B4 := ahM b14
 have R9 := Ju.out.le
 obtain ⟨i2, hi2, hs0, hs1, hs2⟩ := info_parts vz
 obtain ⟨U1, lm, dM, gr1⟩ := run_make_full (P := Tryz.prog) W4 w.heap.size 55 4 i2 (.bool false) 1 Tryz.underlying55 hi2 hs0 hs1 .i64 .i64 G.length ahA agS b14.size
 rw [Nat.mul_one, show (Value.bool false).cells = #[Value.bool false] from rfl, toList_madeCells_one] at dM
 obtain ⟨sb, DD⟩ : ∃ q, W4.heap.size = q := ⟨_, rfl⟩
 rw [DD] at lm dM
 have OV := ahM dM
 have yH := ahM gr1
 clear HS HI HB H1 H2 hm1 hm2 We Wc Wa k4 k5 k6 k7 b1 b2 b3 b4 b34 b24 b14 lt dM gr1 i2 hi2 hs0 hs1 hs2
 go_enter Tryz.func78, Tryz.ntmps78
 by_cases Kb : b = hd
 ·have d : ((b : Int) == (hd : Int)) = true := by simp [Kb]
  have HQ := ahM Kb
  clear Kb
  go_wp2_with fail
  go_ret
  exact ⟨⟨false, rfl, by simp [HQ.out]⟩, B4.out⟩
 ·have d : ((b : Int) == (hd : Int)) = false := by simp; omega
  have HQ := ahM Kb
  clear Kb
  go_upto_region 4 with fail
  obtain ⟨q9, hq9⟩ : ∃ q, U1.heap.size = q := ⟨_, rfl⟩
  obtain ⟨V5, uA⟩ : ∃ V, U1.alloc (.cells #[.slice (some ⟨sb, 0, none⟩) G.length G.length] 55) = V := ⟨_, rfl⟩
  rw [uA, hq9]
  obtain ⟨q10, WG⟩ : ∃ q, V5.heap.size = q := ⟨_, rfl⟩
  obtain ⟨V6, RQ⟩ : ∃ V, V5.alloc (.cells #[.func (.func 100) #[] #[.pointer (some ⟨q4, 0, none⟩), .pointer (some ⟨q7, 0, none⟩), .pointer (some ⟨q5, 0, none⟩), .pointer (some ⟨q6, 0, none⟩), .pointer (some ⟨q9, 0, none⟩), .pointer (some ⟨q10, 0, none⟩)]] 155) = V := ⟨_, rfl⟩
  clear lm c6 c5
  have ZP := yH.out.size
  have sU : sb < U1.heap.size := (OV.out.lt sb rfl).2
  have s4 : ∀ {q : Nat} {o : Obj}, W4.heap[q]? = some o → q < W4.heap.size := fun h => (Array.getElem?_eq_some_iff.1 h).1
  have keep : ∀ (q : Nat) (x : Obj), W4.heap[q]? = some x → V6.heap[q]? = some x := fun q x hx => by
   have h1 := s4 hx
   have h2 := (yH.out.block q h1 agT).trans hx
   rw [← RQ, heap_alloc_old _ _ (by rw [← uA, World.size_alloc]; omega), ← uA, heap_alloc_old _ _ agO]; exact h2
  have Ob : Lz w V6 q4 q7 q5 q6 q9 q10 sb sp G.length b hd (.slice IA G.length fA) (.slice A1 m1 jG) (.slice A2 m2 fR) (.int .i64 p) (List.replicate G.length false) := by
   refine ⟨?_, keep _ _ K4.out, keep _ _ K7.out, keep _ _ K5.out, keep _ _ K6.out, ?_, ?_, ?_, by simp⟩
   ·rw [← RQ, ← uA]
    exact ((B4.out.grown yH.out B4.out.size (fun k hk => by cases hk)).alloc (by have := B4.out.size; omega) _).alloc (by have := B4.out.size; simp; omega) _
   ·rw [← RQ, heap_alloc_old _ _ (by rw [← uA, World.size_alloc]; omega), ← uA, ← hq9]; exact heap_alloc_new _ _
   ·rw [← RQ, ← WG]; exact heap_alloc_new _ _
   ·rw [← RQ, ← uA]
    have := (OV.out.alloc (.cells #[.slice (some ⟨sb, 0, none⟩) G.length G.length] 55)).alloc (.cells #[.func (.func 100) #[] #[.pointer (some ⟨q4, 0, none⟩), .pointer (some ⟨q7, 0, none⟩), .pointer (some ⟨q5, 0, none⟩), .pointer (some ⟨q6, 0, none⟩), .pointer (some ⟨q9, 0, none⟩), .pointer (some ⟨q10, 0, none⟩)]] 155)
    simpa [qI] using this
  have Vx := ahM Ob
  have sN := ahM (xp EB.out Ju.out q4 q7 q5 q6 q9 q10 sb b hd _ _ _ _ inl O2.out hil G.length b _ V6 Ob (by rw [gi]; exact Nat.le_refl _) hb)
  obtain ⟨e1, e2, e3, e4, e5, e6, e7, e8, e9, e10, e11, e12⟩ := Ob.cells
  clear Ob keep s4 ZP sU c7 s5 s6 s7
  go_wp2_with (go_at_call 100; refine sN.out.mono ?_; rintro e W7 ⟨r, s7, rfl, UU, N7⟩)
  go_ret
  refine ⟨⟨r, rfl, ?_⟩, UU.aC⟩
  have hz : sn (List.replicate G.length false) = fun _ => False := by
   funext x
   unfold sn
   rw [List.getD, List.getElem?_replicate]
   split <;> simp
  rw [hz] at N7
  rw [N7.cyc]
  exact ⟨fun h => ⟨HQ.out, h⟩, fun h => h.2⟩
end
section
open Go.RowKit
def mZ (i : Ins) : Bool := decide (10 ≤ i.a) && decide (i.a ≤ 13) && (decide (i.op = 25) || (decide (i.op = 15) && decide (i.b = i.a) && decide (i.aP = 1)))
theorem vR (i : Ins) (w : World) :
  Calls Tryz.prog 75 #[.agg #[.int .u8 i.op, .int .i64 i.a, .int .i64 i.b, .int .i64 i.c, .int .i64 i.aP]] w fun e w' => e = .returned (.bool (mZ i)) ∧ Below w.heap.size w w' := by
 obtain ⟨op, a, b, c, aP⟩ := i
 obtain ⟨r, hr⟩ : ∃ r, mZ ⟨op, a, b, c, aP⟩ = r := ⟨_, rfl⟩
 simp only
 rw [hr]
 have HR := ahM (show r = (decide (10 ≤ a) && decide (a ≤ 13) && (decide (op = 25) || (decide (op = 15) && decide (b = a) && decide (aP = 1)))) from hr.symm)
 obtain ⟨X, hX⟩ : ∃ X, w.alloc (.cells #[.int .u8 op, .int .i64 a, .int .i64 b, .int .i64 c, .int .i64 aP] 67) = X := ⟨_, rfl⟩
 obtain ⟨q, hq⟩ : ∃ q, w.heap.size = q := ⟨_, rfl⟩
 have bX : Below w.heap.size w X := hX ▸ (Below.refl _ _).alloc (Nat.le_refl _) _
 have kX : X.heap[q]? = some (.cells #[.int .u8 op, .int .i64 a, .int .i64 b, .int .i64 c, .int .i64 aP] 67 (0, 0)) := by rw [← hq, ← hX]; exact heap_alloc_new _ _
 have c0 : X.cell? ⟨q, 0, none⟩ = some (.int .u8 op) := by simp [World.cell?, kX]
 have c1 : X.cell? ⟨q, 1, none⟩ = some (.int .i64 a) := by simp [World.cell?, kX]
 have c2 : X.cell? ⟨q, 2, none⟩ = some (.int .i64 b) := by simp [World.cell?, kX]
 have c4 : X.cell? ⟨q, 4, none⟩ = some (.int .i64 aP) := by simp [World.cell?, kX]
 have sq : q < X.heap.size := (Array.getElem?_eq_some_iff.1 kX).1
 have BX := ahM bX
 have BQ := ahM (show Below q w X from hq ▸ bX)
 clear bX kX hr
 go_enter Tryz.func75, Tryz.ntmps75
 by_cases h1 : a < 10
 ·have d1 : decide (a < 10) = true := decide_eq_true h1
  have HF := ahM (show r = false by rw [HR.out, decide_eq_false (show ¬ 10 ≤ a by omega)]; rfl)
  go_wp2_with fail
  go_ret
  exact ⟨by rw [HF.out]; rfl, aha⟩
 have d1 : decide (a < 10) = false := decide_eq_false h1
 by_cases h2 : 13 < a
 ·have d2 : decide (13 < a) = true := decide_eq_true h2
  have HF := ahM (show r = false by rw [HR.out, decide_eq_false (show ¬ a ≤ 13 by omega)]; simp)
  go_wp2_with fail
  go_ret
  exact ⟨by rw [HF.out]; rfl, aha⟩
 have d2 : decide (13 < a) = false := decide_eq_false h2
 have wq := ahM (show r = (decide (op = 25) || (decide (op = 15) && decide (b = a) && decide (aP = 1))) by rw [HR.out, decide_eq_true (show 10 ≤ a by omega), decide_eq_true (show a ≤ 13 by omega)]; rfl)
 clear h1 h2
 by_cases h3 : op = 25
 ·have d3 : (op == 25) = true := by simp [h3]
  have HF := ahM (show r = true by rw [wq.out, decide_eq_true h3]; rfl)
  clear h3
  go_wp2_with fail
  go_ret
  exact ⟨by rw [HF.out]; rfl, aha⟩
 have d3 : (op == 25) = false := by simp [h3]
 have ou := ahM (show r = (decide (op = 15) && decide (b = a) && decide (aP = 1)) by rw [wq.out, decide_eq_false h3]; rfl)
 by_cases h4 : op = 15
 case neg =>
  have d4 : (op == 15) = false := by simp [h4]
  have HF := ahM (show r = false by rw [ou.out, decide_eq_false h4]; rfl)
  clear h3 h4
  go_wp2_with fail
  go_ret
  exact ⟨by rw [HF.out]; rfl, aha⟩
 have d4 : (op == 15) = true := by simp [h4]
 by_cases h5 : b = a
 case neg =>
  have d5 : (b == a) = false := by simp [h5]
  have HF := ahM (show r = false by rw [ou.out, decide_eq_false h5]; simp)
  clear h3 h4 h5
  go_wp2_with fail
  go_ret
  exact ⟨by rw [HF.out]; rfl, aha⟩
 have d5 : (b == a) = true := by simp [h5]
 by_cases h6 : aP = 1
 case neg =>
  have d6 : (aP == 1) = false := by simp [h6]
  have HF := ahM (show r = false by rw [ou.out, decide_eq_false h6]; simp)
  clear h3 h4 h5 h6
  go_wp2_with fail
  go_ret
  exact ⟨by rw [HF.out]; rfl, aha⟩
 have d6 : (aP == 1) = true := by simp [h6]
 have HF := ahM (show r = true by rw [ou.out, decide_eq_true h4, decide_eq_true h5, decide_eq_true h6]; rfl)
 clear h3 h4 h5 h6
 go_wp2_with fail
 go_ret
 exact ⟨by rw [HF.out]; rfl, aha⟩
end
section
open Go.RowKit
def jH (n : Nat) (f : Nat → Nat) : List Int := (List.range n).map fun k => (f k : Int)
theorem yx (n : Nat) (f : Nat → Nat) : (jH n f).length = n := by simp [jH]
theorem BD {n : Nat} {f : Nat → Nat} {k : Nat} (hk : k < n) : (jH n f).getD k (-1) = (f k : Int) := by
 rw [List.getD, jH, List.getElem?_map, List.getElem?_range hk]; rfl
theorem Hq (n : Nat) (f : Nat → Nat) (b : Nat) (x : Nat) : (jH n f).set b (x : Int) = jH n (fun k => if k = b then x else f k) := by
 apply List.ext_getElem
 ·simp [jH]
 ·intro i h1 h2
  rw [List.getElem_set]
  simp only [jH, List.getElem_map, List.getElem_range]
  by_cases e : b = i
  ·rw [if_pos e, if_pos e.symm]
  ·rw [if_neg e, if_neg (Ne.symm e)]
open Classical in
noncomputable def ng (D : List Int) (ls : List Nat) (k : Nat) : Nat := ls.countP fun l => decide (bO D l k)
open Classical in
noncomputable def mz (D : List Int) (ls : List Nat) (V : Nat → Prop) (k : Nat) : Nat := ng D ls k + if V k then 1 else 0
theorem Ee (D : List Int) (ls : List Nat) : mz D ls (fun _ => False) = ng D ls := by funext k; unfold mz; rw [if_neg id]; rfl
theorem Hf {D : List Int} {ls : List Nat} {V : Nat → Prop} {y : Nat} (h : ¬ V y) : (fun k => if k = y then mz D ls V y + 1 else mz D ls V k) = mz D ls (fun x => V x ∨ x = y) := by
 funext k
 unfold mz
 by_cases e : k = y
 ·subst e; rw [if_pos rfl, if_neg h, if_pos (Or.inr rfl)]
 ·rw [if_neg e]
  by_cases hk : V k
  ·rw [if_pos hk, if_pos (Or.inl hk)]
  ·rw [if_neg hk, if_neg (fun h => h.elim hk e)]
theorem He (D : List Int) (ls : List Nat) (l : Nat) : mz D ls (bO D l) = ng D (ls ++ [l]) := by
 funext k
 unfold mz ng
 rw [List.countP_append]
 by_cases h : bO D l k
 ·rw [if_pos h]; simp [h]
 ·rw [if_neg h]; simp [h]
theorem Kt (D : List Int) (ls : List Nat) (k : Nat) : ng D ls k ≤ ls.length := List.countP_le_length
theorem Hh {D : List Int} {ls : List Nat} {k : Nat} : ng D ls k = ls.length ↔ ∀ l ∈ ls, bO D l k := by
 unfold ng
 rw [List.countP_eq_length]
 simp
section
variable {n : Nat} {nx : Nat → List Nat} {ord : List Nat} {pos : Nat → Nat} {D : List Int}
theorem Av (t : TI n nx ord pos D) {l y y' : Nat} (h : bO D l y) (e : D.getD y (-1) = (y' : Int)) : (fun x => (bO D l x ∧ ¬ bO D y x) ∨ x = y) = fun x => bO D l x ∧ ¬ bO D y' x := by
 funext x
 apply propext
 have h1 := (t.up _ _ e).2.2.1
 constructor
 ·rintro (⟨a, b⟩ | rfl)
  ·exact ⟨a, fun c => b ((bO.step e).2 (.inr c))⟩
  ·exact ⟨h, fun c => by have := t.le c; omega⟩
 ·rintro ⟨a, b⟩
  by_cases c : bO D y x
  ·rcases (bO.step e).1 c with rfl | c
   ·exact .inr rfl
   ·exact absurd c b
  ·exact .inl ⟨a, c⟩
theorem Aw {l y : Nat} (h : bO D l y) (e : D.getD y (-1) < 0) : (fun x => (bO D l x ∧ ¬ bO D y x) ∨ x = y) = bO D l := by
 funext x
 apply propext
 constructor
 ·rintro (⟨a, b⟩ | rfl)
  ·exact a
  ·exact h
 ·intro a
  by_cases c : bO D y x
  ·cases c with
   | self => exact .inr rfl
   | up h1 _ => omega
  ·exact .inl ⟨a, c⟩
theorem pY (l : Nat) : (fun x => bO D l x ∧ ¬ bO D l x) = fun _ => False := by funext x; apply propext; exact ⟨fun h => h.2 h.1, False.elim⟩
end
end
section
open Go.RowKit
def lJ (G : List aZ) (rel : List Bool) (D : List Int) (hd : Nat) (bl : List Int) (ls : List Nat) (b : Nat) : Prop := (b : Int) ∈ bl ∧ rel.getD b false = true ∧ (∀ l ∈ ls, bO D l b) ∧ ¬ (b ≠ hd ∧ Ug (cU G) (sn (gO G.length bl)) hd b)
open Classical in
noncomputable def pB (G : List aZ) (rel : List Bool) (D : List Int) (hd : Nat) (bl : List Int) (ls : List Nat) (k b : Nat) : Bool := decide (b < k ∧ lJ G rel D hd bl ls b)
theorem oK {G : List aZ} {rel : List Bool} {D : List Int} {hd : Nat} {bl : List Int} {ls : List Nat} {k b : Nat} : pB G rel D hd bl ls k b = true ↔ b < k ∧ lJ G rel D hd bl ls b := by unfold pB; simp
noncomputable def fk (G : List aZ) (rel : List Bool) (D : List Int) (hd : Nat) (bl : List Int) (ls : List Nat) (k : Nat) : List Bool := (List.range G.length).map (pB G rel D hd bl ls k)
theorem jv (G : List aZ) (rel : List Bool) (D : List Int) (hd : Nat) (bl : List Int) (ls : List Nat) (k : Nat) : (fk G rel D hd bl ls k).length = G.length := by simp [fk]
theorem zC (G : List aZ) (rel : List Bool) (D : List Int) (hd : Nat) (bl : List Int) (ls : List Nat) : fk G rel D hd bl ls 0 = List.replicate G.length false := by
 apply List.ext_getElem
 ·simp [fk]
 ·intro i h1 h2
  simp only [fk, List.getElem_map, List.getElem_range, List.getElem_replicate]
  rw [Bool.eq_false_iff]
  intro h
  have := (oK.1 h).1
  omega
theorem zD {G : List aZ} {rel : List Bool} {D : List Int} {hd : Nat} {bl : List Int} {ls : List Nat} {k : Nat} {r : Bool} (hr : r = true ↔ lJ G rel D hd bl ls k) : (fk G rel D hd bl ls k).set k r = fk G rel D hd bl ls (k + 1) := by
 apply List.ext_getElem
 ·simp [fk]
 ·intro i h1 h2
  rw [List.getElem_set]
  simp only [fk, List.getElem_map, List.getElem_range]
  by_cases e : k = i
  ·subst e
   rw [if_pos rfl, Bool.eq_iff_iff, hr, oK]
   exact ⟨fun h => ⟨by omega, h⟩, fun h => h.2⟩
  ·rw [if_neg e, Bool.eq_iff_iff, oK, oK]
   exact ⟨fun h => ⟨by omega, h.2⟩, fun h => ⟨by omega, h.2⟩⟩
theorem rC {w : World} {sp : Nat} {bv pv cv rv dv : Value} {G : List aZ} {C : List (List Ins)} {rel : List Bool} {D : List Int} {nx : Nat → List Nat} {ord : List Nat} {pos : Nat → Nat} (HS : Ez w sp bv pv cv rv dv G C rel D) (HB : GB G G.length) (gr : Gr G.length nx ord pos) (it : gm G.length nx ord pos D) (hd : Nat) (bl : List Int) (ls : List Nat) (ig fA : Nat) (l1 l2 : Value) (p : Int) (HI : s8 w (.slice (some ⟨ig, 0, none⟩) G.length fA) (gO G.length bl)) (H1 : Ints w l1 bl) (H2 : Ints w l2 (bT ls)) (hls : ∀ l ∈ ls, l ∈ ord) (hl5 : ls.length ≤ 5000000) :
  Calls Tryz.prog 48 #[.pointer (some ⟨sp, 0, none⟩), .agg #[.int .i64 (hd : Int), l1, l2, .int .i64 p], .slice (some ⟨ig, 0, none⟩) G.length fA] w fun e w' => ∃ g, e = .returned (.slice (some ⟨g, 0, none⟩) G.length G.length) ∧ w'.ownsRow w.heap.size 4 1 (.slice (some ⟨g, 0, none⟩) G.length G.length) G.length (qI (fk G rel D hd bl ls G.length)) ∧ Below w.heap.size w w' := by
 obtain ⟨A1, jG, rfl, -, -⟩ := H1.slice
 obtain ⟨A2, fR, rfl, hb1, hb2⟩ := H2.slice
 obtain ⟨DA, mX, rfl, hd1, hd2⟩ := HS.dom.slice
 obtain ⟨m1, hm1⟩ : ∃ m, bl.length = m := ⟨_, rfl⟩
 obtain ⟨m, hm⟩ : ∃ m, (bT ls).length = m := ⟨_, rfl⟩
 have hlm : ls.length = m := by rw [← hm]; simp [bT]
 rw [HS.ld] at hd1
 obtain ⟨dq, PS, hDA, hdq, hdc⟩ : ∃ dq PS, DA = some ⟨dq, PS, none⟩ ∧ dq < w.heap.size ∧ ∀ k, k < G.length → w.cell? ⟨dq, PS + k, none⟩ = some (.int .i64 (D.getD k (-1))) := by
  obtain ⟨_, _, e1, _, _, e4⟩ := HS.dom
  cases e1
  obtain ⟨q, off, e5, e6, e7⟩ := e4 (by rw [HS.ld]; exact gr.n0)
  refine ⟨q, off, e5, e6, fun k hk => ?_⟩
  rw [e7 k (by rw [HS.ld]; exact hk)]
  simp [List.getD, List.getElem?_eq_getElem (show k < D.length by rw [HS.ld]; exact hk)]
 subst hDA
 have Jb := HS.ld
 rw [hm1, hm]
 rw [hm] at hb1
 have EB := ahM HS
 have YH := ahM Jb
 have Ty := ahM hlm
 have HM := ahM hm
 have YO := ahM (show Ints w (.slice A2 m fR) (bT ls) by rw [← hm]; exact H2)
 have TJ := ahM (show Ints w (.slice A1 m1 jG) bl by rw [← hm1]; exact H1)
 have YN := ahM (show Ints w (.slice A2 m fR) (bT ls) by rw [← hm]; exact H2)
 have O2 := ahM HI
 have GR := ahM gr
 have IT := ahM it
 have HDC := ahM hdc
 have P6 := ahM hls
 have Ju := ahM HB
 have R9 := HB.le
 obtain ⟨q4, hq4⟩ : ∃ q, w.heap.size = q := ⟨_, rfl⟩
 obtain ⟨W1, hW1⟩ : ∃ W, w.alloc (.cells #[.int .i64 (hd : Int), .slice A1 m1 jG, .slice A2 m fR, .int .i64 p] 46) = W := ⟨_, rfl⟩
 have b1 : Below w.heap.size w W1 := hW1 ▸ (Below.refl _ _).alloc (Nat.le_refl _) _
 have k4 : W1.heap[q4]? = some (.cells #[.int .i64 (hd : Int), .slice A1 m1 jG, .slice A2 m fR, .int .i64 p] 46 (0, 0)) := by rw [← hq4, ← hW1]; exact heap_alloc_new _ _
 obtain ⟨iI, pR, pT, nR, nQ⟩ := info_parts nP
 obtain ⟨U1, lm, dM, gr1⟩ := run_make_full (P := Tryz.prog) W1 w.heap.size 38 3 iI (.int .i64 0) 1 Tryz.underlying38 pR pT nR .i64 .i64 G.length ahI agS b1.size
 rw [Nat.mul_one, show (Value.int .i64 0).cells = #[Value.int .i64 0] from rfl, toList_madeCells_one] at dM
 have bU : Below w.heap.size w U1 := b1.grown gr1 b1.size (fun k hk => by cases hk)
 have Wd : U1.heap[q4]? = _ := (gr1.block q4 (Array.getElem?_eq_some_iff.1 k4).1 agT).trans k4
 obtain ⟨c0, c1, c2, -, c4⟩ := cJ Wd
 obtain ⟨g, hg⟩ : ∃ q, W1.heap.size = q := ⟨_, rfl⟩
 rw [hg] at lm dM
 have hz : dQ (jH G.length (ng D (ls.take 0))) = List.replicate G.length (Value.int .i64 0) := by
  rw [List.take_zero]
  apply List.ext_getElem
  ·simp [dQ, jH]
  ·intro i h1 h2; simp [dQ, jH, ng]
 have HR := ahM (show U1.ownsRow w.heap.size 3 1 (.slice (some ⟨g, 0, none⟩) G.length G.length) G.length (dQ (jH G.length (ng D (ls.take 0)))) by rw [hz]; exact dM)
 have BU := ahM bU
 have K4 := ahM Wd
 clear HS HI H1 H2 gr it hdc hls HB b1 k4 dM gr1 bU Wd hz pR pT nR nQ iI hg hm hm1 hlm Jb
 go_enter Tryz.func48, Tryz.ntmps48
 go_upto_region 3 with fail
 clear lm c0 c1 c2 c4 hW1
 have hmm := @run_makeMap Tryz.prog
 go_loopw [20] (fun a20 wr => ∃ i : Nat, i ≤ m ∧ a20 = .int .i64 (i : Int) ∧ wr.ownsRow w.heap.size 3 1 (.slice (some ⟨g, 0, none⟩) G.length G.length) G.length (dQ (jH G.length (ng D (ls.take i)))) ∧ wr.heap[q4]? = some (.cells #[.int .i64 (hd : Int), .slice A1 m1 jG, .slice A2 m fR, .int .i64 p] 46 (0, 0)) ∧ Below w.heap.size w wr) (fun a20 _ => m - (intOf a20).toNat)
 case atStart => exact ⟨0, Nat.zero_le _, rfl, HR.out, K4.out, BU.out⟩
 case round =>
  clear HR K4 BU
  obtain ⟨i, hi, rfl, hr, hk4, hb⟩ := hrel
  have HR := ahM hr
  have HK := ahM hk4
  have HB := ahM hb
  by_cases hlt : i < m
  ·have dl : decide ((i : Int) < (m : Int)) = true := decide_eq_true agO
   obtain ⟨l, hl⟩ : ∃ l, ls[i]? = some l := ⟨_, List.getElem?_eq_getElem (by rw [Ty.out]; exact hlt)⟩
   obtain ⟨sv, lb, lo, hs, Jh, hlb, y1⟩ := (HM.out ▸ YO.out : Ints w (.slice A2 (bT ls).length fR) (bT ls)).at_ hb (j := i) ahm
   subst Jh
   obtain rfl : sv = (l : Int) := by simp [bT, hl] at hs; exact hs.symm
   have Ul : lb < wr.heap.size := by have := hb.size; omega
   have jl := ahM (show ls.take (i + 1) = ls.take i ++ [l] by rw [List.take_add_one, hl]; rfl)
   have hlo := P6.out l (List.mem_of_getElem? hl)
   have Vk := ahM hlo
   obtain ⟨mb, hmb⟩ : ∃ q, wr.heap.size = q := ⟨_, rfl⟩
   obtain ⟨X, hX⟩ : ∃ X, wr.alloc (.map #[] 0) = X := ⟨_, rfl⟩
   have bX : Below wr.heap.size wr X := hX ▸ (Below.refl _ _).alloc (Nat.le_refl _) _
   have YK := ahM (show Im X mb (iK (fun x => bO D l x ∧ ¬ bO D l x)) by
    rw [pY, show iK (fun _ => False) = fun _ => none by funext k; simp [iK], ← hmb, ← hX]
    exact Im.made wr)
   have HRX := ahM (show X.ownsRow w.heap.size 3 1 (.slice (some ⟨g, 0, none⟩) G.length G.length) G.length (dQ (jH G.length (mz D (ls.take i) (fun x => bO D l x ∧ ¬ bO D l x)))) by
    rw [pY, Ee]; exact ak hr bX)
   have HKX := ahM ((bX.block q4 (Array.getElem?_eq_some_iff.1 hk4).1).trans hk4)
   have kJ := ahM (hb.trans (bX.mono hb.size))
   have hmw : w.heap.size ≤ mb := by have := hb.size; omega
   clear hr hk4 hb hl hs hlo bX
   go_upto_region 7 with fail
   clear y1 Ul hX hmb
   go_loopw [11] (fun a11 wr => ∃ V : Nat → Prop, ((∃ y : Nat, a11 = .int .i64 (y : Int) ∧ y ∈ ord ∧ bO D l y ∧ V = fun x => bO D l x ∧ ¬ bO D y x) ∨ (a11 = .int .i64 (-1) ∧ V = bO D l)) ∧ Im wr mb (iK V) ∧ wr.ownsRow w.heap.size 3 1 (.slice (some ⟨g, 0, none⟩) G.length G.length) G.length (dQ (jH G.length (mz D (ls.take i) V))) ∧ wr.heap[q4]? = some (.cells #[.int .i64 (hd : Int), .slice A1 m1 jG, .slice (some ⟨lb, lo, none⟩) m fR, .int .i64 p] 46 (0, 0)) ∧ Below w.heap.size w wr) (fun a11 _ => if intOf a11 < 0 then 0 else pos (intOf a11).toNat + 1)
   case atStart => exact ⟨_, .inl ⟨l, rfl, Vk.out, .self _, rfl⟩, YK.out, HRX.out, HKX.out, kJ.out⟩
   case round =>
    clear YK HRX HKX kJ HR HK HB
    obtain ⟨V, hV, him, hr, hk4, hb⟩ := hrel
    have YK := ahM him
    have HR := ahM hr
    have HK := ahM hk4
    have HB := ahM hb
    have hsc := EB.out.cells
    have u4 : wr.cell? ⟨sp, 4, none⟩ = some (.slice (some ⟨dq, PS, none⟩) D.length mX) := (hb.cell (p := ⟨sp, 4, none⟩) hsc.2.2.2.2.2).trans hsc.2.2.2.2.1
    rw [YH.out] at u4
    have Qw : sp < wr.heap.size := by have := hb.size; have := hsc.2.2.2.2.2; omega
    clear hsc
    rcases hV with ⟨y, rfl, ZL, UC, N6⟩ | ⟨rfl, N6⟩
    ·have LW := GR.out.lt y ZL
     have Gu : ¬ V y := by rw [N6]; exact fun h => h.2 (.self _)
     have d0 : decide ((0 : Int) ≤ (y : Int)) = true := decide_eq_true agO
     have d1 : decide ((y : Int) < (G.length : Int)) = true := decide_eq_true agO
     have d2 : decide (y < G.length) = true := decide_eq_true LW
     have iy : (y : Int) < (G.length : Int) := by omega
     have hl := him.gS (P := Tryz.prog) (kt := 3) (t := 99) (e := 4) Tryz.underlying3 Tryz.underlying99 (sA wr) (eP (k := (y : Int)) agO agO) (BI Gu) false
     simp only [kv, Bool.false_eq_true, if_false] at hl
     obtain ⟨W2, hput, hm2, o1, o2, o3, o4, o5⟩ := him.put (P := Tryz.prog) (kt := 3) (t := 99) (e := 4) Tryz.underlying3 Tryz.underlying99 (k := (y : Int)) (eP agO agO) (.bool true)
     simp only [kv] at hput
     rw [sk] at hm2
     have wG : g ≠ mb := fun e => by
      obtain ⟨es, cl, h1, _⟩ := him
      rcases hr.2 with ⟨h2, _⟩ | ⟨g', cap', cur, h2, _, h3, _⟩
      ·cases h2
      ·cases h2; rw [e, h1] at h3; cases h3
     have ZY : q4 ≠ mb := fun e => by
      obtain ⟨es, cl, h1, _⟩ := him
      rw [e, h1] at hk4; cases hk4
     have hgb : wr.grownBy W2 (some mb) := ⟨o1, o2, o3, by omega, fun k _ hne => o5 k fun e => hne (by rw [e])⟩
     have hr2 := hr.kept hgb (.inr fun e => wG (by injection e))
     have hb2 := hb.grown hgb hb.size (fun k hk => by cases hk; exact hmw)
     have tF : mz D (ls.take i) V y ≤ 5000001 := by
      have h1 := Kt D (ls.take i) y
      have h2 : (ls.take i).length ≤ ls.length := by simp; omega
      unfold mz
      split <;> omega
     have x1 := fG hr2 (yx _ _) LW
     rw [BD LW] at x1
     have x2 := hr2.frozenAt y
     obtain ⟨cy, Mi⟩ : ∃ c, mz D (ls.take i) V y = c := ⟨_, rfl⟩
     rw [Mi] at x1 tF
     have r1 := (hr2.stored y (.int .i64 ((cy : Int) + 1))).1
     have er : (jH G.length (mz D (ls.take i) V)).set y ((cy : Int) + 1) = jH G.length (mz D (ls.take i) (fun x => V x ∨ x = y)) := by
      have := Hq G.length (mz D (ls.take i) V) y (cy + 1)
      rw [← Mi, Hf Gu, Mi] at this
      exact this
     rw [jQ, er] at r1
     have sg := hr2.lt g rfl
     have R1 := ahM r1
     have B3 := hb2.setCell (p := ⟨g, y, none⟩) sg.1 (.int .i64 ((cy : Int) + 1))
     have M6 := ahM B3
     have M1 := ahM (hm2.keep (w' := W2.setCell ⟨g, y, none⟩ (.int .i64 ((cy : Int) + 1))) (Below.heap_setCell _ _ _ _ (Ne.symm wG)))
     have WE : q4 ≠ g := dX hk4 hr agQ ∘ fun e => by rw [e]; rfl
     have K1 := ahM (show (W2.setCell ⟨g, y, none⟩ (.int .i64 ((cy : Int) + 1))).heap[q4]? = _ from (Below.heap_setCell _ _ _ _ WE).trans ((o5 q4 ZY).trans hk4))
     have hsc := EB.out.cells
     have u5 : (W2.setCell ⟨g, y, none⟩ (.int .i64 ((cy : Int) + 1))).cell? ⟨sp, 4, none⟩ = some (.slice (some ⟨dq, PS, none⟩) D.length mX) := (B3.cell (p := ⟨sp, 4, none⟩) hsc.2.2.2.2.2).trans hsc.2.2.2.2.1
     rw [YH.out] at u5
     have u6 := (B3.cell (p := ⟨dq, PS + y, none⟩) hdq).trans (HDC.out y LW)
     obtain ⟨d, hd'⟩ : ∃ d, D.getD y (-1) = d := ⟨_, rfl⟩
     rw [hd'] at u6
     have acF : sp < W2.heap.size := by omega
     have acO : dq < W2.heap.size := by have := hb2.size; omega
     have sg2 := sg.2
     have HVN := ahM (show (d = -1 ∧ (fun x => V x ∨ x = y) = bO D l) ∨ ∃ y' : Nat, d = (y' : Int) ∧ y' ∈ ord ∧ bO D l y' ∧ (fun x => V x ∨ x = y) = (fun x => bO D l x ∧ ¬ bO D y' x) ∧ pos y' < pos y by
      by_cases h0 : 0 ≤ d
      ·obtain ⟨y', rfl⟩ : ∃ y' : Nat, d = (y' : Int) := ⟨d.toNat, by omega⟩
       obtain ⟨_, u2, u3, _, _⟩ := IT.out.ti.up y y' hd'
       exact .inr ⟨y', rfl, u2, UC.trans (.up hd' (.self _)), by rw [N6]; exact Av IT.out.ti UC hd', u3⟩
      ·have := IT.out.ti.ge y
       exact .inl ⟨by omega, by rw [N6]; exact Aw UC agO⟩)
     clear him hr hk4 hb N6 ZL UC Gu hm2 o1 o2 o3 o5 hgb hr2 hb2 Mi r1 B3 hsc hd' sg wG ZY WE er
     go_wp2_with fail
     refine ⟨⟨fun x => V x ∨ x = y, ?_, M1.out, R1.out, K1.out, M6.out⟩, ?_⟩
     ·rcases HVN.out with ⟨e, h⟩ | ⟨y', e, h1, h2, h3, h4⟩
      ·exact .inr ⟨by rw [e], h⟩
      ·exact .inl ⟨y', by rw [e], h1, h2, h3⟩
     ·rcases HVN.out with ⟨e, h⟩ | ⟨y', e, h1, h2, h3, h4⟩
      ·subst e
       show (if (-1 : Int) < 0 then 0 else _) < (if (y : Int) < 0 then 0 else pos ((y : Int).toNat) + 1)
       rw [if_pos agQ, if_neg agO]
       omega
      ·subst e
       show (if (y' : Int) < 0 then 0 else pos ((y' : Int).toNat) + 1) < (if (y : Int) < 0 then 0 else pos ((y : Int).toNat) + 1)
       rw [if_neg agO, if_neg agO, Int.toNat_natCast, Int.toNat_natCast]
       omega
    ·have d0 : decide ((0 : Int) ≤ -1) = false := by decide
     have Jp := ahM (show wr.ownsRow w.heap.size 3 1 (.slice (some ⟨g, 0, none⟩) G.length G.length) G.length (dQ (jH G.length (ng D (ls.take (i + 1))))) by rw [jl.out, ← He, ← N6]; exact hr)
     clear him hr hk4 hb N6
     go_wp2_with fail
     go_roundw
     case rel => exact ⟨i + 1, by omega, by go_num, Jp.out, HK.out, HB.out⟩
     case measure => simp [intOf]; omega
  ·obtain rfl : m = i := by omega
   have dl : decide ((m : Int) < (m : Int)) = false := by simp
   rw [List.take_of_length_le (by rw [Ty.out]; exact Nat.le_refl _)] at hr
   have wq := ahM hr
   obtain ⟨i2, hi2, hs0, hs1, hs2⟩ := info_parts vz
   obtain ⟨U2, lm, dM, gr1⟩ := run_make_full (P := Tryz.prog) wr w.heap.size 55 4 i2 (.bool false) 1 Tryz.underlying55 hi2 hs0 hs1 .i64 .i64 G.length ahA agS hb.size
   rw [Nat.mul_one, show (Value.bool false).cells = #[Value.bool false] from rfl, toList_madeCells_one] at dM
   obtain ⟨ag, hag⟩ : ∃ q, wr.heap.size = q := ⟨_, rfl⟩
   rw [hag] at lm dM
   have hz : qI (fk G rel D hd bl ls 0) = List.replicate G.length (Value.bool false) := by rw [zC]; simp [qI]
   have yS := ahM (show U2.ownsRow w.heap.size 4 1 (.slice (some ⟨ag, 0, none⟩) G.length G.length) G.length (qI (fk G rel D hd bl ls 0)) by rw [hz]; exact dM)
   have Lj := ahM (hr.kept gr1 (.inr ahw))
   have O1 := ahM ((gr1.block q4 (Array.getElem?_eq_some_iff.1 hk4).1 agT).trans hk4)
   have E0 := ahM (hb.grown gr1 hb.size (fun k hk => by cases hk))
   clear hr hk4 hb dM gr1 hz hi2 hs0 hs1 hs2 i2 hag HR HK HB wq
   go_upto_region 14 with fail
   clear lm
   go_loopw [64] (fun a64 wr => ∃ k : Nat, k ≤ G.length ∧ a64 = .int .i64 (k : Int) ∧ wr.ownsRow w.heap.size 4 1 (.slice (some ⟨ag, 0, none⟩) G.length G.length) G.length (qI (fk G rel D hd bl ls k)) ∧ wr.ownsRow w.heap.size 3 1 (.slice (some ⟨g, 0, none⟩) G.length G.length) G.length (dQ (jH G.length (ng D ls))) ∧ wr.heap[q4]? = some (.cells #[.int .i64 (hd : Int), .slice A1 m1 jG, .slice A2 m fR, .int .i64 p] 46 (0, 0)) ∧ Below w.heap.size w wr) (fun a64 _ => G.length - (intOf a64).toNat)
   case atStart => exact ⟨0, Nat.zero_le _, rfl, yS.out, Lj.out, O1.out, E0.out⟩
   case round =>
    clear yS Lj O1 E0
    obtain ⟨k, hk, rfl, hr, hc, hk4, hb⟩ := hrel
    have HR := ahM hr
    have HC := ahM hc
    have HK := ahM hk4
    have HB := ahM hb
    by_cases hlt : k < G.length
    ·have dl : decide ((k : Int) < (G.length : Int)) = true := decide_eq_true agO
     have ik : (k : Int) < (G.length : Int) := by omega
     have Po : wr.cell? ⟨ig, k, none⟩ = some (.bool (decide ((k : Int) ∈ bl))) := by
      obtain ⟨A', cap', e1, _, _, e4⟩ := O2.out
      rw [gB] at e1 e4
      obtain ⟨b', off, e5, h1, h2⟩ := e4 agO
      cases e1
      cases e5
      have := h2 k hlt
      rw [JR hlt, Nat.zero_add] at this
      exact (hb.cell (p := ⟨ig, k, none⟩) h1).trans this
     have sig : ig < wr.heap.size := by
      obtain ⟨A', cap', e1, _, _, e4⟩ := O2.out
      rw [gB] at e1 e4
      obtain ⟨b', off, e5, h1, h2⟩ := e4 agO
      cases e1
      cases e5
      have := hb.size; omega
     obtain ⟨rq, ro, jt, EJ, hrq, hrc⟩ : ∃ rq ro jt, rv = .slice (some ⟨rq, ro, none⟩) G.length jt ∧ rq < w.heap.size ∧ ∀ k, k < G.length → w.cell? ⟨rq, ro + k, none⟩ = some (.bool (rel.getD k false)) := by
      obtain ⟨A', cap', e1, _, _, e4⟩ := EB.out.rls
      rw [EB.out.lr] at e1 e4
      obtain ⟨b', off, e5, h1, h2⟩ := e4 agO
      exact ⟨b', off, cap', by rw [e1, e5], h1, h2⟩
     have hsc := EB.out.cells
     have Qw : sp < wr.heap.size := by have := hb.size; have := hsc.2.2.2.2.2; omega
     have u3 : wr.cell? ⟨sp, 3, none⟩ = some (.slice (some ⟨rq, ro, none⟩) G.length jt) := by
      rw [← EJ]; exact (hb.cell (p := ⟨sp, 3, none⟩) hsc.2.2.2.2.2).trans hsc.2.2.2.1
     have Pn := (hb.cell (p := ⟨rq, ro + k, none⟩) hrq).trans (hrc k hlt)
     have srq : rq < wr.heap.size := by have := hb.size; omega
     have NF := fG hc (yx _ _) hlt
     rw [BD hlt] at NF
     have sgq := (hc.lt g rfl).2
     obtain ⟨q0, q1, q2, q3, q4s⟩ := cJ hk4
     have pa1 := qV hr (jv _ _ _ _ _ _ _) hlt
     have pa2 := hr.frozenAt k
     have I6 := (hr.lt ag rfl).2
     have QC := (hr.lt ag rfl).1
     obtain ⟨old, hold⟩ : ∃ v, (fk G rel D hd bl ls k).getD k false = v := ⟨_, rfl⟩
     rw [hold] at pa1
     obtain ⟨bi, NZ⟩ : ∃ v, decide ((k : Int) ∈ bl) = v := ⟨_, rfl⟩
     obtain ⟨br, hbr⟩ : ∃ v, rel.getD k false = v := ⟨_, rfl⟩
     obtain ⟨cn, EM⟩ : ∃ v, ng D ls k = v := ⟨_, rfl⟩
     obtain ⟨cy, Mi⟩ : ∃ v : Bool, (v = true ↔ k ≠ hd ∧ Ug (cU G) (sn (gO G.length bl)) hd k) := by
      by_cases h : k ≠ hd ∧ Ug (cU G) (sn (gO G.length bl)) hd k
      ·exact ⟨true, by simp [h]⟩
      ·exact ⟨false, by simp only [Bool.false_eq_true, false_iff]; exact h⟩
     rw [NZ] at Po
     rw [hbr] at Pn
     rw [EM] at NF
     have TT := ahM (show ∀ x : Ext wr, Calls Tryz.prog 78 #[.pointer (some ⟨sp, 0, none⟩), .agg #[.int .i64 (hd : Int), .slice A1 m1 jG, .slice A2 m fR, .int .i64 p], .slice (some ⟨ig, 0, none⟩) G.length fA, .int .i64 (k : Int)] x.w fun e w' => e = .returned (.bool cy) ∧ Below x.w.heap.size x.w w' from fun x => by
      have bx := HB.out.trans (x.h.mono HB.out.size)
      refine (Aq (EB.out.below bx) Ju.out k hd _ _ _ bl (bT ls) p (gO G.length bl) (O2.out.below bx) (gB _ _) hlt (TJ.out.below bx) (YN.out.below bx)).mono ?_
      rintro e w' ⟨⟨r, rfl, hr⟩, hb⟩
      have : r = cy := by rw [Bool.eq_iff_iff, hr, Mi]
      rw [this]
      exact ⟨rfl, hb⟩)
     have RN : q4 ≠ ag := dX hk4 hr agQ ∘ fun e => by rw [e]; rfl
     have mK := ahM (show ∀ W, Below wr.heap.size wr W → ∀ r : Bool, (r = true ↔ lJ G rel D hd bl ls k) → (W.setCell ⟨ag, k, none⟩ (.bool r)).ownsRow w.heap.size 4 1 (.slice (some ⟨ag, 0, none⟩) G.length G.length) G.length (qI (fk G rel D hd bl ls (k + 1))) ∧ (W.setCell ⟨ag, k, none⟩ (.bool r)).ownsRow w.heap.size 3 1 (.slice (some ⟨g, 0, none⟩) G.length G.length) G.length (dQ (jH G.length (ng D ls))) ∧ (W.setCell ⟨ag, k, none⟩ (.bool r)).heap[q4]? = some (.cells #[.int .i64 (hd : Int), .slice A1 m1 jG, .slice A2 m fR, .int .i64 p] 46 (0, 0)) ∧ Below w.heap.size w (W.setCell ⟨ag, k, none⟩ (.bool r)) from fun W hW r hr2 => by
      have h1 := ((ak HR.out hW).stored k (.bool r)).1
      rw [vV, zD hr2] at h1
      have hcW := ak HC.out hW
      refine ⟨h1, hcW.kept (aO W ag k _) (.inr fun e => cT hcW (ak HR.out hW) agQ g rfl (by
        have e2 : g = ag := by injection e
        rw [e2]; rfl)), (Below.heap_setCell _ _ _ _ RN).trans ((hW.block q4 q4s).trans HK.out), (HB.out.trans (hW.mono HB.out.size)).setCell (p := ⟨ag, k, none⟩) QC _⟩)
     have Tp := ahM (show lJ G rel D hd bl ls k ↔ bi = true ∧ br = true ∧ cn = m ∧ cy = false by
      unfold lJ
      rw [← NZ, ← hbr, ← EM, decide_eq_true_eq, ← Ty.out, Hh]
      exact and_congr_right fun _ => and_congr_right fun _ => and_congr_right fun _ => by
       rw [← Mi]; simp)
     clear hr hc hk4 hb EJ hrc hsc hold NZ hbr EM Mi RN QC
     rcases bi with _ | _
     ·have Cf := ahM (show (false = true ↔ lJ G rel D hd bl ls k) by rw [Tp.out]; simp)
      go_upto_region 16 with fail
      refine aI 34 agP agP ?_
      simp only [ahT, List.take_zero, ahU, List.drop_zero]
      repeat (go_big_quiet_step ((go_at_call 78; exact Calls.ax (TT.out _))))
      refine wpQuiet_nil ?_
      rintro _ ⟨x1, rfl⟩
      have a1 := x1.cell ag k I6
      have a2 := x1.frozen ag k I6
      rw [pa1] at a1
      rw [pa2] at a2
      have sa1 : ag < x1.w.heap.size := by have := x1.h.size; omega
      have hN := mK.out x1.w x1.h false Cf.out
      clear pa1 pa2 Po Pn NF u3 q0 q1 q2 q3
      go_wp2_with fail
      go_roundw
      case rel => exact ⟨k + 1, by omega, by go_num, hN.1, hN.2.1, hN.2.2.1, hN.2.2.2⟩
      case measure => simp [intOf]; omega
     rcases br with _ | _
     ·have Cf := ahM (show (false = true ↔ lJ G rel D hd bl ls k) by rw [Tp.out]; simp)
      go_upto_region 16 with fail
      refine aI 34 agP agP ?_
      simp only [ahT, List.take_zero, ahU, List.drop_zero]
      repeat (go_big_quiet_step ((go_at_call 78; exact Calls.ax (TT.out _))))
      refine wpQuiet_nil ?_
      rintro _ ⟨x1, rfl⟩
      have a1 := x1.cell ag k I6
      have a2 := x1.frozen ag k I6
      rw [pa1] at a1
      rw [pa2] at a2
      have sa1 : ag < x1.w.heap.size := by have := x1.h.size; omega
      have hN := mK.out x1.w x1.h false Cf.out
      clear pa1 pa2 Po Pn NF u3 q0 q1 q2 q3
      go_wp2_with fail
      go_roundw
      case rel => exact ⟨k + 1, by omega, by go_num, hN.1, hN.2.1, hN.2.2.1, hN.2.2.2⟩
      case measure => simp [intOf]; omega
     by_cases hcm : cn = m
     case neg =>
      have dcm : ((cn : Int) == (m : Int)) = false := beq_eq_false_iff_ne.2 agO
      have Cf := ahM (show (false = true ↔ lJ G rel D hd bl ls k) by rw [Tp.out]; simp [hcm])
      clear hcm
      go_upto_region 16 with fail
      refine aI 34 agP agP ?_
      simp only [ahT, List.take_zero, ahU, List.drop_zero]
      repeat (go_big_quiet_step ((go_at_call 78; exact Calls.ax (TT.out _))))
      refine wpQuiet_nil ?_
      rintro _ ⟨x1, rfl⟩
      have a1 := x1.cell ag k I6
      have a2 := x1.frozen ag k I6
      rw [pa1] at a1
      rw [pa2] at a2
      have sa1 : ag < x1.w.heap.size := by have := x1.h.size; omega
      have hN := mK.out x1.w x1.h false Cf.out
      clear pa1 pa2 Po Pn NF u3 q0 q1 q2 q3
      go_wp2_with fail
      go_roundw
      case rel => exact ⟨k + 1, by omega, by go_num, hN.1, hN.2.1, hN.2.2.1, hN.2.2.2⟩
      case measure => simp [intOf]; omega
     have dcm : ((cn : Int) == (m : Int)) = true := by simp [hcm]
     rcases cy with _ | _
     ·have Cf := ahM (show (true = true ↔ lJ G rel D hd bl ls k) by rw [Tp.out]; simp [hcm])
      clear hcm
      go_upto_region 16 with fail
      refine aI 34 agP agP ?_
      simp only [ahT, List.take_zero, ahU, List.drop_zero]
      repeat (go_big_quiet_step ((go_at_call 78; exact Calls.ax (TT.out _))))
      refine wpQuiet_nil ?_
      rintro _ ⟨x1, rfl⟩
      have a1 := x1.cell ag k I6
      have a2 := x1.frozen ag k I6
      rw [pa1] at a1
      rw [pa2] at a2
      have sa1 : ag < x1.w.heap.size := by have := x1.h.size; omega
      have hN := mK.out x1.w x1.h true Cf.out
      clear pa1 pa2 Po Pn NF u3 q0 q1 q2 q3
      go_wp2_with fail
      go_roundw
      case rel => exact ⟨k + 1, by omega, by go_num, hN.1, hN.2.1, hN.2.2.1, hN.2.2.2⟩
      case measure => simp [intOf]; omega
     have Cf := ahM (show (false = true ↔ lJ G rel D hd bl ls k) by rw [Tp.out]; simp)
     clear hcm
     go_upto_region 16 with fail
     refine aI 34 agP agP ?_
     simp only [ahT, List.take_zero, ahU, List.drop_zero]
     repeat (go_big_quiet_step ((go_at_call 78; exact Calls.ax (TT.out _))))
     refine wpQuiet_nil ?_
     rintro _ ⟨x1, rfl⟩
     have a1 := x1.cell ag k I6
     have a2 := x1.frozen ag k I6
     rw [pa1] at a1
     rw [pa2] at a2
     have sa1 : ag < x1.w.heap.size := by have := x1.h.size; omega
     have hN := mK.out x1.w x1.h false Cf.out
     clear pa1 pa2 Po Pn NF u3 q0 q1 q2 q3
     go_wp2_with fail
     go_roundw
     case rel => exact ⟨k + 1, by omega, by go_num, hN.1, hN.2.1, hN.2.2.1, hN.2.2.2⟩
     case measure => simp [intOf]; omega
    ·obtain rfl : k = G.length := by omega
     have dl : decide ((G.length : Int) < (G.length : Int)) = false := by simp
     clear hr hc hk4 hb
     go_wp2_with fail
     go_ret
     exact ⟨ag, rfl, HR.out, HB.out⟩
end
section
open Go.RowKit
def Qs (i : Ins) : Bool := aU i && (fm i.op.toNat).wr && decide (i.a ≠ 0)
theorem za (i : Ins) (h0 : 0 ≤ i.op) (w : World) (T : gL w) :
  Calls Tryz.prog 77 #[.agg #[.int .u8 i.op, .int .i64 i.a, .int .i64 i.b, .int .i64 i.c, .int .i64 i.aP]] w fun e w' => e = .returned (.tuple #[.int .i64 (if Qs i = true then i.a else 0), .bool (Qs i)]) ∧ Below w.heap.size w w' := by
 have HV : ∀ W, gL W → Calls Tryz.prog 55 #[.agg #[.int .u8 i.op, .int .i64 i.a, .int .i64 i.b, .int .i64 i.c, .int .i64 i.aP]] W fun e w' => e = .returned (.bool (aU i)) ∧ Below W.heap.size W w' := fun W hT => dK i h0 W hT
 obtain ⟨v, hv⟩ : ∃ v, aU i = v := ⟨_, rfl⟩
 obtain ⟨r, hr⟩ : ∃ r, Qs i = r := ⟨_, rfl⟩
 rw [hv] at HV
 have HR := ahM (show r = (v && (fm i.op.toNat).wr && decide (i.a ≠ 0)) by rw [← hr, ← hv]; rfl)
 rw [hr]
 obtain ⟨z, hz⟩ : ∃ z, (if r = true then i.a else 0) = z := ⟨_, rfl⟩
 rw [hz]
 have HZ := ahM hz
 clear hz
 have Tb := ahM (show v = true → i.op < 30 from fun hh => by
  rw [← hv] at hh; unfold aU at hh
  rw [Bool.and_eq_true] at hh
  exact of_decide_eq_true hh.1)
 clear hv hr
 obtain ⟨op, a, b, c, aP⟩ := i
 simp only at HV h0
 obtain ⟨X, hX⟩ : ∃ X, w.alloc (.cells #[.int .u8 op, .int .i64 a, .int .i64 b, .int .i64 c, .int .i64 aP] 67) = X := ⟨_, rfl⟩
 obtain ⟨q, hq⟩ : ∃ q, w.heap.size = q := ⟨_, rfl⟩
 have bX : Below w.heap.size w X := hX ▸ (Below.refl _ _).alloc (Nat.le_refl _) _
 have kX : X.heap[q]? = some (.cells #[.int .u8 op, .int .i64 a, .int .i64 b, .int .i64 c, .int .i64 aP] 67 (0, 0)) := by rw [← hq, ← hX]; exact heap_alloc_new _ _
 have c0 : X.cell? ⟨q, 0, none⟩ = some (.int .u8 op) := by simp [World.cell?, kX]
 have c1 : X.cell? ⟨q, 1, none⟩ = some (.int .i64 a) := by simp [World.cell?, kX]
 have c2 : X.cell? ⟨q, 2, none⟩ = some (.int .i64 b) := by simp [World.cell?, kX]
 have c3 : X.cell? ⟨q, 3, none⟩ = some (.int .i64 c) := by simp [World.cell?, kX]
 have c4 : X.cell? ⟨q, 4, none⟩ = some (.int .i64 aP) := by simp [World.cell?, kX]
 have sq : q < X.heap.size := (Array.getElem?_eq_some_iff.1 kX).1
 have HC := ahM (show Calls Tryz.prog 55 #[.agg #[.int .u8 op, .int .i64 a, .int .i64 b, .int .i64 c, .int .i64 aP]] X fun e w' => e = .returned (.bool v) ∧ Below X.heap.size X w' from HV X (T.below bX))
 have BX := ahM bX
 have HT := ahM (T.below bX)
 go_enter Tryz.func77, Tryz.ntmps77
 cases v with
 | false =>
  have HF := ahM (show r = false by rw [HR.out]; rfl)
  go_wp2_with (go_at_call 55; refine (Calls.ext HC.out).mono ?_; rintro e w' ⟨rfl, y, rfl⟩)
  go_ret2
  exact ⟨by rw [← HZ.out, HF.out]; rfl, Ext.below (hq ▸ BX.out) ahd y⟩
 | true =>
  obtain ⟨k, rfl⟩ : ∃ k : Nat, op = (k : Int) := ⟨op.toNat, by omega⟩
  have hk : k < 30 := by have := Tb.out rfl; simp only at this; omega
  have ct := (T.below bX).cells k hk 3 (.bool (fm k).wr) rfl
  have U9 := (T.below bX).pos
  have wq := ahM (show r = ((fm k).wr && decide (a ≠ 0)) by rw [HR.out]; simp)
  obtain ⟨wr, hwr⟩ : ∃ wr, (fm k).wr = wr := ⟨_, rfl⟩
  rw [hwr] at ct wq
  clear HR Tb hwr HV T
  cases wr with
  | false =>
   have HF := ahM (show r = false by rw [wq.out]; rfl)
   go_wp2_with (go_at_call 55; refine (Calls.ext HC.out).mono ?_; rintro e w' ⟨rfl, y, rfl⟩)
   go_ret2
   exact ⟨by rw [← HZ.out, HF.out]; rfl, Ext.below (hq ▸ BX.out) ahd y⟩
  | true =>
   by_cases ha : a = 0
   ·have da : (a == 0) = true := by simp [ha]
    have HF := ahM (show r = false by rw [wq.out]; simp [ha])
    clear ha
    go_wp2_with (go_at_call 55; refine (Calls.ext HC.out).mono ?_; rintro e w' ⟨rfl, y, rfl⟩)
    go_ret2
    exact ⟨by rw [← HZ.out, HF.out]; rfl, Ext.below (hq ▸ BX.out) ahd y⟩
   ·have da : (a == 0) = false := by simp [ha]
    have HF := ahM (show r = true by rw [wq.out]; simp [ha])
    clear ha
    go_wp2_with (go_at_call 55; refine (Calls.ext HC.out).mono ?_; rintro e w' ⟨rfl, y, rfl⟩)
    go_ret2
    exact ⟨by rw [← HZ.out, HF.out]; rfl, Ext.below (hq ▸ BX.out) ahd y⟩
end
section
open Go.RowKit
structure Cs where
 wr : Nat
 st : Nat
 bd : Int
 fd : Bool
def cW (bP : Int) (i : Ins) : Bool := Qs i && decide (i.a = bP)
def cS (bP : Int) (i : Ins) : Bool := decide (i = ⟨15, bP, bP, 0, 1⟩)
def cB (bP : Int) (i : Ins) : Bool := decide (i.op = 25) && decide (i.a = bP)
def nY (bP : Int) (pb : Bool) (s : Cs) (i : Ins) : Cs :=
 let t := cB bP i && pb && (!s.fd || decide (i.aP < s.bd))
 ⟨s.wr + (cW bP i).toNat, s.st + (cW bP i && (cS bP i && pb)).toNat, if t = true then i.aP else s.bd, s.fd || t⟩
def fZ (bP : Int) (pb : Bool) (s : Cs) (l : List Ins) : Cs := l.foldl (nY bP pb) s
def Kv (bP : Int) (inl pl : List Bool) (C : List (List Ins)) (s : Cs) (b : Nat) : Cs :=
 if inl.getD b false = true then fZ bP (pl.getD b false) s (C.getD b []) else s
def jk (bP : Int) (inl pl : List Bool) (C : List (List Ins)) (k : Nat) : Cs := (List.range k).foldl (Kv bP inl pl C) ⟨0, 0, 0, false⟩
def tL (bP : Int) (s : Cs) : Int × Bool :=
 if bP < 10 ∨ 13 < bP then (0, false) else if s.wr ≠ 1 ∨ s.st ≠ 1 ∨ s.fd = false then (0, false) else (s.bd, true)
theorem AD (bP : Int) (pb : Bool) (s : Cs) {l : List Ins} {j : Nat} {i : Ins} (h : l[j]? = some i) : fZ bP pb s (l.take (j + 1)) = nY bP pb (fZ bP pb s (l.take j)) i := by
 unfold fZ
 rw [List.take_add_one, h, List.foldl_append]
 rfl
theorem Hp (bP : Int) (pb : Bool) (s : Cs) (i : Ins) : (nY bP pb s i).wr ≤ s.wr + 1 ∧ (nY bP pb s i).st ≤ s.st + 1 := by
 unfold nY
 simp only
 have := Bool.toNat_le (cW bP i)
 have := Bool.toNat_le (cW bP i && (cS bP i && pb))
 omega
theorem r9 (bP : Int) (pb : Bool) : ∀ (l : List Ins) (s : Cs), (fZ bP pb s l).wr ≤ s.wr + l.length ∧ (fZ bP pb s l).st ≤ s.st + l.length
 | [], s => ⟨Nat.le_refl _, Nat.le_refl _⟩
 | i :: l, s => by
  have h1 := Hp bP pb s i
  have h2 := r9 bP pb l (nY bP pb s i)
  rw [List.length_cons]
  show (fZ bP pb (nY bP pb s i) l).wr ≤ _ ∧ (fZ bP pb (nY bP pb s i) l).st ≤ _
  omega
theorem uK (bP : Int) (inl pl : List Bool) (C : List (List Ins)) (k : Nat) : jk bP inl pl C (k + 1) = Kv bP inl pl C (jk bP inl pl C k) k := by
 unfold jk
 rw [List.range_succ, List.foldl_append]
 rfl
theorem BH (bP : Int) (inl pl : List Bool) (C : List (List Ins)) (k : Nat) (hk : k ≤ C.length) : (jk bP inl pl C k).wr ≤ (C.take k).flatten.length ∧ (jk bP inl pl C k).st ≤ (C.take k).flatten.length := by
 induction k with
 | zero => exact ⟨Nat.le_refl _, Nat.le_refl _⟩
 | succ k ih =>
  have h1 := ih agO
  rw [uK, List.take_add_one, List.getElem?_eq_getElem (by omega : k < C.length)]
  simp only [Option.toList_some, List.flatten_append, List.flatten_cons, List.flatten_nil, List.append_nil, List.length_append]
  unfold Kv
  split
  ·rw [show C.getD k [] = C[k]'agO by simp [List.getD, List.getElem?_eq_getElem (by omega : k < C.length)]]
   have := r9 bP (pl.getD k false) (C[k]'agO) (jk bP inl pl C k)
   omega
  ·omega
end
section
open Go.RowKit
theorem GV {P : Program} (d : Nat) {t : TypeId} {k : IntKind} (h : P.underlying t = some (.int k)) (a b : Int) (w : World) : (Op.equalIn (d + 1) t (.int k a) (.int k b)).run P w = .ok (a == b) w := by
 simp [Op.equalIn, run_underlying h]
theorem Nj (a b c d e : Int) (w : World) : (part 5 #[.int .u8 a, .int .i64 b, .int .i64 c, .int .i64 d, .int .i64 e] 0).run Tryz.prog w = .ok (.int .u8 a) w := by kernel_rfl
theorem Ni (a b c d e : Int) (w : World) : (part 3 #[.int .u8 a, .int .i64 b, .int .i64 c, .int .i64 d, .int .i64 e] 1).run Tryz.prog w = .ok (.int .i64 b) w := by kernel_rfl
theorem Nh (a b c d e : Int) (w : World) : (part 3 #[.int .u8 a, .int .i64 b, .int .i64 c, .int .i64 d, .int .i64 e] 2).run Tryz.prog w = .ok (.int .i64 c) w := by kernel_rfl
theorem Ng (a b c d e : Int) (w : World) : (part 3 #[.int .u8 a, .int .i64 b, .int .i64 c, .int .i64 d, .int .i64 e] 3).run Tryz.prog w = .ok (.int .i64 d) w := by kernel_rfl
theorem Nf (a b c d e : Int) (w : World) : (part 3 #[.int .u8 a, .int .i64 b, .int .i64 c, .int .i64 d, .int .i64 e] 4).run Tryz.prog w = .ok (.int .i64 e) w := by kernel_rfl
theorem Km (n : Nat) (a b c d e a' b' c' d' e' : Int) (w : World) : (Op.equalIn (n + 1 + 1) 67 (.agg #[.int .u8 a, .int .i64 b, .int .i64 c, .int .i64 d, .int .i64 e]) (.agg #[.int .u8 a', .int .i64 b', .int .i64 c', .int .i64 d', .int .i64 e'])).run Tryz.prog w = .ok (decide ((⟨a, b, c, d, e⟩ : Ins) = ⟨a', b', c', d', e'⟩)) w := by
 have e3 : ∀ (a b : Int) (w : World), (Op.equalIn (n + 1) 3 (.int .i64 a) (.int .i64 b)).run Tryz.prog w = .ok (a == b) w := fun a b w => GV n Tryz.underlying3 a b w
 have e5 : ∀ (a b : Int) (w : World), (Op.equalIn (n + 1) 5 (.int .u8 a) (.int .u8 b)).run Tryz.prog w = .ok (a == b) w := fun a b w => GV n Tryz.underlying5 a b w
 rw [Op.equalIn]
 simp [run_underlying Tryz.underlying67, e3, e5, Nj, Ni, Nh, Ng, Nf, Sem.run_bind]
 by_cases h1 : a = a' <;> by_cases h2 : b = b' <;> by_cases h3 : c = c' <;> by_cases h4 : d = d' <;> by_cases h5 : e = e' <;> simp [h1, h2, h3, h4, h5]
theorem Sc (a b c d e a' b' c' d' e' : Int) (w : World) : (binOp .eql 67 (.agg #[.int .u8 a, .int .i64 b, .int .i64 c, .int .i64 d, .int .i64 e]) (.agg #[.int .u8 a', .int .i64 b', .int .i64 c', .int .i64 d', .int .i64 e'])).run Tryz.prog w = .ok (.bool (decide ((⟨a, b, c, d, e⟩ : Ins) = ⟨a', b', c', d', e'⟩))) w := by
 simp only [binOp]
 simp [Op.equal, Op.maxDepth, Km 9998]
end
section
open Go.RowKit
theorem B8 (a b : Int) : (a == b) = decide (a = b) := by by_cases h : a = b <;> simp [h]
theorem FY {C : List (List Ins)} {x : List Ins} (h : x ∈ C) : x.length ≤ C.flatten.length := (List.sublist_flatten_of_mem h).length_le
theorem rX {w : World} {sp : Nat} {bv pv cv rv dv : Value} {G : List aZ} {C : List (List Ins)} {rel : List Bool} {D : List Int} (HS : Ez w sp bv pv cv rv dv G C rel D) (hn : G.length ≤ 5000) (T : gL w) (vE : ∀ l ∈ C, ∀ i ∈ l, 0 ≤ i.op) (hfl : C.flatten.length ≤ 1000000000000000) (hd p : Int) (l1 l2 iv qv : Value) (inl pl : List Bool) (HI : s8 w iv inl) (hil : inl.length = G.length) (HP : s8 w qv pl) (hpl : pl.length = G.length) (bP : Int) :
  Calls Tryz.prog 47 #[.pointer (some ⟨sp, 0, none⟩), .agg #[.int .i64 hd, l1, l2, .int .i64 p], iv, qv, .int .i64 bP] w fun e w' => e = .returned (.tuple #[.int .i64 (tL bP (jk bP inl pl C G.length)).1, .bool (tL bP (jk bP inl pl C G.length)).2]) ∧ Below w.heap.size w w' := by
 obtain ⟨r, hr⟩ : ∃ r, tL bP (jk bP inl pl C G.length) = r := ⟨_, rfl⟩
 rw [hr]
 obtain ⟨r1, r2⟩ := r
 simp only
 obtain ⟨IA, fA, hiv, hi1, hi2⟩ : ∃ A cap, iv = .slice A G.length cap ∧ G.length ≤ cap ∧ cap ≤ maxLen := by
  obtain ⟨A, cap, e, h1, h2, _⟩ := HI
  exact ⟨A, cap, by rw [e, hil], by omega, h2⟩
 subst hiv
 obtain ⟨PA, aT, hqv, hp1, hp2⟩ : ∃ A cap, qv = .slice A G.length cap ∧ G.length ≤ cap ∧ cap ≤ maxLen := by
  obtain ⟨A, cap, e, h1, h2, _⟩ := HP
  exact ⟨A, cap, by rw [e, hpl], by omega, h2⟩
 subst hqv
 have HR := ahM hr
 have EB := ahM HS
 have TH := ahM T
 have HO := ahM vE
 have O7 := ahM hfl
 have O2 := ahM HI
 have OW := ahM HP
 have P7 := ahM hil
 have wK := ahM hpl
 clear hr T vE hfl HI HP hil hpl
 obtain ⟨CA, cV, hcv, hc1, hc2⟩ : ∃ A cap, cv = .slice A G.length cap ∧ G.length ≤ cap ∧ cap ≤ maxLen := by
  obtain ⟨A, cap, h1, h2, h3, h4⟩ := HS.Mq
  rw [HS.lc] at h1 h2
  exact ⟨A, cap, h1, h2, h3⟩
 subst hcv
 obtain ⟨W1, hW1⟩ : ∃ W, w.alloc (.cells #[.int .i64 hd, l1, l2, .int .i64 p] 46) = W := ⟨_, rfl⟩
 have b1 : Below w.heap.size w W1 := hW1 ▸ (Below.refl _ _).alloc (Nat.le_refl _) _
 have c2 : W1.cell? ⟨sp, 2, none⟩ = some (.slice CA G.length cV) := (b1.cell (p := ⟨sp, 2, none⟩) HS.cells.2.2.2.2.2).trans HS.cells.2.2.1
 have Qw : sp < W1.heap.size := by have := b1.size; have := HS.cells.2.2.2.2.2; omega
 have B1 := ahM b1
 clear HS b1
 go_enter Tryz.func47, Tryz.ntmps47
 by_cases h1 : bP < 10
 ·have d1 : decide (bP < 10) = true := decide_eq_true h1
  have HF := ahM (show (r1, r2) = (0, false) by rw [← HR.out]; unfold tL; rw [if_pos (.inl h1)])
  go_wp2_with fail
  go_ret2
  have h := HF.out
  injection h with h2 h3
  exact ⟨by rw [h2, h3]; rfl, by first | exact B1.out | exact hW1 ▸ B1.out⟩
 have d1 : decide (bP < 10) = false := decide_eq_false h1
 by_cases h2 : 13 < bP
 ·have d2 : decide (13 < bP) = true := decide_eq_true h2
  have HF := ahM (show (r1, r2) = (0, false) by rw [← HR.out]; unfold tL; rw [if_pos (.inr h2)])
  go_wp2_with fail
  go_ret2
  have h := HF.out
  injection h with h2 h3
  exact ⟨by rw [h2, h3]; rfl, by first | exact B1.out | exact hW1 ▸ B1.out⟩
 have d2 : decide (13 < bP) = false := decide_eq_false h2
 have MV := ahM (show ¬ (bP < 10 ∨ 13 < bP) by omega)
 clear h1 h2
 go_upto_region 7 with fail
 obtain ⟨W2, hW2⟩ : ∃ W, W1.alloc (.cells #[.int .u8 15, .int .i64 bP, .int .i64 bP, .int .i64 0, .int .i64 1] 67) = W := ⟨_, rfl⟩
 rw [hW2]
 obtain ⟨g, hg⟩ : ∃ q, W1.heap.size = q := ⟨_, rfl⟩
 rw [hg]
 have K2 := ahM (show W2.heap[g]? = some (.cells #[.int .u8 15, .int .i64 bP, .int .i64 bP, .int .i64 0, .int .i64 1] 67 (0, 0)) by rw [← hg, ← hW2]; exact heap_alloc_new _ _)
 have B2 := ahM (show Below w.heap.size w W2 by rw [← hW2]; exact B1.out.alloc B1.out.size _)
 clear hW2 hW1 c2 Qw hg B1
 go_loopw [12, 13, 14, 15, 37] (fun a12 a13 a14 a15 a37 wr => ∃ k : Nat, k ≤ G.length ∧ a37 = .int .i64 (k : Int) ∧ a12 = .int .i64 ((jk bP inl pl C k).wr : Int) ∧ a13 = .int .i64 ((jk bP inl pl C k).st : Int) ∧ a14 = .int .i64 (jk bP inl pl C k).bd ∧ a15 = .bool (jk bP inl pl C k).fd ∧ wr.heap[g]? = some (.cells #[.int .u8 15, .int .i64 bP, .int .i64 bP, .int .i64 0, .int .i64 1] 67 (0, 0)) ∧ Below w.heap.size w wr) (fun _ _ _ _ a37 _ => G.length - (intOf a37).toNat)
 case atStart => exact ⟨0, Nat.zero_le _, rfl, rfl, rfl, rfl, rfl, K2.out, B2.out⟩
 case round =>
  clear K2 B2
  obtain ⟨k, hk, rfl, rfl, rfl, rfl, rfl, hg, hb⟩ := hrel
  have HG := ahM hg
  have HB := ahM hb
  obtain ⟨s, hs⟩ : ∃ s, jk bP inl pl C k = s := ⟨_, rfl⟩
  rw [hs]
  have HS := ahM hs
  obtain ⟨sw, ss, sb, sf⟩ := s
  simp only
  clear hs
  by_cases hlt : k < G.length
  ·have dl : decide ((k : Int) < (G.length : Int)) = true := decide_eq_true agO
   obtain ⟨ib, io, hIA, hib, hic⟩ : ∃ b o, IA = some ⟨b, o, none⟩ ∧ b < w.heap.size ∧ w.cell? ⟨b, o + k, none⟩ = some (.bool (inl.getD k false)) := by
    obtain ⟨A', cap', e1, _, _, e4⟩ := O2.out
    rw [P7.out] at e1 e4
    cases e1
    obtain ⟨b', off, e5, h1, h2⟩ := e4 agO
    exact ⟨b', off, e5, h1, h2 k hlt⟩
   obtain ⟨pb, po, RR, hpb, hpc⟩ : ∃ b o, PA = some ⟨b, o, none⟩ ∧ b < w.heap.size ∧ w.cell? ⟨b, o + k, none⟩ = some (.bool (pl.getD k false)) := by
    obtain ⟨A', cap', e1, _, _, e4⟩ := OW.out
    rw [wK.out] at e1 e4
    cases e1
    obtain ⟨b', off, e5, h1, h2⟩ := e4 agO
    exact ⟨b', off, e5, h1, h2 k hlt⟩
   obtain ⟨cb, co, u, x, Xr, hcb, hx, Xf, oU⟩ : ∃ b o u x, CA = some ⟨b, o, none⟩ ∧ b < w.heap.size ∧ C[k]? = some x ∧ w.cell? ⟨b, o + k, none⟩ = some u ∧ Ql w u x := by
    obtain ⟨A', cap', e1, _, _, e4⟩ := EB.out.Mq
    have hlc := EB.out.lc
    rw [hlc] at e1 e4
    cases e1
    obtain ⟨b', off, e5, h1, h2⟩ := e4 agO
    obtain ⟨u, h3, h4⟩ := h2 k _ (List.getElem?_eq_getElem (show k < C.length by omega))
    exact ⟨b', off, u, _, e5, h1, List.getElem?_eq_getElem (show k < C.length by omega), h3, h4⟩
   obtain ⟨XA, acy, rfl, hx1, hx2, hx4⟩ := oU
   obtain ⟨m, hm⟩ : ∃ m, x.length = m := ⟨_, rfl⟩
   have adB : m ≤ 1000000000000000 := by have := FY (List.mem_of_getElem? hx); have := O7.out; omega
   rw [hm] at Xf hx1 hx4
   obtain ⟨ZF, NR⟩ : ∃ b, inl.getD k false = b := ⟨_, rfl⟩
   obtain ⟨tV, NL⟩ : ∃ b, pl.getD k false = b := ⟨_, rfl⟩
   rw [NR] at hic
   rw [NL] at hpc
   have hS1 := uK bP inl pl C k
   rw [HS.out] at hS1
   unfold Kv at hS1
   rw [NR, NL, show C.getD k [] = x by simp [List.getD, hx]] at hS1
   have MU := ahM hS1
   have i1 := (hb.cell (p := ⟨ib, io + k, none⟩) hib).trans hic
   have i2 := (hb.cell (p := ⟨pb, po + k, none⟩) hpb).trans hpc
   have i3 := (hb.cell (p := ⟨cb, co + k, none⟩) hcb).trans Xf
   have HX := ahM hx
   have HX4 := ahM hx4
   have HM := ahM hm
   have DR := hb.size
   have s1 : ib < wr.heap.size := by omega
   have s2 : pb < wr.heap.size := by omega
   have s3 : cb < wr.heap.size := by omega
   have WL := hpc
   clear hic hpc Xf hS1 hx hx4 hm hb hg DR NR NL
   subst hIA RR Xr
   have MX := ahM (show k + 1 ≤ G.length from hlt)
   have O1 := ahM (show G.length - (k + 1) < G.length - k by omega)
   cases ZF with
   | false =>
    have HN := ahM (show jk bP inl pl C (k + 1) = ⟨sw, ss, sb, sf⟩ by rw [MU.out]; rfl)
    go_wp2_with fail
    go_roundw
    case rel => exact ⟨k + 1, MX.out, by go_num, by rw [HN.out], by rw [HN.out], by rw [HN.out], by rw [HN.out], HG.out, HB.out⟩
    case measure => simp [intOf]; omega
   | true =>
    have HN := ahM (show jk bP inl pl C (k + 1) = fZ bP tV ⟨sw, ss, sb, sf⟩ x by rw [MU.out]; rfl)
    have HW := ahM (show ∀ j, j ≤ m → (fZ bP tV ⟨sw, ss, sb, sf⟩ (x.take j)).wr ≤ 1000000000000000 ∧ (fZ bP tV ⟨sw, ss, sb, sf⟩ (x.take j)).st ≤ 1000000000000000 from fun j hj => by
     have h1 := BH bP inl pl C (k + 1) (by rw [EB.out.lc]; exact MX.out)
     have h0 := BH bP inl pl C k (by rw [EB.out.lc]; omega)
     rw [HS.out] at h0
     have h2 := r9 bP tV (x.take j) ⟨sw, ss, sb, sf⟩
     have h3 : (C.take k).flatten.length + x.length ≤ C.flatten.length := by
      have e : C.take (k + 1) = C.take k ++ [x] := by rw [List.take_add_one, HX.out]; rfl
      have e2 : C = C.take (k + 1) ++ C.drop (k + 1) := (List.take_append_drop _ _).symm
      rw [e] at e2
      have e3 := congrArg (fun l => l.flatten.length) e2
      simp only [List.flatten_append, List.length_append, List.flatten_cons, List.flatten_nil, List.append_nil] at e3
      omega
     have h4 := O7.out
     have h5 : (x.take j).length ≤ x.length := by rw [List.length_take]; omega
     simp only at h0 h2
     omega)
    go_upto_region 11 with fail
    clear i1 i2 i3 s1 s2 s3
    go_loopw [12, 13, 14, 15, 49] (fun a12 a13 a14 a15 a49 wx => ∃ j : Nat, j ≤ m ∧ a49 = .int .i64 (j : Int) ∧ a12 = .int .i64 ((fZ bP tV ⟨sw, ss, sb, sf⟩ (x.take j)).wr : Int) ∧ a13 = .int .i64 ((fZ bP tV ⟨sw, ss, sb, sf⟩ (x.take j)).st : Int) ∧ a14 = .int .i64 (fZ bP tV ⟨sw, ss, sb, sf⟩ (x.take j)).bd ∧ a15 = .bool (fZ bP tV ⟨sw, ss, sb, sf⟩ (x.take j)).fd ∧ wx.heap[g]? = some (.cells #[.int .u8 15, .int .i64 bP, .int .i64 bP, .int .i64 0, .int .i64 1] 67 (0, 0)) ∧ Below w.heap.size w wx) (fun _ _ _ _ a49 _ => m - (intOf a49).toNat)
    case atStart => exact ⟨0, Nat.zero_le _, rfl, rfl, rfl, rfl, rfl, HG.out, HB.out⟩
    case round =>
     obtain ⟨j, hj, rfl, rfl, rfl, rfl, rfl, hgx, Ka⟩ := hrel
     have YQ := ahM hgx
     have kJ := ahM Ka
     have hw := HW.out j hj
     obtain ⟨s2, hs2⟩ : ∃ s2, fZ bP tV ⟨sw, ss, sb, sf⟩ (x.take j) = s2 := ⟨_, rfl⟩
     rw [hs2] at hw ⊢
     have EU := ahM hs2
     obtain ⟨tw, ts, tb, tf⟩ := s2
     simp only at hw ⊢
     obtain ⟨hw1, hw2⟩ := hw
     clear hs2 hgx Ka
     by_cases hjm : j < m
     ·have dj : decide ((j : Int) < (m : Int)) = true := decide_eq_true agO
      have wC := ahM (show j + 1 ≤ m from hjm)
      obtain ⟨i, hi⟩ : ∃ i, x[j]? = some i := ⟨_, List.getElem?_eq_getElem (by rw [HM.out]; exact hjm)⟩
      obtain ⟨xb, xo, hXA, hxb, ZN⟩ := HX4.out agO
      have hc := ZN j i hi
      obtain ⟨op, ia, ib2, ic, im⟩ := i
      have e0 := (kJ.out.cell (p := ⟨xb, _, none⟩) hxb).trans (hc 0 _ rfl)
      have e1 := (kJ.out.cell (p := ⟨xb, _, none⟩) hxb).trans (hc 1 _ rfl)
      have e2 := (kJ.out.cell (p := ⟨xb, _, none⟩) hxb).trans (hc 2 _ rfl)
      have e3 := (kJ.out.cell (p := ⟨xb, _, none⟩) hxb).trans (hc 3 _ rfl)
      have e4 := (kJ.out.cell (p := ⟨xb, _, none⟩) hxb).trans (hc 4 _ rfl)
      rw [Nat.add_zero] at e0
      have hop : 0 ≤ op := HO.out x (List.mem_of_getElem? HX.out) _ (List.mem_of_getElem? hi)
      have A6 := ahM (show fZ bP tV ⟨sw, ss, sb, sf⟩ (x.take (j + 1)) = nY bP tV ⟨tw, ts, tb, tf⟩ ⟨op, ia, ib2, ic, im⟩ by rw [AD bP tV _ hi, EU.out])
      have sxb : xb < wr.heap.size := by have := kJ.out.size; omega
      subst hXA
      clear hc ZN hi
      go_upto_region 13 with fail
      obtain ⟨qb, zT⟩ : ∃ q, wr.heap.size = q := ⟨_, rfl⟩
      obtain ⟨WB, UD⟩ : ∃ W, wr.alloc (.cells #[.int .u8 op, .int .i64 ia, .int .i64 ib2, .int .i64 ic, .int .i64 im] 67) = W := ⟨_, rfl⟩
      rw [UD, zT]
      have XP : Below wr.heap.size wr WB := UD ▸ (Below.refl _ _).alloc (Nat.le_refl _) _
      have kB : WB.heap[qb]? = some (.cells #[.int .u8 op, .int .i64 ia, .int .i64 ib2, .int .i64 ic, .int .i64 im] 67 (0, 0)) := by rw [← zT, ← UD]; exact heap_alloc_new _ _
      have sqb : qb < WB.heap.size := (Array.getElem?_eq_some_iff.1 kB).1
      have b0 : WB.cell? ⟨qb, 0, none⟩ = some (.int .u8 op) := by simp [World.cell?, kB]
      have b1 : WB.cell? ⟨qb, 1, none⟩ = some (.int .i64 ia) := by simp [World.cell?, kB]
      have b2 : WB.cell? ⟨qb, 2, none⟩ = some (.int .i64 ib2) := by simp [World.cell?, kB]
      have b3 : WB.cell? ⟨qb, 3, none⟩ = some (.int .i64 ic) := by simp [World.cell?, kB]
      have b4 : WB.cell? ⟨qb, 4, none⟩ = some (.int .i64 im) := by simp [World.cell?, kB]
      have sg0 : g < wr.heap.size := (Array.getElem?_eq_some_iff.1 YQ.out).1
      have kG : WB.heap[g]? = some (.cells #[.int .u8 15, .int .i64 bP, .int .i64 bP, .int .i64 0, .int .i64 1] 67 (0, 0)) := (XP.block g sg0).trans YQ.out
      have sg : g < WB.heap.size := (Array.getElem?_eq_some_iff.1 kG).1
      have d0 : WB.cell? ⟨g, 0, none⟩ = some (.int .u8 15) := by simp [World.cell?, kG]
      have d1' : WB.cell? ⟨g, 1, none⟩ = some (.int .i64 bP) := by simp [World.cell?, kG]
      have d2' : WB.cell? ⟨g, 2, none⟩ = some (.int .i64 bP) := by simp [World.cell?, kG]
      have d3 : WB.cell? ⟨g, 3, none⟩ = some (.int .i64 0) := by simp [World.cell?, kG]
      have d4 : WB.cell? ⟨g, 4, none⟩ = some (.int .i64 1) := by simp [World.cell?, kG]
      have bB : Below w.heap.size w WB := kJ.out.trans (XP.mono kJ.out.size)
      have pc : WB.cell? ⟨pb, po + k, none⟩ = some (.bool tV) := (bB.cell (p := ⟨pb, po + k, none⟩) hpb).trans WL
      have Qy : pb < WB.heap.size := by have := bB.size; omega
      have wB := ahM kG
      have jI := ahM bB
      obtain ⟨bw, kf⟩ : ∃ b, Qs ⟨op, ia, ib2, ic, im⟩ = b := ⟨_, rfl⟩
      have Ww := za ⟨op, ia, ib2, ic, im⟩ hop WB (TH.out.below bB)
      rw [kf] at Ww
      have wm := ahM Ww
      clear e0 e1 e2 e3 e4 sxb XP kB kG bB UD zT sg0 Ww hop
      obtain ⟨qa, DF⟩ : ∃ b : Bool, (ia == bP) = b := ⟨_, rfl⟩
      obtain ⟨q5, hq5⟩ : ∃ b : Bool, (op == 25) = b := ⟨_, rfl⟩
      obtain ⟨ql, Py⟩ : ∃ b : Bool, decide (im < tb) = b := ⟨_, rfl⟩
      obtain ⟨qs, WD⟩ : ∃ b : Bool, decide ((⟨op, ia, ib2, ic, im⟩ : Ins) = ⟨15, bP, bP, 0, 1⟩) = b := ⟨_, rfl⟩
      have HEQ : ∀ W, (binOp .eql 67 (.agg #[.int .u8 op, .int .i64 ia, .int .i64 ib2, .int .i64 ic, .int .i64 im]) (.agg #[.int .u8 15, .int .i64 bP, .int .i64 bP, .int .i64 0, .int .i64 1])).run Tryz.prog W = .ok (.bool qs) W := fun W => by rw [← WD]; exact Sc _ _ _ _ _ _ _ _ _ _ _
      have eE := ahM (show fZ bP tV ⟨sw, ss, sb, sf⟩ (x.take (j + 1)) = ⟨tw + (bw && qa).toNat, ts + ((bw && qa) && (qs && tV)).toNat, if ((q5 && qa && tV) && (!tf || ql)) = true then im else tb, tf || ((q5 && qa && tV) && (!tf || ql))⟩ by
       rw [A6.out, ← kf, ← WD, ← Py, show qa = decide (ia = bP) by rw [← DF]; exact B8 _ _, show q5 = decide (op = 25) by rw [← hq5]; exact B8 _ _]
       rfl)
      clear kf WD A6
      rcases bw with _ | _
      ·skip
       rcases q5 with _ | _
       ·skip
        go_wp2_with (go_at_call 77; refine (Calls.ext wm.out).mono ?_; rintro e w' ⟨rfl, y, rfl⟩)
        go_roundw
        case rel => exact ⟨j + 1, wC.out, by go_num, by rw [eE.out]; first | rfl | go_num, by rw [eE.out]; first | rfl | go_num, by rw [eE.out]; rfl, by rw [eE.out]; first | rfl | simp, (y.h.block g sg).trans wB.out, Ext.below jI.out jI.out.size y⟩
        case measure => simp [intOf]; omega
       ·skip
        rcases qa with _ | _
        ·skip
         go_wp2_with (go_at_call 77; refine (Calls.ext wm.out).mono ?_; rintro e w' ⟨rfl, y, rfl⟩)
         go_roundw
         case rel => exact ⟨j + 1, wC.out, by go_num, by rw [eE.out]; first | rfl | go_num, by rw [eE.out]; first | rfl | go_num, by rw [eE.out]; rfl, by rw [eE.out]; first | rfl | simp, (y.h.block g sg).trans wB.out, Ext.below jI.out jI.out.size y⟩
         case measure => simp [intOf]; omega
        ·skip
         rcases tV with _ | _
         ·skip
          go_wp2_with (go_at_call 77; refine (Calls.ext wm.out).mono ?_; rintro e w' ⟨rfl, y, rfl⟩)
          go_roundw
          case rel => exact ⟨j + 1, wC.out, by go_num, by rw [eE.out]; first | rfl | go_num, by rw [eE.out]; first | rfl | go_num, by rw [eE.out]; rfl, by rw [eE.out]; first | rfl | simp, (y.h.block g sg).trans wB.out, Ext.below jI.out jI.out.size y⟩
          case measure => simp [intOf]; omega
         ·skip
          rcases tf with _ | _
          ·skip
           go_wp2_with (go_at_call 77; refine (Calls.ext wm.out).mono ?_; rintro e w' ⟨rfl, y, rfl⟩)
           go_roundw
           case rel => exact ⟨j + 1, wC.out, by go_num, by rw [eE.out]; first | rfl | go_num, by rw [eE.out]; first | rfl | go_num, by rw [eE.out]; rfl, by rw [eE.out]; first | rfl | simp, (y.h.block g sg).trans wB.out, Ext.below jI.out jI.out.size y⟩
           case measure => simp [intOf]; omega
          ·skip
           rcases ql with _ | _
           ·skip
            go_wp2_with (go_at_call 77; refine (Calls.ext wm.out).mono ?_; rintro e w' ⟨rfl, y, rfl⟩)
            go_roundw
            case rel => exact ⟨j + 1, wC.out, by go_num, by rw [eE.out]; first | rfl | go_num, by rw [eE.out]; first | rfl | go_num, by rw [eE.out]; rfl, by rw [eE.out]; first | rfl | simp, (y.h.block g sg).trans wB.out, Ext.below jI.out jI.out.size y⟩
            case measure => simp [intOf]; omega
           ·skip
            go_wp2_with (go_at_call 77; refine (Calls.ext wm.out).mono ?_; rintro e w' ⟨rfl, y, rfl⟩)
            go_roundw
            case rel => exact ⟨j + 1, wC.out, by go_num, by rw [eE.out]; first | rfl | go_num, by rw [eE.out]; first | rfl | go_num, by rw [eE.out]; rfl, by rw [eE.out]; first | rfl | simp, (y.h.block g sg).trans wB.out, Ext.below jI.out jI.out.size y⟩
            case measure => simp [intOf]; omega
      ·skip
       rcases qa with _ | _
       ·skip
        rcases q5 with _ | _
        ·skip
         go_wp2_with (go_at_call 77; refine (Calls.ext wm.out).mono ?_; rintro e w' ⟨rfl, y, rfl⟩)
         go_roundw
         case rel => exact ⟨j + 1, wC.out, by go_num, by rw [eE.out]; first | rfl | go_num, by rw [eE.out]; first | rfl | go_num, by rw [eE.out]; rfl, by rw [eE.out]; first | rfl | simp, (y.h.block g sg).trans wB.out, Ext.below jI.out jI.out.size y⟩
         case measure => simp [intOf]; omega
        ·skip
         go_wp2_with (go_at_call 77; refine (Calls.ext wm.out).mono ?_; rintro e w' ⟨rfl, y, rfl⟩)
         go_roundw
         case rel => exact ⟨j + 1, wC.out, by go_num, by rw [eE.out]; first | rfl | go_num, by rw [eE.out]; first | rfl | go_num, by rw [eE.out]; rfl, by rw [eE.out]; first | rfl | simp, (y.h.block g sg).trans wB.out, Ext.below jI.out jI.out.size y⟩
         case measure => simp [intOf]; omega
       ·skip
        rcases qs with _ | _
        ·skip
         rcases q5 with _ | _
         ·skip
          go_wp2_with (go_at_call 77; refine (Calls.ext wm.out).mono ?_; rintro e w' ⟨rfl, y, rfl⟩)
          go_roundw
          case rel => exact ⟨j + 1, wC.out, by go_num, by rw [eE.out]; first | rfl | go_num, by rw [eE.out]; first | rfl | go_num, by rw [eE.out]; rfl, by rw [eE.out]; first | rfl | simp, (y.h.block g sg).trans wB.out, Ext.below jI.out jI.out.size y⟩
          case measure => simp [intOf]; omega
         ·skip
          rcases tV with _ | _
          ·skip
           go_wp2_with (go_at_call 77; refine (Calls.ext wm.out).mono ?_; rintro e w' ⟨rfl, y, rfl⟩)
           go_roundw
           case rel => exact ⟨j + 1, wC.out, by go_num, by rw [eE.out]; first | rfl | go_num, by rw [eE.out]; first | rfl | go_num, by rw [eE.out]; rfl, by rw [eE.out]; first | rfl | simp, (y.h.block g sg).trans wB.out, Ext.below jI.out jI.out.size y⟩
           case measure => simp [intOf]; omega
          ·skip
           rcases tf with _ | _
           ·skip
            go_wp2_with (go_at_call 77; refine (Calls.ext wm.out).mono ?_; rintro e w' ⟨rfl, y, rfl⟩)
            go_roundw
            case rel => exact ⟨j + 1, wC.out, by go_num, by rw [eE.out]; first | rfl | go_num, by rw [eE.out]; first | rfl | go_num, by rw [eE.out]; rfl, by rw [eE.out]; first | rfl | simp, (y.h.block g sg).trans wB.out, Ext.below jI.out jI.out.size y⟩
            case measure => simp [intOf]; omega
           ·skip
            rcases ql with _ | _
            ·skip
             go_wp2_with (go_at_call 77; refine (Calls.ext wm.out).mono ?_; rintro e w' ⟨rfl, y, rfl⟩)
             go_roundw
             case rel => exact ⟨j + 1, wC.out, by go_num, by rw [eE.out]; first | rfl | go_num, by rw [eE.out]; first | rfl | go_num, by rw [eE.out]; rfl, by rw [eE.out]; first | rfl | simp, (y.h.block g sg).trans wB.out, Ext.below jI.out jI.out.size y⟩
             case measure => simp [intOf]; omega
            ·skip
             go_wp2_with (go_at_call 77; refine (Calls.ext wm.out).mono ?_; rintro e w' ⟨rfl, y, rfl⟩)
             go_roundw
             case rel => exact ⟨j + 1, wC.out, by go_num, by rw [eE.out]; first | rfl | go_num, by rw [eE.out]; first | rfl | go_num, by rw [eE.out]; rfl, by rw [eE.out]; first | rfl | simp, (y.h.block g sg).trans wB.out, Ext.below jI.out jI.out.size y⟩
             case measure => simp [intOf]; omega
        ·skip
         rcases tV with _ | _
         ·skip
          rcases q5 with _ | _
          ·skip
           go_wp2_with (go_at_call 77; refine (Calls.ext wm.out).mono ?_; rintro e w' ⟨rfl, y, rfl⟩)
           go_roundw
           case rel => exact ⟨j + 1, wC.out, by go_num, by rw [eE.out]; first | rfl | go_num, by rw [eE.out]; first | rfl | go_num, by rw [eE.out]; rfl, by rw [eE.out]; first | rfl | simp, (y.h.block g sg).trans wB.out, Ext.below jI.out jI.out.size y⟩
           case measure => simp [intOf]; omega
          ·skip
           go_wp2_with (go_at_call 77; refine (Calls.ext wm.out).mono ?_; rintro e w' ⟨rfl, y, rfl⟩)
           go_roundw
           case rel => exact ⟨j + 1, wC.out, by go_num, by rw [eE.out]; first | rfl | go_num, by rw [eE.out]; first | rfl | go_num, by rw [eE.out]; rfl, by rw [eE.out]; first | rfl | simp, (y.h.block g sg).trans wB.out, Ext.below jI.out jI.out.size y⟩
           case measure => simp [intOf]; omega
         ·skip
          rcases q5 with _ | _
          ·skip
           go_wp2_with (go_at_call 77; refine (Calls.ext wm.out).mono ?_; rintro e w' ⟨rfl, y, rfl⟩)
           go_roundw
           case rel => exact ⟨j + 1, wC.out, by go_num, by rw [eE.out]; first | rfl | go_num, by rw [eE.out]; first | rfl | go_num, by rw [eE.out]; rfl, by rw [eE.out]; first | rfl | simp, (y.h.block g sg).trans wB.out, Ext.below jI.out jI.out.size y⟩
           case measure => simp [intOf]; omega
          ·skip
           rcases tf with _ | _
           ·skip
            go_wp2_with (go_at_call 77; refine (Calls.ext wm.out).mono ?_; rintro e w' ⟨rfl, y, rfl⟩)
            go_roundw
            case rel => exact ⟨j + 1, wC.out, by go_num, by rw [eE.out]; first | rfl | go_num, by rw [eE.out]; first | rfl | go_num, by rw [eE.out]; rfl, by rw [eE.out]; first | rfl | simp, (y.h.block g sg).trans wB.out, Ext.below jI.out jI.out.size y⟩
            case measure => simp [intOf]; omega
           ·skip
            rcases ql with _ | _
            ·skip
             go_wp2_with (go_at_call 77; refine (Calls.ext wm.out).mono ?_; rintro e w' ⟨rfl, y, rfl⟩)
             go_roundw
             case rel => exact ⟨j + 1, wC.out, by go_num, by rw [eE.out]; first | rfl | go_num, by rw [eE.out]; first | rfl | go_num, by rw [eE.out]; rfl, by rw [eE.out]; first | rfl | simp, (y.h.block g sg).trans wB.out, Ext.below jI.out jI.out.size y⟩
             case measure => simp [intOf]; omega
            ·skip
             go_wp2_with (go_at_call 77; refine (Calls.ext wm.out).mono ?_; rintro e w' ⟨rfl, y, rfl⟩)
             go_roundw
             case rel => exact ⟨j + 1, wC.out, by go_num, by rw [eE.out]; first | rfl | go_num, by rw [eE.out]; first | rfl | go_num, by rw [eE.out]; rfl, by rw [eE.out]; first | rfl | simp, (y.h.block g sg).trans wB.out, Ext.below jI.out jI.out.size y⟩
             case measure => simp [intOf]; omega
     ·obtain rfl : m = j := by omega
      have dj : decide ((m : Int) < (m : Int)) = false := by simp
      have A6 := ahM (show jk bP inl pl C (k + 1) = ⟨tw, ts, tb, tf⟩ by rw [HN.out, ← EU.out, List.take_of_length_le (by rw [HM.out]; exact Nat.le_refl _)])
      go_wp2_with fail
      go_roundw
      case rel => exact ⟨k + 1, MX.out, by go_num, by rw [A6.out], by rw [A6.out], by rw [A6.out], by rw [A6.out], YQ.out, kJ.out⟩
      case measure => simp [intOf]; omega
  ·obtain rfl : k = G.length := by omega
   have dl : decide ((G.length : Int) < (G.length : Int)) = false := by simp
   have HF := ahM (show (r1, r2) = if sw ≠ 1 ∨ ss ≠ 1 ∨ sf = false then (0, false) else (sb, true) by rw [← HR.out, HS.out]; unfold tL; rw [if_neg MV.out])
   clear hg hb
   rcases sf with _ | _
   ·have HN := ahM (show (r1, r2) = (0, false) by rw [HF.out, if_pos (.inr (.inr rfl))])
    go_wp2_with fail
    all_goals
     go_ret2
     refine ⟨?_, HB.out⟩
     have h := HN.out
     injection h with h2 h3
     rw [h2, h3]
     rfl
   ·by_cases e1 : sw = 1
    ·by_cases e2 : ss = 1
     ·have HN := ahM (show (r1, r2) = (sb, true) by rw [HF.out, if_neg (by simp [e1, e2])])
      subst e1 e2
      go_wp2_with fail
      go_ret2
      refine ⟨?_, HB.out⟩
      have h := HN.out
      injection h with h2 h3
      rw [h2, h3]
      rfl
     ·have HN := ahM (show (r1, r2) = (0, false) by rw [HF.out, if_pos (.inr (.inl e2))])
      have HE := ahM e2
      clear e2
      subst e1
      go_wp2_with fail
      ·exact absurd agO HE.out
      ·go_ret2
       refine ⟨?_, HB.out⟩
       have h := HN.out
       injection h with h2 h3
       rw [h2, h3]
       rfl
    ·have HN := ahM (show (r1, r2) = (0, false) by rw [HF.out, if_pos (.inl e1)])
     have HE := ahM e1
     clear e1
     go_wp2_with fail
     ·exact absurd agO HE.out
     ·exact absurd agO HE.out
     ·go_ret2
      refine ⟨?_, HB.out⟩
      have h := HN.out
      injection h with h2 h3
      rw [h2, h3]
      rfl
end
section
open Go.RowKit
def ku (l : List Ins) : List Value := l.flatMap EI
theorem Dy (l : List Ins) (y : Ins) : ku (l ++ [y]) = ku l ++ EI y := by simp [ku]
theorem vw : ∀ (Q : List Ins) (k j : Nat) (q : Ins), Q[k]? = some q → j < 5 → (ku Q)[k * 5 + j]? = (EI q)[j]?
 | y :: Q, 0, j, q, h, hj => by
  simp at h; subst h
  have e : ku (y :: Q) = EI y ++ ku Q := by simp [ku]
  rw [e, Nat.zero_mul, Nat.zero_add, List.getElem?_append_left (by simpa [EI] using hj)]
 | y :: Q, k + 1, j, q, h, hj => by
  have h' : Q[k]? = some q := by simpa using h
  have e : ku (y :: Q) = EI y ++ ku Q := by simp [ku]
  rw [e, List.getElem?_append_right (by simp [EI]; omega), show (k + 1) * 5 + j - (EI y).length = k * 5 + j by simp [EI]; omega]
  exact vw Q k j q h' hj
theorem JN {w : World} {B : Nat} {v : Value} {l : List Ins} (h : w.ownsRow B 67 5 v l.length (ku l)) : Ql w v l := by
 rcases h.2 with ⟨rfl, h0⟩ | ⟨g, cap, cur, rfl, _, hg, h1, h2, _, _⟩
 ·exact ⟨none, 0, by rw [h0], by omega, by unfold maxLen; omega, fun h => by omega⟩
 ·refine ⟨_, cap, rfl, h1, h2, fun _ => ⟨g, 0, rfl, (Array.getElem?_eq_some_iff.1 hg).1, fun k c hk j u hu => ?_⟩⟩
  have hkl := (List.getElem?_eq_some_iff.1 hk).1
  have hj : j < 5 := by
   have := (List.getElem?_eq_some_iff.1 hu).1
   simpa [EI] using this
  rw [Nat.zero_add, h.cellAt _ agO, vw l k j c hk hj, hu]
structure wH (B : Nat) (wr : World) (pg n : Nat) (val : Nat → Value) (dI : Nat → List Ins) : Prop where
 cG : wr.ownsRow B 144 1 (.slice (some ⟨pg, 0, none⟩) n n) n ((List.range n).map fun i => val i)
 own : ∀ i, i < n → wr.ownsRow B 67 5 (val i) (dI i).length (ku (dI i))
 pU : ∀ i j, i < n → j < n → i ≠ j → ∀ q, (val i).ownBlock = some q → (val j).ownBlock ≠ some q
section
variable {B : Nat} {wr : World} {pg n : Nat} {val : Nat → Value} {dI : Nat → List Ins}
theorem wH.below {wr' : World} (h : wH B wr pg n val dI) (hb : Below wr.heap.size wr wr') : wH B wr' pg n val dI :=
 ⟨ak h.cG hb, fun i hi => ak (h.own i hi) hb, h.pU⟩
theorem wH.rg (h : wH B wr pg n val dI) : B ≤ pg ∧ pg < wr.heap.size := h.cG.lt pg rfl
theorem wH.cells (h : wH B wr pg n val dI) {i : Nat} (hi : i < n) : wr.cell? ⟨pg, i, none⟩ = some (val i) ∧ wr.frozen? ⟨pg, i, none⟩ = false :=
 ⟨by rw [h.cG.cellAt _ agO, List.getElem?_map, List.getElem?_range hi]; rfl, h.cG.frozenAt _⟩
theorem wH.made {W' : World} (hr : W'.ownsRow B 144 1 (.slice (some ⟨pg, 0, none⟩) n n) n (List.replicate n (.slice none 0 0))) : wH B W' pg n (fun _ => .slice none 0 0) (fun _ => []) := by
 refine ⟨?_, fun i hi => World.ownsRow_nil _ _ _ _, fun i j hi hj _ q hq => by cases hq⟩
 have e : ((List.range n).map fun _ => Value.slice none 0 0) = List.replicate n (Value.slice none 0 0) := by
  apply List.ext_getElem?
  intro q
  by_cases hq : q < n
  ·simp [hq]
  ·simp [hq]
 rw [e]
 exact hr
theorem wH.kept {w2 : World} {row : Option Nat} (h : wH B wr pg n val dI) (hg : wr.grownBy w2 row) (hp : row ≠ some pg) (hv : ∀ i, i < n → ∀ q, (val i).ownBlock = some q → row ≠ some q) : wH B w2 pg n val dI :=
 ⟨h.cG.kept hg (.inr fun e => hp e.symm), fun i hi => (h.own i hi).kept hg (by
  cases e : (val i).ownBlock with
  | none => exact .inl rfl
  | some q => exact .inr fun e' => hv i hi q e e'.symm), h.pU⟩
theorem wH.app {w2 W' : World} {i : Nat} {y : Ins} {v' : Value} (h : wH B wr pg n val dI) (hi : i < n) (hb : Below wr.heap.size wr w2) (hg : w2.grownBy W' (val i).ownBlock)
  (hown : W'.ownsRow B 67 5 v' ((dI i).length + 1) (ku (dI i ++ [y]))) (jR : v'.ownBlock = (val i).ownBlock ∨ v'.ownBlock = some w2.heap.size) :
  wH B (W'.setCell ⟨pg, i, none⟩ v') pg n (upd val i v') (upd dI i (dI i ++ [y])) := by
 have G := grown_of hb hg
 have S := aO W' pg i v'
 obtain ⟨p1, p2⟩ := h.rg
 have wF := G.size
 have oi := h.own i hi
 have ob : ∀ q, (val i).ownBlock = some q → B ≤ q ∧ q ≠ pg := fun q hq => ⟨(oi.lt q hq).1, fun e => cT oi h.cG agQ q hq ahg⟩
 have p' : W'.ownsRow B 144 1 (.slice (some ⟨pg, 0, none⟩) n n) n ((List.range n).map fun i => val i) := h.cG.kept G (.inr (fun e' => (ob pg e'.symm).2 rfl))
 have td : ∀ q, v'.ownBlock = some q → q ≠ pg := fun q hq e => cT hown p' agQ q hq ahg
 refine ⟨?_, fun j hj => ?_, fun a c ha hc hac q hq => ?_⟩
 ·rw [← mO n val hi v']
  exact (p'.stored i v').1
 ·unfold upd
  by_cases e : j = i
  ·subst e
   rw [if_pos rfl, if_pos rfl]
   rw [show (dI j ++ [y]).length = (dI j).length + 1 by simp]
   exact hown.kept S (by
    cases hv : v'.ownBlock with
    | none => exact .inl rfl
    | some q => exact .inr (fun e' => td q hv ahH))
  ·rw [if_neg e, if_neg e]
   refine ((h.own j hj).kept G ?_).kept S ?_
   ·cases hv : (val j).ownBlock with
    | none => exact .inl rfl
    | some q => exact .inr (fun e' => h.pU i j hi hj (fun e2 => e e2.symm) q e'.symm hv)
   ·cases hv : (val j).ownBlock with
    | none => exact .inl rfl
    | some q =>
     refine .inr (fun e' => ?_)
     have L6 : q = pg := by simpa using e'
     exact cT (h.own j hj) h.cG agQ q hv (by rw [L6]; rfl)
 ·have new : ∀ a, a < n → a ≠ i → ∀ q, v'.ownBlock = some q → (val a).ownBlock ≠ some q := fun a ha hai q hq hq2 => by
   rcases jR with h1 | h1
   ·rw [h1] at hq
    exact h.pU i a hi ha (fun e => hai e.symm) q hq hq2
   ·rw [h1] at hq
    cases hq
    have := ((h.own a ha).lt _ hq2).2
    have := hb.size
    omega
  unfold upd at hq ⊢
  by_cases e1 : a = i
  ·rw [if_pos e1] at hq
   rw [if_neg (fun e => hac (e1.trans e.symm))]
   exact new c hc (fun e => hac (e1.trans e.symm)) q hq
  ·rw [if_neg e1] at hq
   by_cases e2 : c = i
   ·rw [if_pos e2]
    exact fun hq2 => new a ha e1 q hq2 hq
   ·rw [if_neg e2]
    exact h.pU a c ha hc hac q hq
theorem wH.XH (h : wH B wr pg n val dI) : I1 wr (.slice (some ⟨pg, 0, none⟩) n n) ((List.range n).map dI) := by
 have pc : n ≤ maxLen := by
  rcases h.cG.2 with ⟨e, _⟩ | ⟨_, _, _, e, _, _, h1, h2, _⟩
  ·cases e
  ·cases e; exact h2
 refine ⟨_, n, by simp, by simp, pc, fun _ => ⟨pg, 0, rfl, h.rg.2, fun i x hx => ?_⟩⟩
 rw [List.getElem?_map] at hx
 have hi : i < n := by
  by_cases hi : i < n
  ·exact hi
  ·rw [List.getElem?_eq_none ahC] at hx; cases hx
 rw [List.getElem?_range hi] at hx
 simp only [Option.map_some, Option.some.injEq] at hx
 subst hx
 exact ⟨val i, by rw [Nat.zero_add]; exact (h.cells hi).1, JN (h.own i hi)⟩
end
end
end Go.Proofs.YtlmgkipmfgijiaaGreatDoor
