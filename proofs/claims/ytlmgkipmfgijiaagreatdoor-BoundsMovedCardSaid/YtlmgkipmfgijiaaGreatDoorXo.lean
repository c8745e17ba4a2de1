/-
  What is proved here: parts yPlain, dDef, dRef, dMem, dCyc, dCyc2, dCnt, dPas, dPas2, dWr, dCoP, dEq, dCo, dPm.
-/
import Derived.Test.YtlmgkipmfgijiaaGreatDoorXa
import Derived.Test.YtlmgkipmfgijiaaGreatDoorXe
import Derived.Test.YtlmgkipmfgijiaaGreatDoorXf
import Derived.Laws.EntriesVeiled
namespace Go.Proofs.YtlmgkipmfgijiaaGreatDoor
set_option linter.unusedVariables false
set_option linter.unusedSimpArgs false
set_option maxRecDepth 100000
set_option maxHeartbeats 8000000
section
inductive Rb (nx : Nat → List Nat) (bC : Nat → Prop) (hd b : Nat) : Nat → Prop
 | self : Rb nx bC hd b b
 | step {x y : Nat} : Rb nx bC hd b x → y ∈ nx x → y ≠ hd → bC y → Rb nx bC hd b y
def Vo (nx : Nat → List Nat) (bC : Nat → Prop) (hd b : Nat) : Prop := ∃ x, Rb nx bC hd b x ∧ b ∈ nx x
def Rx (bC : Nat → Prop) (hd b : Nat) (S : Nat → Prop) (y : Nat) : Prop := y ≠ b ∧ (y ≠ hd → bC y → S y)
theorem Rx.more {bC : Nat → Prop} {hd b : Nat} {S S' : Nat → Prop} {y : Nat} (h : Rx bC hd b S y) (hg : ∀ x, S x → S' x) : Rx bC hd b S' y := ⟨h.1, fun h1 h2 => hg y (h.2 h1 h2)⟩
structure NK (nx : Nat → List Nat) (bC : Nat → Prop) (hd b nG : Nat) (S S' : Nat → Prop) (r : Bool) : Prop where
 grow : ∀ x, S x → S' x
 sub : ∀ x, S' x → S x ∨ bC x
 yes : r = true → ∀ Q : Nat → Prop, Q nG → (∀ x, Q x → ∀ y ∈ nx x, y ≠ hd → bC y → Q y) → ∃ x, Q x ∧ b ∈ nx x
 no : r = false → ∀ x, (x = nG ∨ S' x ∧ ¬ S x) → ∀ y ∈ nx x, Rx bC hd b S' y
structure mN (nx : Nat → List Nat) (bC : Nat → Prop) (hd b : Nat) (ts : List Nat) (S S' : Nat → Prop) : Prop where
 grow : ∀ x, S x → S' x
 sub : ∀ x, S' x → S x ∨ bC x
 ts : ∀ y ∈ ts, Rx bC hd b S' y
 no : ∀ x, S' x ∧ ¬ S x → ∀ y ∈ nx x, Rx bC hd b S' y
section
variable {nx : Nat → List Nat} {bC : Nat → Prop} {hd b nG y : Nat} {ts : List Nat} {S S' NJ : Nat → Prop}
theorem mN.nil : mN nx bC hd b [] S S := ⟨fun _ h => h, fun _ h => .inl h, by simp, fun x h => absurd h.1 h.2⟩
theorem mN.skip (h : mN nx bC hd b ts S S') (hb : y ≠ b) (hs : y = hd ∨ ¬ bC y ∨ S' y) : mN nx bC hd b (ts ++ [y]) S S' := by
 refine ⟨h.grow, h.sub, fun z hz => ?_, h.no⟩
 rcases List.mem_append.1 hz with hz | hz
 ·exact h.ts z hz
 ·obtain rfl : z = y := by simpa using hz
  refine ⟨hb, fun h1 h2 => ?_⟩
  rcases hs with h3 | h3 | h3
  ·exact absurd h3 h1
  ·exact absurd h2 h3
  ·exact h3
theorem mN.into (h : mN nx bC hd b ts S S') (hb : y ≠ b) (hi : bC y) (k : NK nx bC hd b y (fun x => S' x ∨ x = y) NJ false) : mN nx bC hd b (ts ++ [y]) S NJ := by
 have hg : ∀ x, S' x → NJ x := fun x hx => k.grow x (.inl hx)
 refine ⟨fun x hx => hg x (h.grow x hx), fun x hx => ?_, fun z hz => ?_, fun x hx z hz => ?_⟩
 ·rcases k.sub x hx with (h1 | rfl) | h1
  ·exact h.sub x h1
  ·exact .inr hi
  ·exact .inr h1
 ·rcases List.mem_append.1 hz with hz | hz
  ·exact (h.ts z hz).more hg
  ·obtain rfl : z = y := by simpa using hz
   exact ⟨hb, fun _ _ => k.grow z (.inr rfl)⟩
 ·by_cases h1 : S' x
  ·exact (h.no x ⟨h1, hx.2⟩ z hz).more hg
  ·by_cases h2 : x = y
   ·exact k.no rfl x (.inl h2) z hz
   ·exact k.no rfl x (.inr ⟨hx.1, fun h3 => h3.elim h1 h2⟩) z hz
theorem mN.all (h : mN nx bC hd b (nx nG) S S') : NK nx bC hd b nG S S' false := by
 refine ⟨h.grow, h.sub, fun h => (by cases h), fun _ x hx z hz => ?_⟩
 rcases hx with rfl | hx
 ·exact h.ts z hz
 ·exact h.no x hx z hz
theorem mN.found (h : mN nx bC hd b ts S S') (hb : b ∈ nx nG) : NK nx bC hd b nG S S' true :=
 ⟨h.grow, h.sub, fun _ Q hQ _ => ⟨nG, hQ, hb⟩, fun h => (by cases h)⟩
theorem mN.yes (h : mN nx bC hd b ts S S') (hy : y ∈ nx nG) (hh : y ≠ hd) (hi : bC y) (k : NK nx bC hd b y (fun x => S' x ∨ x = y) NJ true) : NK nx bC hd b nG S NJ true := by
 refine ⟨fun x hx => k.grow x (.inl (h.grow x hx)), fun x hx => ?_, fun _ Q hQ hc => k.yes rfl Q (hc nG hQ y hy hh hi) hc, fun h => by cases h⟩
 rcases k.sub x hx with (h1 | rfl) | h1
 ·exact h.sub x h1
 ·exact .inr hi
 ·exact .inr h1
theorem NK.cyc {r : Bool} (h : NK nx bC hd b b (fun _ => False) S' r) : r = true ↔ Vo nx bC hd b := by
 constructor
 ·intro hr
  exact h.yes hr (Rb nx bC hd b) .self fun x hx y hy h1 h2 => .step hx hy h1 h2
 ·rintro ⟨x, hx, hb⟩
  cases r with
  | true => rfl
  | false =>
   have key : ∀ z, Rb nx bC hd b z → z = b ∨ S' z := fun z hz => by
    induction hz with
    | self => exact .inl rfl
    | @step x y _ hy h1 h2 ih => exact .inr ((h.no rfl x (ih.imp_right fun h => ⟨h, id⟩) y hy).2 h1 h2)
   have := h.no rfl x ((key x hx).imp_right fun h => ⟨h, id⟩) b hb
   exact absurd rfl this.1
end
end
section
open Go.RowKit
def tP (w : World) (v : Value) (l : List Bool) : Prop :=
 ∃ A cap, v = .slice A l.length cap ∧ l.length ≤ cap ∧ cap ≤ maxLen ∧ (0 < l.length → ∃ b off, A = some ⟨b, off, none⟩ ∧ b < w.heap.size ∧ ∀ k, k < l.length → w.cell? ⟨b, off + k, none⟩ = some (.bool (l.getD k false)))
theorem tP.below {w w' : World} {v : Value} {l : List Bool} (h : tP w v l) (hb : Below w.heap.size w w') : tP w' v l := by
 obtain ⟨A, cap, h1, h2, h3, h4⟩ := h
 refine ⟨A, cap, h1, h2, h3, fun h0 => ?_⟩
 obtain ⟨b, off, e, hl, hc⟩ := h4 h0
 exact ⟨b, off, e, by have := hb.size; omega, fun k hk => (hb.cell (p := ⟨b, _, none⟩) hl).trans (hc k hk)⟩
theorem qM {w : World} {B : Nat} {v : Value} {l : List Bool} (h : w.ownsRow B 4 1 v l.length (qU l)) : tP w v l := by
 rcases h.2 with ⟨rfl, h0⟩ | ⟨g, cap', cur, rfl, h1, h2, h3, h4, _, _⟩
 ·exact ⟨none, 0, by rw [h0], by omega, by unfold maxLen; omega, fun h => by omega⟩
 ·refine ⟨_, cap', rfl, h3, h4, fun _ => ⟨g, 0, rfl, (Array.getElem?_eq_some_iff.1 h2).1, fun k hk => ?_⟩⟩
  rw [Nat.zero_add, h.cellAt _ ahU, qU, List.getElem?_map, List.getD, List.getElem?_eq_getElem hk]
  rfl
def Fk (c : Ins) : List Value := [.int .u8 c.op, .int .i64 c.a, .int .i64 c.b, .int .i64 c.c, .int .i64 c.aP]
def Rw (w : World) (v : Value) (l : List Ins) : Prop :=
 ∃ A cap, v = .slice A l.length cap ∧ l.length ≤ cap ∧ cap ≤ maxLen ∧ (0 < l.length → ∃ b off, A = some ⟨b, off, none⟩ ∧ b < w.heap.size ∧ ∀ k c, l[k]? = some c → ∀ j u, (Fk c)[j]? = some u → w.cell? ⟨b, off + k * 5 + j, none⟩ = some u)
def JR (w : World) (v : Value) (C : List (List Ins)) : Prop :=
 ∃ A cap, v = .slice A C.length cap ∧ C.length ≤ cap ∧ cap ≤ maxLen ∧ (0 < C.length → ∃ b off, A = some ⟨b, off, none⟩ ∧ b < w.heap.size ∧ ∀ k x, C[k]? = some x → ∃ u, w.cell? ⟨b, off + k, none⟩ = some u ∧ Rw w u x)
theorem Rw.below {w w' : World} {v : Value} {l : List Ins} (h : Rw w v l) (hb : Below w.heap.size w w') : Rw w' v l := by
 obtain ⟨A, cap, h1, h2, h3, h4⟩ := h
 refine ⟨A, cap, h1, h2, h3, fun h0 => ?_⟩
 obtain ⟨b, off, e, hl, hc⟩ := h4 h0
 exact ⟨b, off, e, by have := hb.size; omega, fun k c hk j u hu => (hb.cell (p := ⟨b, _, none⟩) hl).trans (hc k c hk j u hu)⟩
theorem JR.below {w w' : World} {v : Value} {C : List (List Ins)} (h : JR w v C) (hb : Below w.heap.size w w') : JR w' v C := by
 obtain ⟨A, cap, h1, h2, h3, h4⟩ := h
 refine ⟨A, cap, h1, h2, h3, fun h0 => ?_⟩
 obtain ⟨b, off, e, hl, hc⟩ := h4 h0
 exact ⟨b, off, e, by have := hb.size; omega, fun k x hk => by
  obtain ⟨u, h5, h6⟩ := hc k x hk
  exact ⟨u, (hb.cell (p := ⟨b, _, none⟩) hl).trans h5, h6.below hb⟩⟩
structure Fa (w : World) (sp : Nat) (bv pv cv rv dv : Value) (G : List aU) (C : List (List Ins)) (rel : List Bool) (D : List Int) : Prop where
 blk : w.heap[sp]? = some (.cells #[bv, pv, cv, rv, dv] 159 (0, 0))
 Jk : fL w bv G
 II : JR w cv C
 rls : tP w rv rel
 dom : Ints w dv D
 lc : C.length = G.length
 lr : rel.length = G.length
 ld : D.length = G.length
section
variable {w w' : World} {sp : Nat} {bv pv cv rv dv : Value} {G : List aU} {C : List (List Ins)} {rel : List Bool} {D : List Int}
theorem Fa.below (h : Fa w sp bv pv cv rv dv G C rel D) (hb : Below w.heap.size w w') : Fa w' sp bv pv cv rv dv G C rel D :=
 ⟨(hb.block sp (Array.getElem?_eq_some_iff.1 h.blk).1).trans h.blk, h.Jk.below hb, h.II.below hb, h.rls.below hb, h.dom.below hb, h.lc, h.lr, h.ld⟩
theorem Fa.cells (h : Fa w sp bv pv cv rv dv G C rel D) : w.cell? ⟨sp, 0, none⟩ = some bv ∧ w.cell? ⟨sp, 1, none⟩ = some pv ∧ w.cell? ⟨sp, 2, none⟩ = some cv ∧ w.cell? ⟨sp, 3, none⟩ = some rv ∧ w.cell? ⟨sp, 4, none⟩ = some dv ∧ sp < w.heap.size :=
 ⟨by simp [World.cell?, h.blk], by simp [World.cell?, h.blk], by simp [World.cell?, h.blk], by simp [World.cell?, h.blk], by simp [World.cell?, h.blk], (Array.getElem?_eq_some_iff.1 h.blk).1⟩
end
def eu (n : Nat) (l : List Int) : Bool := l.all fun x => decide (0 ≤ x) && decide (x < (n : Int))
theorem o8 (v : Value) (l : List Int) (n q : Nat) (w : World) (HI : Ints w v l) (hq : q < w.heap.size) (hc : w.cell? ⟨q, 0, none⟩ = some (.int .i64 (n : Int))) :
  Calls Tryz.prog 76 #[v, .pointer (some ⟨q, 0, none⟩)] w fun e w' => e = .returned (.bool (eu n l)) ∧ w = w' := by
 obtain ⟨A, cap, rfl, hc1, hc2⟩ := HI.slice
 have HH := aiU HI
 obtain ⟨m, hm⟩ : ∃ m, l.length = m := ⟨_, rfl⟩
 rw [hm] at hc1 ⊢
 have HM := aiU hm
 obtain ⟨kn, hkn⟩ : ∃ b, eu n l = b := ⟨_, rfl⟩
 rw [hkn]
 have HK := aiU hkn
 clear hm HI hkn
 go_enter Tryz.func76, Tryz.ntmps76
 go_upto_region 2 with fail
 go_loopw [8] (fun a8 wr => ∃ k : Nat, k ≤ m ∧ a8 = .int .i64 (k : Int) ∧ w = wr ∧ ∀ x ∈ l.take k, 0 ≤ x ∧ x < (n : Int)) (fun a8 _ => m - (intOf a8).toNat)
 case atStart => exact ⟨0, Nat.zero_le _, rfl, rfl, by simp⟩
 case round =>
  obtain ⟨k, hk, rfl, rfl, hal⟩ := hrel
  have HAL := aiU hal
  clear hal
  by_cases hlt : k < m
  ·have dl : decide ((k : Int) < (m : Int)) = true := decide_eq_true ahU
   obtain ⟨x, b, o, hx, e, hb, c1⟩ := (HM.out ▸ HH.out : Ints w (.slice A l.length cap) l).at_ (Below.refl _ _) (j := k) ait
   subst e
   have HX := aiU (show l.take (k + 1) = l.take k ++ [x] by rw [List.take_add_one, hx]; rfl)
   have Wh := aiU (List.mem_of_getElem? hx)
   clear hx
   by_cases h0 : x < 0
   ·have d0 : decide (x < 0) = true := decide_eq_true h0
    have HF := aiU (show kn = false by
     rw [← HK.out]; unfold eu
     exact List.all_eq_false.2 ⟨x, Wh.out, by simp; omega⟩)
    clear h0
    go_wp2_with fail
    go_ret
    exact ⟨by rw [HF.out]; rfl, rfl⟩
   ·have d0 : decide (x < 0) = false := decide_eq_false h0
    by_cases h1 : x < (n : Int)
    ·have d1 : decide ((n : Int) ≤ x) = false := decide_eq_false ahU
     have zG := aiU (show ∀ y ∈ l.take (k + 1), 0 ≤ y ∧ y < (n : Int) from fun y hy => by
      rw [HX.out] at hy
      rcases List.mem_append.1 hy with hy | hy
      ·exact HAL.out y hy
      ·obtain rfl : y = x := by simpa using hy
       omega)
     clear h0
     go_wp2_with fail
     go_roundw
     case rel => exact ⟨k + 1, by omega, by go_num, (by trivial), zG.out⟩
     case measure => simp [intOf]; omega
    ·have d1 : decide ((n : Int) ≤ x) = true := decide_eq_true ahU
     have HF := aiU (show kn = false by
      rw [← HK.out]; unfold eu
      exact List.all_eq_false.2 ⟨x, Wh.out, by simp; omega⟩)
     clear h0
     go_wp2_with fail
     go_ret
     exact ⟨by rw [HF.out]; rfl, rfl⟩
  ·obtain rfl : m = k := by omega
   have dl : decide ((m : Int) < (m : Int)) = false := by simp
   have HT := aiU (show kn = true by
    have h2 := HAL.out
    rw [List.take_of_length_le (by rw [HM.out]; exact Nat.le_refl _)] at h2
    rw [← HK.out]; unfold eu
    exact List.all_eq_true.2 fun x hx => by have := h2 x hx; simp; omega)
   go_wp2_with fail
   go_ret
   exact ⟨by rw [HT.out]; rfl, rfl⟩
end
section
open Go.RowKit
def kQ (n : Nat) (x : Lp) : Bool := eu n [x.h] && eu n x.bl && eu n x.la
theorem nk {w : World} {sp : Nat} {bv pv cv rv dv : Value} {G : List aU} {C : List (List Ins)} {rel : List Bool} {D : List Int} (HS : Fa w sp bv pv cv rv dv G C rel D) (hn : G.length ≤ 5000) (x : Lp) (p : Int) (v1 v2 : Value) (H1 : Ints w v1 x.bl) (H2 : Ints w v2 x.la) :
  Calls Tryz.prog 45 #[.pointer (some ⟨sp, 0, none⟩), .agg #[.int .i64 x.h, v1, v2, .int .i64 p]] w fun e w' => e = .returned (.bool (kQ G.length x)) ∧ Below w.heap.size w w' := by
 obtain ⟨A, cap, rfl, hc1, hc2⟩ := HS.Jk.slice
 obtain ⟨A1, jR, rfl, -, -⟩ := H1.slice
 obtain ⟨A2, gj, rfl, -, -⟩ := H2.slice
 have X7 : ∀ (fn : Fn) (first cap : Array Value) (w : World), (Instr.makeFunc fn first cap).run Tryz.prog w = .ok (.func fn first cap) w := fun _ _ _ _ => rfl
 have he : ∀ (args : Array Value) (w : World), (callFunc 76 args).run Tryz.prog w = .ok (.enter 76 args) w := fun _ _ => by kernel_rfl
 obtain ⟨xh, qP⟩ : ∃ h, x.h = h := ⟨_, rfl⟩
 obtain ⟨n1, hn1⟩ : ∃ n, x.bl.length = n := ⟨_, rfl⟩
 obtain ⟨n2, hn2⟩ : ∃ n, x.la.length = n := ⟨_, rfl⟩
 obtain ⟨gn, hgn⟩ : ∃ n, G.length = n := ⟨_, rfl⟩
 obtain ⟨R, hR⟩ : ∃ r, kQ G.length x = r := ⟨_, rfl⟩
 obtain ⟨t0, t1, -, -, -, t5⟩ := HS.cells
 rw [hgn] at t0 hc1
 rw [hR, qP, hn1, hn2]
 have NZ := aiU hR
 have HX := aiU qP
 have Qj := aiU hn1
 have BC := aiU hn2
 have HG := aiU hgn
 have UY := aiU (show Ints w (.slice A1 n1 jR) x.bl by rw [← hn1]; exact H1)
 have ZV := aiU (show Ints w (.slice A2 n2 gj) x.la by rw [← hn2]; exact H2)
 obtain ⟨W1, hW1⟩ : ∃ W, w.alloc (.cells #[.int .i64 xh, .slice A1 n1 jR, .slice A2 n2 gj, .int .i64 p] 46) = W := ⟨_, rfl⟩
 obtain ⟨q3, hq3⟩ : ∃ q, w.heap.size = q := ⟨_, rfl⟩
 have b1 : Below w.heap.size w W1 := hW1 ▸ (Below.refl _ _).alloc (Nat.le_refl _) _
 have k3 : W1.heap[q3]? = some (.cells #[.int .i64 xh, .slice A1 n1 jR, .slice A2 n2 gj, .int .i64 p] 46 (0, 0)) := by rw [← hq3, ← hW1]; exact heap_alloc_new _ _
 have u0 : W1.cell? ⟨sp, 0, none⟩ = some (.slice A gn cap) := (b1.cell (p := ⟨sp, 0, none⟩) t5).trans t0
 have su : sp < W1.heap.size := by have := b1.size; omega
 have B1 := aiU b1
 have K3 := aiU k3
 obtain ⟨W2, hW2⟩ : ∃ W, W1.alloc (.cells #[.int .i64 (gn : Int)] 3) = W := ⟨_, rfl⟩
 obtain ⟨q5, hq5⟩ : ∃ q, W1.heap.size = q := ⟨_, rfl⟩
 have b2 : Below W1.heap.size W1 W2 := hW2 ▸ (Below.refl _ _).alloc (Nat.le_refl _) _
 have k5 : W2.heap[q5]? = some (.cells #[.int .i64 (gn : Int)] 3 (0, 0)) := by rw [← hq5, ← hW2]; exact heap_alloc_new _ _
 have XF := (b2.block q3 (Array.getElem?_eq_some_iff.1 k3).1).trans k3
 obtain ⟨c0, c1, c2, -, c4⟩ := cK XF
 have B2 := aiU (b1.trans (b2.mono b1.size))
 obtain ⟨Y, hY⟩ : ∃ W, W2.alloc (.cells #[.int .i64 xh] 3) = W := ⟨_, rfl⟩
 obtain ⟨q7, hq7⟩ : ∃ q, W2.heap.size = q := ⟨_, rfl⟩
 have b3 : Below W2.heap.size W2 Y := hY ▸ (Below.refl _ _).alloc (Nat.le_refl _) _
 have k7 : Y.heap[q7]? = some (.cells #[.int .i64 xh] 3 (0, 0)) := by rw [← hq7, ← hY]; exact heap_alloc_new _ _
 have XB := (b3.block q5 (Array.getElem?_eq_some_iff.1 k5).1).trans k5
 have k3y := (b3.block q3 c4).trans XF
 obtain ⟨d0, d1, d2, -, d4⟩ := cK k3y
 have BY := aiU (B2.out.trans (b3.mono B2.out.size))
 have c5 : Y.cell? ⟨q5, 0, none⟩ = some (.int .i64 (gn : Int)) := by simp [World.cell?, XB]
 have s5 : q5 < Y.heap.size := (Array.getElem?_eq_some_iff.1 XB).1
 have N1 := aiU (o8 (.slice (some ⟨q7, 0, none⟩) 1 1) [xh] gn q5 Y ⟨_, 1, rfl, by simp, by unfold maxLen; simp, fun _ => ⟨q7, 0, rfl, (Array.getElem?_eq_some_iff.1 k7).1, fun k hk => by
  obtain rfl : k = 0 := by simpa using hk
  simp [World.cell?, k7]⟩⟩ s5 c5)
 have Ql := aiU (o8 _ _ gn q5 Y (UY.out.below BY.out) s5 c5)
 have HK3 := aiU (o8 _ _ gn q5 Y (ZV.out.below BY.out) s5 c5)
 have w9 := aiU (show R = (eu gn [xh] && eu gn x.bl && eu gn x.la) by rw [← hR, ← qP, ← hgn]; rfl)
 clear hR HS H1 H2 qP hn1 hn2 hgn t0 t1 k3 b1 b2 b3 k5 XF k7 XB k3y
 obtain ⟨r1, hr1⟩ : ∃ r, eu gn [xh] = r := ⟨_, rfl⟩
 obtain ⟨r2, hr2⟩ : ∃ r, eu gn x.bl = r := ⟨_, rfl⟩
 obtain ⟨r3, hr3⟩ : ∃ r, eu gn x.la = r := ⟨_, rfl⟩
 rw [hr1] at N1 w9
 rw [hr2] at Ql w9
 rw [hr3] at HK3 w9
 clear hr1 hr2 hr3
 go_enter Tryz.func45, Tryz.ntmps45
 rcases r1 with _ | _
 ·go_wp2_with (go_at_call 76; refine N1.out.mono ?_; rintro e w' ⟨rfl, rfl⟩)
  go_ret
  exact ⟨by rw [w9.out]; rfl, BY.out⟩
 ·rcases r2 with _ | _
  ·go_wp2_with (go_at_call 76; (first | ((with_reducible refine N1.out.mono ?_); rintro e w' ⟨rfl, rfl⟩) | ((with_reducible refine Ql.out.mono ?_); rintro e w' ⟨rfl, rfl⟩)))
   go_ret
   exact ⟨by rw [w9.out]; rfl, BY.out⟩
  ·go_wp2_with (go_at_call 76; (first | ((with_reducible refine N1.out.mono ?_); rintro e w' ⟨rfl, rfl⟩) | ((with_reducible refine Ql.out.mono ?_); rintro e w' ⟨rfl, rfl⟩) | ((with_reducible refine HK3.out.mono ?_); rintro e w' ⟨rfl, rfl⟩)))
   go_ret
   exact ⟨by rw [w9.out]; simp, BY.out⟩
end
section
open Go.RowKit
def gW (n : Nat) (l : List Int) : List Bool := (List.range n).map fun (k : Nat) => decide ((k : Int) ∈ l)
theorem gN (n : Nat) (l : List Int) : (gW n l).length = n := by simp [gW]
theorem GD (n : Nat) : gW n [] = List.replicate n false := by
 apply List.ext_getElem
 ·simp [gW]
 ·intro i h1 h2; simp [gW]
theorem DD (n : Nat) (l : List Int) (b : Nat) : (gW n l).set b true = gW n (l ++ [(b : Int)]) := by
 apply List.ext_getElem
 ·simp [gW]
 ·intro i h1 h2
  rw [List.getElem_set]
  simp only [gW, List.getElem_map, List.getElem_range, List.mem_append, List.mem_singleton]
  by_cases e : b = i
  ·rw [if_pos e]; simp [e]
  ·rw [if_neg e]
   have : ¬ ((i : Int) = (b : Int)) := by omega
   simp [this]
theorem KN {n : Nat} {l : List Int} {k : Nat} (hk : k < n) : (gW n l).getD k false = decide ((k : Int) ∈ l) := by
 rw [List.getD, gW, List.getElem?_map, List.getElem?_range hk]; rfl
theorem wJ (l : List Bool) (k : Nat) (x : Bool) : (qU l).set k (.bool x) = qU (l.set k x) := by simp [qU, List.map_set]
theorem rC {w : World} {B g m cap : Nat} {l : List Bool} (h : w.ownsRow B 4 1 (.slice (some ⟨g, 0, none⟩) m cap) m (qU l)) (hl : l.length = m) {k : Nat} (hk : k < m) : w.cell? ⟨g, k, none⟩ = some (.bool (l.getD k false)) := by
 rw [h.cellAt _ ahU, qU, List.getElem?_map, List.getD, List.getElem?_eq_getElem (by omega : k < l.length)]; rfl
theorem p8 {w : World} {sp : Nat} {bv pv cv rv dv : Value} {G : List aU} {C : List (List Ins)} {rel : List Bool} {D : List Int} (HS : Fa w sp bv pv cv rv dv G C rel D) (hn : G.length ≤ 5000) (x : Lp) (p : Int) (v1 v2 : Value) (H1 : Ints w v1 x.bl) (H2 : Ints w v2 x.la) (hk : eu G.length x.bl = true) :
  Calls Tryz.prog 46 #[.pointer (some ⟨sp, 0, none⟩), .agg #[.int .i64 x.h, v1, v2, .int .i64 p]] w fun e w' => ∃ g, e = .returned (.slice (some ⟨g, 0, none⟩) G.length G.length) ∧ w'.ownsRow w.heap.size 4 1 (.slice (some ⟨g, 0, none⟩) G.length G.length) G.length (qU (gW G.length x.bl)) ∧ Below w.heap.size w w' := by
 obtain ⟨A, cap, rfl, hc1, hc2⟩ := HS.Jk.slice
 obtain ⟨A1, jR, rfl, hb1, hb2⟩ := H1.slice
 obtain ⟨A2, gj, rfl, -, -⟩ := H2.slice
 obtain ⟨xh, qP⟩ : ∃ h, x.h = h := ⟨_, rfl⟩
 obtain ⟨n1, hn1⟩ : ∃ n, x.bl.length = n := ⟨_, rfl⟩
 obtain ⟨n2, hn2⟩ : ∃ n, x.la.length = n := ⟨_, rfl⟩
 obtain ⟨bl, hbl⟩ : ∃ l, x.bl = l := ⟨_, rfl⟩
 obtain ⟨gn, hgn⟩ : ∃ n, G.length = n := ⟨_, rfl⟩
 obtain ⟨t0, t1, -, -, -, t5⟩ := HS.cells
 rw [hgn] at t0 hc1 hk hn ⊢
 rw [qP, hn1, hn2]
 rw [hbl] at hk H1 hn1 ⊢
 rw [hbl, hn1] at hb1
 try rw [hn1] at H1
 have HKN := aiU (List.all_eq_true.1 (show (bl.all fun x => decide (0 ≤ x) && decide (x < (gn : Int))) = true from hk))
 have Qj := aiU hn1
 have UY := aiU H1
 obtain ⟨W1, hW1⟩ : ∃ W, w.alloc (.cells #[.int .i64 xh, .slice A1 n1 jR, .slice A2 n2 gj, .int .i64 p] 46) = W := ⟨_, rfl⟩
 obtain ⟨q3, hq3⟩ : ∃ q, w.heap.size = q := ⟨_, rfl⟩
 have b1 : Below w.heap.size w W1 := hW1 ▸ (Below.refl _ _).alloc (Nat.le_refl _) _
 have k3 : W1.heap[q3]? = some (.cells #[.int .i64 xh, .slice A1 n1 jR, .slice A2 n2 gj, .int .i64 p] 46 (0, 0)) := by rw [← hq3, ← hW1]; exact heap_alloc_new _ _
 have u0 : W1.cell? ⟨sp, 0, none⟩ = some (.slice A gn cap) := (b1.cell (p := ⟨sp, 0, none⟩) t5).trans t0
 have su : sp < W1.heap.size := by have := b1.size; omega
 obtain ⟨i2, hi2, hs0, hs1, hs2⟩ := info_parts vR
 obtain ⟨U1, lm, dQ, gr1⟩ := run_make_full (P := Tryz.prog) W1 w.heap.size 55 4 i2 (.bool false) 1 Tryz.underlying55 hi2 hs0 hs1 .i64 .i64 gn aiH ahY b1.size
 rw [Nat.mul_one, show (Value.bool false).cells = #[Value.bool false] from rfl, toList_madeCells_one] at dQ
 have bU : Below w.heap.size w U1 := b1.grown gr1 b1.size (fun k hk => by cases hk)
 have k3u : U1.heap[q3]? = _ := (gr1.block q3 (Array.getElem?_eq_some_iff.1 k3).1 ahZ).trans k3
 obtain ⟨c0, c1, c2, -, c4⟩ := cK k3u
 obtain ⟨g, hg⟩ : ∃ q, W1.heap.size = q := ⟨_, rfl⟩
 rw [hg] at lm dQ
 have HR := aiU (show U1.ownsRow w.heap.size 4 1 (.slice (some ⟨g, 0, none⟩) gn gn) gn (qU (gW gn (bl.take 0))) by rw [List.take_zero, GD]; simpa [qU] using dQ)
 have BU := aiU bU
 clear HS H1 H2 qP hn1 hn2 hgn t0 t1 t5 b1 k3 bU k3u dQ gr1 hk hbl hi2 hs0 hs1 hs2 i2 hg hc1 hc2
 go_enter Tryz.func46, Tryz.ntmps46
 go_upto_region 3 with fail
 clear lm u0 su c0 c1 c2 c4 hW1 hq3
 go_loopw [18] (fun a18 wr => ∃ k : Nat, k ≤ n1 ∧ a18 = .int .i64 (k : Int) ∧ wr.ownsRow w.heap.size 4 1 (.slice (some ⟨g, 0, none⟩) gn gn) gn (qU (gW gn (bl.take k))) ∧ Below w.heap.size w wr) (fun a18 _ => n1 - (intOf a18).toNat)
 case atStart => exact ⟨0, Nat.zero_le _, rfl, HR.out, BU.out⟩
 case round =>
  clear HR BU
  obtain ⟨k, hk, rfl, hr, hb⟩ := hrel
  have HR := aiU hr
  have HB := aiU hb
  by_cases hlt : k < n1
  ·have dl : decide ((k : Int) < (n1 : Int)) = true := decide_eq_true ahU
   obtain ⟨y, yb, yo, hy, e, hyb, cy⟩ := (Qj.out ▸ UY.out : Ints w (.slice A1 bl.length jR) bl).at_ hb (j := k) (by rw [Qj.out]; exact hlt)
   subst e
   have XJ := HKN.out y (List.mem_of_getElem? hy)
   simp only [Bool.and_eq_true, decide_eq_true_eq] at XJ
   obtain ⟨b, rfl⟩ : ∃ b : Nat, y = (b : Int) := ⟨y.toNat, by omega⟩
   have lu : b < gn := by omega
   have ib : (b : Int) < (gn : Int) := XJ.2
   have syb : yb < wr.heap.size := by have := hb.size; omega
   have x1 := rC hr (gN _ _) lu
   have x2 := hr.frozenAt b
   have r1 := (hr.stored b (.bool true)).1
   have sg := (hr.lt g rfl)
   rw [wJ, DD, show bl.take k ++ [(b : Int)] = bl.take (k + 1) by rw [List.take_add_one, hy]; rfl] at r1
   have R1 := aiU r1
   have B1 := aiU (hb.setCell (p := ⟨g, b, none⟩) sg.1 (.bool true))
   have sg2 := sg.2
   clear hr hb hy XJ r1 sg
   go_wp2_with fail
   go_roundw
   case rel => exact ⟨k + 1, by omega, by go_num, R1.out, B1.out⟩
   case measure => simp [intOf]; omega
  ·obtain rfl : n1 = k := by omega
   have dl : decide ((n1 : Int) < (n1 : Int)) = false := by simp
   rw [List.take_of_length_le (by rw [Qj.out]; exact Nat.le_refl _)] at hr
   have wR := aiU hr
   clear hr hb
   go_wp2_with fail
   go_ret
   exact ⟨g, rfl, wR.out, HB.out⟩
end
section
open Go.RowKit
def sn (s : List Bool) (x : Nat) : Prop := s.getD x false = true
theorem Gb {s : List Bool} {t : Nat} (ht : t < s.length) : sn (s.set t true) = fun x => sn s x ∨ x = t := by
 funext x
 unfold sn
 by_cases e : x = t
 ·subst e; simp [List.getD, ht]
 ·simp [List.getD, List.getElem?_set_ne (Ne.symm e), e]
theorem pS : ∀ {a b : List Bool}, a.length = b.length → (∀ x, sn b x → sn a x) → unseen a ≤ unseen b
 | [], b, _, _ => by simp [unseen]
 | x :: a, b, hl, hh => by
  cases b with
  | nil => cases hl
  | cons y b =>
   have h1 := pS (a := a) (b := b) aiO fun z hz => by have := hh (z + 1); simpa [sn] using this (by simpa [sn] using hz)
   have h2 := hh 0
   unfold unseen at h1 ⊢
   rw [List.countP_cons, List.countP_cons]
   cases x <;> cases y <;> simp [sn] at h1 h2 ⊢ <;> omega
structure MF (w wr : World) (q4 q7 q5 q6 q9 q10 sb sp n b hd : Nat) (iv l1 l2 l3 : Value) (s : List Bool) : Prop where
 aD : Below w.heap.size w wr
 k4 : wr.heap[q4]? = some (.cells #[.pointer (some ⟨sp, 0, none⟩)] 117 (0, 0))
 k7 : wr.heap[q7]? = some (.cells #[.int .i64 (b : Int)] 3 (0, 0))
 k5 : wr.heap[q5]? = some (.cells #[.int .i64 (hd : Int), l1, l2, l3] 46 (0, 0))
 k6 : wr.heap[q6]? = some (.cells #[iv] 55 (0, 0))
 k9 : wr.heap[q9]? = some (.cells #[.slice (some ⟨sb, 0, none⟩) n n] 55 (0, 0))
 k10 : wr.heap[q10]? = some (.cells #[.func (.func 100) #[] #[.pointer (some ⟨q4, 0, none⟩), .pointer (some ⟨q7, 0, none⟩), .pointer (some ⟨q5, 0, none⟩), .pointer (some ⟨q6, 0, none⟩), .pointer (some ⟨q9, 0, none⟩), .pointer (some ⟨q10, 0, none⟩)]] 155 (0, 0))
 row : wr.ownsRow w.heap.size 4 1 (.slice (some ⟨sb, 0, none⟩) n n) n (qU s)
 len : s.length = n
section
variable {w wr : World} {q4 q7 q5 q6 q9 q10 sb sp n b hd : Nat} {iv l1 l2 l3 : Value} {s : List Bool}
theorem MF.set (h : MF w wr q4 q7 q5 q6 q9 q10 sb sp n b hd iv l1 l2 l3 s) (t : Nat) : MF w (wr.setCell ⟨sb, t, none⟩ (.bool true)) q4 q7 q5 q6 q9 q10 sb sp n b hd iv l1 l2 l3 (s.set t true) := by
 have keep : ∀ (q : Nat) (cs : Array Value) (t' : TypeId) (fr : Nat × Nat), wr.heap[q]? = some (.cells cs t' fr) → t' ≠ 4 → (wr.setCell ⟨sb, t, none⟩ (.bool true)).heap[q]? = some (.cells cs t' fr) := fun q cs t' fr hq ht => by
  rw [Below.heap_setCell _ _ _ _ (dZ hq h.row ht ∘ fun e => by rw [e]; rfl)]; exact hq
 have r := (h.row.stored t (.bool true)).1
 rw [wJ] at r
 exact ⟨h.aD.setCell (p := ⟨sb, t, none⟩) (h.row.lt sb rfl).1 _, keep _ _ _ _ h.k4 ahW, keep _ _ _ _ h.k7 ahW, keep _ _ _ _ h.k5 ahW, keep _ _ _ _ h.k6 ahW, keep _ _ _ _ h.k9 ahW, keep _ _ _ _ h.k10 ahW, r, by simp [h.len]⟩
theorem MF.cells (h : MF w wr q4 q7 q5 q6 q9 q10 sb sp n b hd iv l1 l2 l3 s) : wr.cell? ⟨q4, 0, none⟩ = some (.pointer (some ⟨sp, 0, none⟩)) ∧ wr.cell? ⟨q7, 0, none⟩ = some (.int .i64 (b : Int)) ∧ wr.cell? ⟨q5, 0, none⟩ = some (.int .i64 (hd : Int)) ∧ wr.cell? ⟨q6, 0, none⟩ = some iv ∧ wr.cell? ⟨q9, 0, none⟩ = some (.slice (some ⟨sb, 0, none⟩) n n) ∧
  wr.cell? ⟨q10, 0, none⟩ = some (.func (.func 100) #[] #[.pointer (some ⟨q4, 0, none⟩), .pointer (some ⟨q7, 0, none⟩), .pointer (some ⟨q5, 0, none⟩), .pointer (some ⟨q6, 0, none⟩), .pointer (some ⟨q9, 0, none⟩), .pointer (some ⟨q10, 0, none⟩)]) ∧ (q4 < wr.heap.size ∧ q7 < wr.heap.size ∧ q5 < wr.heap.size ∧ q6 < wr.heap.size ∧ q9 < wr.heap.size ∧ q10 < wr.heap.size) :=
 ⟨by simp [World.cell?, h.k4], by simp [World.cell?, h.k7], by simp [World.cell?, h.k5], by simp [World.cell?, h.k6], by simp [World.cell?, h.k9], by simp [World.cell?, h.k10], (Array.getElem?_eq_some_iff.1 h.k4).1, (Array.getElem?_eq_some_iff.1 h.k7).1, (Array.getElem?_eq_some_iff.1 h.k5).1, (Array.getElem?_eq_some_iff.1 h.k6).1, (Array.getElem?_eq_some_iff.1 h.k9).1, (Array.getElem?_eq_some_iff.1 h.k10).1⟩
end
theorem xO {w : World} {sp : Nat} {bv pv cv rv dv : Value} {G : List aU} {C : List (List Ins)} {rel : List Bool} {D : List Int} (HS : Fa w sp bv pv cv rv dv G C rel D) (HB : GB G G.length) (q4 q7 q5 q6 q9 q10 sb b hd : Nat) (iv l1 l2 l3 : Value) (inl : List Bool) (HI : tP w iv inl) (hil : inl.length = G.length) : ∀ (f nG : Nat) (s : List Bool) (wr : World), MF w wr q4 q7 q5 q6 q9 q10 sb sp G.length b hd iv l1 l2 l3 s → unseen s ≤ f → nG < G.length →
  Calls Tryz.prog 100 #[.int .i64 (nG : Int), .pointer (some ⟨q4, 0, none⟩), .pointer (some ⟨q7, 0, none⟩), .pointer (some ⟨q5, 0, none⟩), .pointer (some ⟨q6, 0, none⟩), .pointer (some ⟨q9, 0, none⟩), .pointer (some ⟨q10, 0, none⟩)] wr fun e w' => ∃ (r : Bool) (s' : List Bool), e = .returned (.bool r) ∧ MF w w' q4 q7 q5 q6 q9 q10 sb sp G.length b hd iv l1 l2 l3 s' ∧ NK (cM G) (sn inl) hd b nG (sn s) (sn s') r := by
 have he : ∀ (args : Array Value) (w : World), (callFunc 100 args).run Tryz.prog w = .ok (.enter 100 args) w := fun _ _ => by kernel_rfl
 obtain ⟨A, cap, rfl, hc1, hc2⟩ := HS.Jk.slice
 have JM := aiU HS.Jk
 have FA := aiU HS.cells
 have jT := aiU HB
 have uj := aiU HI
 have Rf := aiU hil
 clear HS HB hc1 hc2 HI hil
 intro f
 induction f using Nat.strongRecOn with
 | _ f ih =>
  intro nG s wr hC hu hfn
  have IH := aiU ih
  have HC := aiU hC
  have HU := aiU hu
  have HSL := aiU hC.len
  obtain ⟨ib, io, fG, rfl, hib, hic⟩ : ∃ ib io fG, iv = .slice (some ⟨ib, io, none⟩) G.length fG ∧ ib < w.heap.size ∧ ∀ k, k < G.length → w.cell? ⟨ib, io + k, none⟩ = some (.bool (inl.getD k false)) := by
   obtain ⟨A', cap', e1, _, _, e4⟩ := uj.out
   rw [Rf.out] at e1 e4
   obtain ⟨b', off, rfl, h1, h2⟩ := e4 ahU
   exact ⟨b', off, cap', e1, h1, h2⟩
  obtain ⟨t1, -, -, -, -, -, t7⟩ := hC.cells
  obtain ⟨x, NV, gb, go, hx, rfl, hgb, c0, c1, c2, hN⟩ := JM.out.at_ hC.aD (j := nG) hfn
  obtain ⟨NA, di, rfl, hn1, hn2⟩ := hN.slice
  have hsc := FA.out
  have u0 : wr.cell? ⟨sp, 0, none⟩ = some (.slice (some ⟨gb, go, none⟩) G.length cap) := (hC.aD.cell (p := ⟨sp, 0, none⟩) hsc.2.2.2.2.2).trans hsc.1
  have RI : sp < wr.heap.size := by have := hC.aD.size; have := hsc.2.2.2.2.2; omega
  have Xm : gb < wr.heap.size := by have := hC.aD.size; omega
  have hnl : x.nx.length ≤ 5000 := jT.out.two nG x hx
  have ifr : (nG : Int) < (G.length : Int) := by omega
  have HX := aiU hx
  have HNI := aiU hN
  have s4 := t7.1
  have Hv : cM G nG = x.nx.map Int.toNat := vL hx
  have mY := aiU Hv
  clear ih hC hu hsc hx hN c0 c1 hn1 Hv t7
  go_enter Tryz.func100, Tryz.ntmps100
  go_upto_region 2 with fail
  clear u0 RI Xm c2 s4 t1
  go_loopw [21] (fun a21 wr => ∃ (j : Nat) (s' : List Bool), j ≤ x.nx.length ∧ a21 = .int .i64 (j : Int) ∧ MF w wr q4 q7 q5 q6 q9 q10 sb sp G.length b hd (.slice (some ⟨ib, io, none⟩) G.length fG) l1 l2 l3 s' ∧ mN (cM G) (sn inl) hd b ((cM G nG).take j) (sn s) (sn s')) (fun a21 _ => x.nx.length - (intOf a21).toNat)
  case atStart => exact ⟨0, s, Nat.zero_le _, rfl, HC.out, .nil⟩
  case round =>
   clear HC
   obtain ⟨j, s', hj, rfl, hC, hR⟩ := hrel
   obtain ⟨t1, t2, t3, t4, t5, t6, z4, z7, z5, z6, z9, z10⟩ := hC.cells
   have HC := aiU hC
   have HR := aiU hR
   by_cases hlt : j < x.nx.length
   ·have dl : decide ((j : Int) < (x.nx.length : Int)) = true := decide_eq_true ahU
    obtain ⟨sv, nb, ie, hs, hNA, hnb, y1⟩ := HNI.out.at_ hC.aD hlt
    subst hNA
    have Lf := jT.out.nx nG x HX.out sv (List.mem_of_getElem? hs)
    obtain ⟨t, rfl⟩ : ∃ t : Nat, sv = (t : Int) := ⟨sv.toNat, by omega⟩
    have htn : t < G.length := by omega
    have hT : (cM G nG)[j]? = some t := by rw [mY.out, List.getElem?_map, hs]; rfl
    have jC := aiU (show (cM G nG).take (j + 1) = (cM G nG).take j ++ [t] by rw [List.take_add_one, hT]; rfl)
    have HTM := aiU (List.mem_of_getElem? hT)
    have snw : nb < wr.heap.size := by have := hC.aD.size; omega
    have itn : (t : Int) < (G.length : Int) := by omega
    have ic := (hC.aD.cell (p := ⟨ib, io + t, none⟩) hib).trans (hic t htn)
    have siw : ib < wr.heap.size := by have := hC.aD.size; omega
    have sc := rC hC.row hC.len htn
    have sf := hC.row.frozenAt t
    have ssb := (hC.row.lt sb rfl).2
    obtain ⟨bi, O5⟩ : ∃ v, inl.getD t false = v := ⟨_, rfl⟩
    obtain ⟨bs, Es⟩ : ∃ v, s'.getD t false = v := ⟨_, rfl⟩
    rw [O5] at ic
    rw [Es] at sc
    have CR := aiU O5
    have Rp := aiU Es
    clear hC hR hs Lf hT O5 Es
    by_cases htb : t = b
    ·have d1 : ((t : Int) == (b : Int)) = true := by simp [htb]
     have HF := aiU (HR.out.found (nG := nG) (by rw [← htb]; exact HTM.out))
     clear htb
     go_wp2_with fail
     go_ret
     exact ⟨true, s', rfl, HC.out, HF.out⟩
    ·have d1 : ((t : Int) == (b : Int)) = false := by simp; omega
     by_cases JY : t = hd
     ·have d2 : ((t : Int) == (hd : Int)) = true := by simp [JY]
      have HF := aiU (HR.out.skip htb (.inl JY))
      clear htb JY
      go_wp2_with fail
      go_roundw
      case rel => exact ⟨j + 1, s', by omega, by go_num, HC.out, by rw [jC.out]; exact HF.out⟩
      case measure => simp [intOf]; omega
     ·have d2 : ((t : Int) == (hd : Int)) = false := by simp; omega
      rcases bi with _ | _
      ·have HF := aiU (HR.out.skip htb (.inr (.inl (show ¬ sn inl t by unfold sn; rw [CR.out]; simp))))
       clear htb JY
       go_wp2_with fail
       go_roundw
       case rel => exact ⟨j + 1, s', by omega, by go_num, HC.out, by rw [jC.out]; exact HF.out⟩
       case measure => simp [intOf]; omega
      ·rcases bs with _ | _
       ·have hU : unseen s' ≤ f := Nat.le_trans (pS (by rw [HC.out.len, HSL.out]) HR.out.grow) HU.out
        have hs1 : s'[t]? = some false := by
         rcases qI (show t < s'.length by rw [HC.out.len]; exact htn) with h | h
         ·have := mo.2 h; rw [Rp.out] at this; cases this
         ·exact h
        have VD := iN hs1
        have zF := aiU (HC.out.set t)
        obtain ⟨U, yE⟩ : ∃ U, wr.setCell ⟨sb, t, none⟩ (.bool true) = U := ⟨_, rfl⟩
        rw [yE] at zF
        obtain ⟨a1, a2, a3, a4, a5, a6, a7, a8, a9, a10, a11, a12⟩ := zF.out.cells
        have tJ := aiU (IH.out (unseen (s'.set t true)) ahU t (s'.set t true) U zF.out (Nat.le_refl _) htn)
        have WE := aiU (show sn inl t from CR.out)
        have HTB := aiU htb
        have Ur := aiU JY
        have FC := aiU (show t < s'.length by rw [HC.out.len]; exact htn)
        clear htb JY hU hs1 VD
        go_upto_region 8 with fail
        clear t1 t2 t3 t4 t5 t6 z4 z7 z5 z6 z9 z10 sc sf ic y1 yE
        go_wp2_with (go_at_call 100; refine tJ.out.mono ?_; rintro e W7 ⟨r, s7, rfl, VZ, Pg⟩)
        ·rename_i hr
         subst hr
         rw [Gb FC.out] at Pg
         go_ret
         exact ⟨true, s7, rfl, VZ, HR.out.yes HTM.out Ur.out WE.out Pg⟩
        ·rename_i hr
         have hr' : r = false := by simpa using hr
         subst hr'
         rw [Gb FC.out] at Pg
         go_roundw
         case rel => exact ⟨j + 1, s7, by omega, by go_num, VZ, by rw [jC.out]; exact HR.out.into HTB.out WE.out Pg⟩
         case measure => simp [intOf]; omega
       ·have HF := aiU (HR.out.skip htb (.inr (.inr (show sn s' t from Rp.out))))
        clear htb JY
        go_wp2_with fail
        go_roundw
        case rel => exact ⟨j + 1, s', by omega, by go_num, HC.out, by rw [jC.out]; exact HF.out⟩
        case measure => simp [intOf]; omega
   ·obtain rfl : j = x.nx.length := by omega
    have dl : decide ((x.nx.length : Int) < (x.nx.length : Int)) = false := by simp
    have HF := aiU (mN.all (nG := nG) (by
     have e : (cM G nG).take x.nx.length = cM G nG := List.take_of_length_le (by rw [mY.out, List.length_map]; exact Nat.le_refl _)
     rw [e] at hR
     exact hR))
    clear hC hR
    go_wp2_with fail
    go_ret
    exact ⟨false, s', rfl, HC.out, HF.out⟩
end
section
open Go.RowKit
def Y0 (Q : Prop) (e : Ending) : Prop := ∃ r : Bool, e = .returned (.bool r) ∧ (r = true ↔ Q)
theorem A0 {w : World} {sp : Nat} {bv pv cv rv dv : Value} {G : List aU} {C : List (List Ins)} {rel : List Bool} {D : List Int} (HS : Fa w sp bv pv cv rv dv G C rel D) (HB : GB G G.length) (b hd : Nat) (iv l1 l2 : Value) (n1 n2 : List Int) (p : Int) (inl : List Bool) (HI : tP w iv inl) (hil : inl.length = G.length) (hb : b < G.length) (H1 : Ints w l1 n1) (H2 : Ints w l2 n2) :
  Calls Tryz.prog 78 #[.pointer (some ⟨sp, 0, none⟩), .agg #[.int .i64 (hd : Int), l1, l2, .int .i64 p], iv, .int .i64 (b : Int)] w fun e w' => Y0 (b ≠ hd ∧ Vo (cM G) (sn inl) hd b) e ∧ Below w.heap.size w w' := by
 have X7 : ∀ (fn : Fn) (first cap : Array Value) (w : World), (Instr.makeFunc fn first cap).run Tryz.prog w = .ok (.func fn first cap) w := fun _ _ _ _ => rfl
 have he : ∀ (args : Array Value) (w : World), (callFunc 100 args).run Tryz.prog w = .ok (.enter 100 args) w := fun _ _ => by kernel_rfl
 obtain ⟨A1, jR, rfl, -, -⟩ := H1.slice
 obtain ⟨A2, gj, rfl, -, -⟩ := H2.slice
 obtain ⟨m1, hm1⟩ : ∃ m, n1.length = m := ⟨_, rfl⟩
 obtain ⟨m2, hm2⟩ : ∃ m, n2.length = m := ⟨_, rfl⟩
 rw [hm1, hm2]
 obtain ⟨IA, fG, rfl⟩ : ∃ IA fG, iv = .slice IA G.length fG := by
  obtain ⟨A, c, h, _⟩ := HI
  exact ⟨A, c, by rw [h, hil]⟩
 have Fb := aiU HS
 have Qm := aiU HI
 have Kl := aiU HB
 obtain ⟨q4, hq4⟩ : ∃ q, w.heap.size = q := ⟨_, rfl⟩
 obtain ⟨W1, hW1⟩ : ∃ W, w.alloc (.cells #[.pointer (some ⟨sp, 0, none⟩)] 117) = W := ⟨_, rfl⟩
 obtain ⟨q5, hq5⟩ : ∃ q, W1.heap.size = q := ⟨_, rfl⟩
 obtain ⟨W2, hW2⟩ : ∃ W, W1.alloc (.cells #[.int .i64 (hd : Int), .slice A1 m1 jR, .slice A2 m2 gj, .int .i64 p] 46) = W := ⟨_, rfl⟩
 obtain ⟨q6, hq6⟩ : ∃ q, W2.heap.size = q := ⟨_, rfl⟩
 obtain ⟨W3, hW3⟩ : ∃ W, W2.alloc (.cells #[.slice IA G.length fG] 55) = W := ⟨_, rfl⟩
 obtain ⟨q7, hq7⟩ : ∃ q, W3.heap.size = q := ⟨_, rfl⟩
 obtain ⟨W4, VM⟩ : ∃ W, W3.alloc (.cells #[.int .i64 (b : Int)] 3) = W := ⟨_, rfl⟩
 have b1 : Below w.heap.size w W1 := hW1 ▸ (Below.refl _ _).alloc (Nat.le_refl _) _
 have b2 : Below W1.heap.size W1 W2 := hW2 ▸ (Below.refl _ _).alloc (Nat.le_refl _) _
 have b3 : Below W2.heap.size W2 W3 := hW3 ▸ (Below.refl _ _).alloc (Nat.le_refl _) _
 have b4 : Below W3.heap.size W3 W4 := VM ▸ (Below.refl _ _).alloc (Nat.le_refl _) _
 have b34 := b3.trans (b4.mono b3.size)
 have b24 := b2.trans (b34.mono b2.size)
 have b14 := b1.trans (b24.mono b1.size)
 have XE : W1.heap[q4]? = some (.cells #[.pointer (some ⟨sp, 0, none⟩)] 117 (0, 0)) := by rw [← hq4, ← hW1]; exact heap_alloc_new _ _
 have XC : W2.heap[q5]? = some (.cells #[.int .i64 (hd : Int), .slice A1 m1 jR, .slice A2 m2 gj, .int .i64 p] 46 (0, 0)) := by rw [← hq5, ← hW2]; exact heap_alloc_new _ _
 have Xz : W3.heap[q6]? = some (.cells #[.slice IA G.length fG] 55 (0, 0)) := by rw [← hq6, ← hW3]; exact heap_alloc_new _ _
 have k7 : W4.heap[q7]? = some (.cells #[.int .i64 (b : Int)] 3 (0, 0)) := by rw [← hq7, ← VM]; exact heap_alloc_new _ _
 have lt : ∀ {W : World} {q : Nat} {o : Obj}, W.heap[q]? = some o → q < W.heap.size := fun h => (Array.getElem?_eq_some_iff.1 h).1
 have k4 := (b24.block q4 (lt XE)).trans XE
 have k5 := (b34.block q5 (lt XC)).trans XC
 have k6 := (b4.block q6 (lt Xz)).trans Xz
 have c5 := (cK k5).1
 have s5 := (cK k5).2.2.2.2
 have c7 : W4.cell? ⟨q7, 0, none⟩ = some (.int .i64 (b : Int)) := by simp [World.cell?, k7]
 have c6 : W4.cell? ⟨q6, 0, none⟩ = some (.slice IA G.length fG) := by simp [World.cell?, k6]
 have s6 := lt k6
 have s7 := lt k7
 have K4 := aiU k4
 have K5 := aiU k5
 have K6 := aiU k6
 have K7 := aiU k7
 have B4 := aiU b14
 have Tt := Kl.out.le
 obtain ⟨i2, hi2, hs0, hs1, hs2⟩ := info_parts vR
 obtain ⟨U1, lm, dQ, gr1⟩ := run_make_full (P := Tryz.prog) W4 w.heap.size 55 4 i2 (.bool false) 1 Tryz.underlying55 hi2 hs0 hs1 .i64 .i64 G.length aiH ahY b14.size
 rw [Nat.mul_one, show (Value.bool false).cells = #[Value.bool false] from rfl, toList_madeCells_one] at dQ
 obtain ⟨sb, Em⟩ : ∃ q, W4.heap.size = q := ⟨_, rfl⟩
 rw [Em] at lm dQ
 have Qf := aiU dQ
 have zb := aiU gr1
 clear HS HI HB H1 H2 hm1 hm2 XE XC Xz k4 k5 k6 k7 b1 b2 b3 b4 b34 b24 b14 lt dQ gr1 i2 hi2 hs0 hs1 hs2
 go_enter Tryz.func78, Tryz.ntmps78
 by_cases Lu : b = hd
 ·have d : ((b : Int) == (hd : Int)) = true := by simp [Lu]
  have HQ := aiU Lu
  clear Lu
  go_wp2_with fail
  go_ret
  exact ⟨⟨false, rfl, by simp [HQ.out]⟩, B4.out⟩
 ·have d : ((b : Int) == (hd : Int)) = false := by simp; omega
  have HQ := aiU Lu
  clear Lu
  go_upto_region 4 with fail
  obtain ⟨q9, hq9⟩ : ∃ q, U1.heap.size = q := ⟨_, rfl⟩
  obtain ⟨V5, uR⟩ : ∃ V, U1.alloc (.cells #[.slice (some ⟨sb, 0, none⟩) G.length G.length] 55) = V := ⟨_, rfl⟩
  rw [uR, hq9]
  obtain ⟨q10, XV⟩ : ∃ q, V5.heap.size = q := ⟨_, rfl⟩
  obtain ⟨V6, Tk⟩ : ∃ V, V5.alloc (.cells #[.func (.func 100) #[] #[.pointer (some ⟨q4, 0, none⟩), .pointer (some ⟨q7, 0, none⟩), .pointer (some ⟨q5, 0, none⟩), .pointer (some ⟨q6, 0, none⟩), .pointer (some ⟨q9, 0, none⟩), .pointer (some ⟨q10, 0, none⟩)]] 155) = V := ⟨_, rfl⟩
  clear lm c6 c5
  have hwg := zb.out.size
  have sU : sb < U1.heap.size := (Qf.out.lt sb rfl).2
  have s4 : ∀ {q : Nat} {o : Obj}, W4.heap[q]? = some o → q < W4.heap.size := fun h => (Array.getElem?_eq_some_iff.1 h).1
  have keep : ∀ (q : Nat) (x : Obj), W4.heap[q]? = some x → V6.heap[q]? = some x := fun q x hx => by
   have h1 := s4 hx
   have h2 := (zb.out.block q h1 ahZ).trans hx
   rw [← Tk, heap_alloc_old _ _ (by rw [← uR, World.size_alloc]; omega), ← uR, heap_alloc_old _ _ ahU]; exact h2
  have Pm : MF w V6 q4 q7 q5 q6 q9 q10 sb sp G.length b hd (.slice IA G.length fG) (.slice A1 m1 jR) (.slice A2 m2 gj) (.int .i64 p) (List.replicate G.length false) := by
   refine ⟨?_, keep _ _ K4.out, keep _ _ K7.out, keep _ _ K5.out, keep _ _ K6.out, ?_, ?_, ?_, by simp⟩
   ·rw [← Tk, ← uR]
    exact ((B4.out.grown zb.out B4.out.size (fun k hk => by cases hk)).alloc (by have := B4.out.size; omega) _).alloc (by have := B4.out.size; simp; omega) _
   ·rw [← Tk, heap_alloc_old _ _ (by rw [← uR, World.size_alloc]; omega), ← uR, ← hq9]; exact heap_alloc_new _ _
   ·rw [← Tk, ← XV]; exact heap_alloc_new _ _
   ·rw [← Tk, ← uR]
    have := (Qf.out.alloc (.cells #[.slice (some ⟨sb, 0, none⟩) G.length G.length] 55)).alloc (.cells #[.func (.func 100) #[] #[.pointer (some ⟨q4, 0, none⟩), .pointer (some ⟨q7, 0, none⟩), .pointer (some ⟨q5, 0, none⟩), .pointer (some ⟨q6, 0, none⟩), .pointer (some ⟨q9, 0, none⟩), .pointer (some ⟨q10, 0, none⟩)]] 155)
    simpa [qU] using this
  have WT := aiU Pm
  have tJ := aiU (xO Fb.out Kl.out q4 q7 q5 q6 q9 q10 sb b hd _ _ _ _ inl Qm.out hil G.length b _ V6 Pm (by rw [gA]; exact Nat.le_refl _) hb)
  obtain ⟨e1, e2, e3, e4, e5, e6, e7, e8, e9, e10, e11, e12⟩ := Pm.cells
  clear Pm keep s4 hwg sU c7 s5 s6 s7
  go_wp2_with (go_at_call 100; refine tJ.out.mono ?_; rintro e W7 ⟨r, s7, rfl, VZ, Pg⟩)
  go_ret
  refine ⟨⟨r, rfl, ?_⟩, VZ.aD⟩
  have hz : sn (List.replicate G.length false) = fun _ => False := by
   funext x
   unfold sn
   rw [List.getD, List.getElem?_replicate]
   split <;> simp
  rw [hz] at Pg
  rw [Pg.cyc]
  exact ⟨fun h => ⟨HQ.out, h⟩, fun h => h.2⟩
end
section
open Go.RowKit
def gX (i : Ins) : Bool := decide (10 ≤ i.a) && decide (i.a ≤ 13) && (decide (i.op = 25) || (decide (i.op = 15) && decide (i.b = i.a) && decide (i.aP = 1)))
theorem wD (i : Ins) (w : World) :
  Calls Tryz.prog 75 #[.agg #[.int .u8 i.op, .int .i64 i.a, .int .i64 i.b, .int .i64 i.c, .int .i64 i.aP]] w fun e w' => e = .returned (.bool (gX i)) ∧ Below w.heap.size w w' := by
 obtain ⟨op, a, b, c, aP⟩ := i
 obtain ⟨r, hr⟩ : ∃ r, gX ⟨op, a, b, c, aP⟩ = r := ⟨_, rfl⟩
 simp only
 rw [hr]
 have HR := aiU (show r = (decide (10 ≤ a) && decide (a ≤ 13) && (decide (op = 25) || (decide (op = 15) && decide (b = a) && decide (aP = 1)))) from hr.symm)
 obtain ⟨X, hX⟩ : ∃ X, w.alloc (.cells #[.int .u8 op, .int .i64 a, .int .i64 b, .int .i64 c, .int .i64 aP] 67) = X := ⟨_, rfl⟩
 obtain ⟨q, hq⟩ : ∃ q, w.heap.size = q := ⟨_, rfl⟩
 have bX : Below w.heap.size w X := hX ▸ (Below.refl _ _).alloc (Nat.le_refl _) _
 have kX : X.heap[q]? = some (.cells #[.int .u8 op, .int .i64 a, .int .i64 b, .int .i64 c, .int .i64 aP] 67 (0, 0)) := by rw [← hq, ← hX]; exact heap_alloc_new _ _
 have c0 : X.cell? ⟨q, 0, none⟩ = some (.int .u8 op) := by simp [World.cell?, kX]
 have c1 : X.cell? ⟨q, 1, none⟩ = some (.int .i64 a) := by simp [World.cell?, kX]
 have c2 : X.cell? ⟨q, 2, none⟩ = some (.int .i64 b) := by simp [World.cell?, kX]
 have c4 : X.cell? ⟨q, 4, none⟩ = some (.int .i64 aP) := by simp [World.cell?, kX]
 have sq : q < X.heap.size := (Array.getElem?_eq_some_iff.1 kX).1
 have BX := aiU bX
 have BQ := aiU (show Below q w X from hq ▸ bX)
 clear bX kX hr
 go_enter Tryz.func75, Tryz.ntmps75
 by_cases h1 : a < 10
 ·have d1 : decide (a < 10) = true := decide_eq_true h1
  have HF := aiU (show r = false by rw [HR.out, decide_eq_false (show ¬ 10 ≤ a by omega)]; rfl)
  go_wp2_with fail
  go_ret
  exact ⟨by rw [HF.out]; rfl, aih⟩
 have d1 : decide (a < 10) = false := decide_eq_false h1
 by_cases h2 : 13 < a
 ·have d2 : decide (13 < a) = true := decide_eq_true h2
  have HF := aiU (show r = false by rw [HR.out, decide_eq_false (show ¬ a ≤ 13 by omega)]; simp)
  go_wp2_with fail
  go_ret
  exact ⟨by rw [HF.out]; rfl, aih⟩
 have d2 : decide (13 < a) = false := decide_eq_false h2
 have wR := aiU (show r = (decide (op = 25) || (decide (op = 15) && decide (b = a) && decide (aP = 1))) by rw [HR.out, decide_eq_true (show 10 ≤ a by omega), decide_eq_true (show a ≤ 13 by omega)]; rfl)
 clear h1 h2
 by_cases h3 : op = 25
 ·have d3 : (op == 25) = true := by simp [h3]
  have HF := aiU (show r = true by rw [wR.out, decide_eq_true h3]; rfl)
  clear h3
  go_wp2_with fail
  go_ret
  exact ⟨by rw [HF.out]; rfl, aih⟩
 have d3 : (op == 25) = false := by simp [h3]
 have oK := aiU (show r = (decide (op = 15) && decide (b = a) && decide (aP = 1)) by rw [wR.out, decide_eq_false h3]; rfl)
 by_cases h4 : op = 15
 case neg =>
  have d4 : (op == 15) = false := by simp [h4]
  have HF := aiU (show r = false by rw [oK.out, decide_eq_false h4]; rfl)
  clear h3 h4
  go_wp2_with fail
  go_ret
  exact ⟨by rw [HF.out]; rfl, aih⟩
 have d4 : (op == 15) = true := by simp [h4]
 by_cases h5 : b = a
 case neg =>
  have d5 : (b == a) = false := by simp [h5]
  have HF := aiU (show r = false by rw [oK.out, decide_eq_false h5]; simp)
  clear h3 h4 h5
  go_wp2_with fail
  go_ret
  exact ⟨by rw [HF.out]; rfl, aih⟩
 have d5 : (b == a) = true := by simp [h5]
 by_cases h6 : aP = 1
 case neg =>
  have d6 : (aP == 1) = false := by simp [h6]
  have HF := aiU (show r = false by rw [oK.out, decide_eq_false h6]; simp)
  clear h3 h4 h5 h6
  go_wp2_with fail
  go_ret
  exact ⟨by rw [HF.out]; rfl, aih⟩
 have d6 : (aP == 1) = true := by simp [h6]
 have HF := aiU (show r = true by rw [oK.out, decide_eq_true h4, decide_eq_true h5, decide_eq_true h6]; rfl)
 clear h3 h4 h5 h6
 go_wp2_with fail
 go_ret
 exact ⟨by rw [HF.out]; rfl, aih⟩
end
section
open Go.RowKit
def jS (n : Nat) (f : Nat → Nat) : List Int := (List.range n).map fun k => (f k : Int)
theorem yR (n : Nat) (f : Nat → Nat) : (jS n f).length = n := by simp [jS]
theorem Ct {n : Nat} {f : Nat → Nat} {k : Nat} (hk : k < n) : (jS n f).getD k (-1) = (f k : Int) := by
 rw [List.getD, jS, List.getElem?_map, List.getElem?_range hk]; rfl
theorem I1 (n : Nat) (f : Nat → Nat) (b : Nat) (x : Nat) : (jS n f).set b (x : Int) = jS n (fun k => if k = b then x else f k) := by
 apply List.ext_getElem
 ·simp [jS]
 ·intro i h1 h2
  rw [List.getElem_set]
  simp only [jS, List.getElem_map, List.getElem_range]
  by_cases e : b = i
  ·rw [if_pos e, if_pos e.symm]
  ·rw [if_neg e, if_neg (Ne.symm e)]
open Classical in
noncomputable def nJ (D : List Int) (ls : List Nat) (k : Nat) : Nat := ls.countP fun l => decide (bR D l k)
open Classical in
noncomputable def mL (D : List Int) (ls : List Nat) (V : Nat → Prop) (k : Nat) : Nat := nJ D ls k + if V k then 1 else 0
theorem EK (D : List Int) (ls : List Nat) : mL D ls (fun _ => False) = nJ D ls := by funext k; unfold mL; rw [if_neg id]; rfl
theorem IK {D : List Int} {ls : List Nat} {V : Nat → Prop} {y : Nat} (h : ¬ V y) : (fun k => if k = y then mL D ls V y + 1 else mL D ls V k) = mL D ls (fun x => V x ∨ x = y) := by
 funext k
 unfold mL
 by_cases e : k = y
 ·subst e; rw [if_pos rfl, if_neg h, if_pos (Or.inr rfl)]
 ·rw [if_neg e]
  by_cases hk : V k
  ·rw [if_pos hk, if_pos (Or.inl hk)]
  ·rw [if_neg hk, if_neg (fun h => h.elim hk e)]
theorem IJ (D : List Int) (ls : List Nat) (l : Nat) : mL D ls (bR D l) = nJ D (ls ++ [l]) := by
 funext k
 unfold mL nJ
 rw [List.countP_append]
 by_cases h : bR D l k
 ·rw [if_pos h]; simp [h]
 ·rw [if_neg h]; simp [h]
theorem LU (D : List Int) (ls : List Nat) (k : Nat) : nJ D ls k ≤ ls.length := List.countP_le_length
theorem IP {D : List Int} {ls : List Nat} {k : Nat} : nJ D ls k = ls.length ↔ ∀ l ∈ ls, bR D l k := by
 unfold nJ
 rw [List.countP_eq_length]
 simp
section
variable {n : Nat} {nx : Nat → List Nat} {ord : List Nat} {pos : Nat → Nat} {D : List Int}
theorem A6 (t : TI n nx ord pos D) {l y y' : Nat} (h : bR D l y) (e : D.getD y (-1) = (y' : Int)) : (fun x => (bR D l x ∧ ¬ bR D y x) ∨ x = y) = fun x => bR D l x ∧ ¬ bR D y' x := by
 funext x
 apply propext
 have h1 := (t.up _ _ e).2.2.1
 constructor
 ·rintro (⟨a, b⟩ | rfl)
  ·exact ⟨a, fun c => b ((bR.step e).2 (.inr c))⟩
  ·exact ⟨h, fun c => by have := t.le c; omega⟩
 ·rintro ⟨a, b⟩
  by_cases c : bR D y x
  ·rcases (bR.step e).1 c with rfl | c
   ·exact .inr rfl
   ·exact absurd c b
  ·exact .inl ⟨a, c⟩
theorem A7 {l y : Nat} (h : bR D l y) (e : D.getD y (-1) < 0) : (fun x => (bR D l x ∧ ¬ bR D y x) ∨ x = y) = bR D l := by
 funext x
 apply propext
 constructor
 ·rintro (⟨a, b⟩ | rfl)
  ·exact a
  ·exact h
 ·intro a
  by_cases c : bR D y x
  ·cases c with
   | self => exact .inr rfl
   | up h1 _ => omega
  ·exact .inl ⟨a, c⟩
theorem qp (l : Nat) : (fun x => bR D l x ∧ ¬ bR D l x) = fun _ => False := by funext x; apply propext; exact ⟨fun h => h.2 h.1, False.elim⟩
end
end
section
open Go.RowKit
def kM (G : List aU) (rel : List Bool) (D : List Int) (hd : Nat) (bl : List Int) (ls : List Nat) (b : Nat) : Prop := (b : Int) ∈ bl ∧ rel.getD b false = true ∧ (∀ l ∈ ls, bR D l b) ∧ ¬ (b ≠ hd ∧ Vo (cM G) (sn (gW G.length bl)) hd b)
open Classical in
noncomputable def pB (G : List aU) (rel : List Bool) (D : List Int) (hd : Nat) (bl : List Int) (ls : List Nat) (k b : Nat) : Bool := decide (b < k ∧ kM G rel D hd bl ls b)
theorem lQ {G : List aU} {rel : List Bool} {D : List Int} {hd : Nat} {bl : List Int} {ls : List Nat} {k b : Nat} : pB G rel D hd bl ls k b = true ↔ b < k ∧ kM G rel D hd bl ls b := by unfold pB; simp
noncomputable def eC (G : List aU) (rel : List Bool) (D : List Int) (hd : Nat) (bl : List Int) (ls : List Nat) (k : Nat) : List Bool := (List.range G.length).map (pB G rel D hd bl ls k)
theorem jI (G : List aU) (rel : List Bool) (D : List Int) (hd : Nat) (bl : List Int) (ls : List Nat) (k : Nat) : (eC G rel D hd bl ls k).length = G.length := by simp [eC]
theorem zZ (G : List aU) (rel : List Bool) (D : List Int) (hd : Nat) (bl : List Int) (ls : List Nat) : eC G rel D hd bl ls 0 = List.replicate G.length false := by
 apply List.ext_getElem
 ·simp [eC]
 ·intro i h1 h2
  simp only [eC, List.getElem_map, List.getElem_range, List.getElem_replicate]
  rw [Bool.eq_false_iff]
  intro h
  have := (lQ.1 h).1
  omega
theorem z8 {G : List aU} {rel : List Bool} {D : List Int} {hd : Nat} {bl : List Int} {ls : List Nat} {k : Nat} {r : Bool} (hr : r = true ↔ kM G rel D hd bl ls k) : (eC G rel D hd bl ls k).set k r = eC G rel D hd bl ls (k + 1) := by
 apply List.ext_getElem
 ·simp [eC]
 ·intro i h1 h2
  rw [List.getElem_set]
  simp only [eC, List.getElem_map, List.getElem_range]
  by_cases e : k = i
  ·subst e
   rw [if_pos rfl, Bool.eq_iff_iff, hr, lQ]
   exact ⟨fun h => ⟨by omega, h⟩, fun h => h.2⟩
  ·rw [if_neg e, Bool.eq_iff_iff, lQ, lQ]
   exact ⟨fun h => ⟨by omega, h.2⟩, fun h => ⟨by omega, h.2⟩⟩
theorem rN {w : World} {sp : Nat} {bv pv cv rv dv : Value} {G : List aU} {C : List (List Ins)} {rel : List Bool} {D : List Int} {nx : Nat → List Nat} {ord : List Nat} {pos : Nat → Nat} (HS : Fa w sp bv pv cv rv dv G C rel D) (HB : GB G G.length) (gr : Gr G.length nx ord pos) (it : gD G.length nx ord pos D) (hd : Nat) (bl : List Int) (ls : List Nat) (ig fG : Nat) (l1 l2 : Value) (p : Int) (HI : tP w (.slice (some ⟨ig, 0, none⟩) G.length fG) (gW G.length bl)) (H1 : Ints w l1 bl) (H2 : Ints w l2 (cm ls)) (hls : ∀ l ∈ ls, l ∈ ord) (hl5 : ls.length ≤ 5000000) :
  Calls Tryz.prog 48 #[.pointer (some ⟨sp, 0, none⟩), .agg #[.int .i64 (hd : Int), l1, l2, .int .i64 p], .slice (some ⟨ig, 0, none⟩) G.length fG] w fun e w' => ∃ g, e = .returned (.slice (some ⟨g, 0, none⟩) G.length G.length) ∧ w'.ownsRow w.heap.size 4 1 (.slice (some ⟨g, 0, none⟩) G.length G.length) G.length (qU (eC G rel D hd bl ls G.length)) ∧ Below w.heap.size w w' := by
 obtain ⟨A1, jR, rfl, -, -⟩ := H1.slice
 obtain ⟨A2, gj, rfl, hb1, hb2⟩ := H2.slice
 obtain ⟨DA, nH, rfl, hd1, hd2⟩ := HS.dom.slice
 obtain ⟨m1, hm1⟩ : ∃ m, bl.length = m := ⟨_, rfl⟩
 obtain ⟨m, hm⟩ : ∃ m, (cm ls).length = m := ⟨_, rfl⟩
 have hlm : ls.length = m := by rw [← hm]; simp [cm]
 rw [HS.ld] at hd1
 obtain ⟨dq, Q0, hDA, hdq, hdc⟩ : ∃ dq Q0, DA = some ⟨dq, Q0, none⟩ ∧ dq < w.heap.size ∧ ∀ k, k < G.length → w.cell? ⟨dq, Q0 + k, none⟩ = some (.int .i64 (D.getD k (-1))) := by
  obtain ⟨_, _, e1, _, _, e4⟩ := HS.dom
  cases e1
  obtain ⟨q, off, e5, e6, e7⟩ := e4 (by rw [HS.ld]; exact gr.n0)
  refine ⟨q, off, e5, e6, fun k hk => ?_⟩
  rw [e7 k (by rw [HS.ld]; exact hk)]
  simp [List.getD, List.getElem?_eq_getElem (show k < D.length by rw [HS.ld]; exact hk)]
 subst hDA
 have J0 := HS.ld
 rw [hm1, hm]
 rw [hm] at hb1
 have Fb := aiU HS
 have ZN := aiU J0
 have UN := aiU hlm
 have HM := aiU hm
 have ZV := aiU (show Ints w (.slice A2 m gj) (cm ls) by rw [← hm]; exact H2)
 have UY := aiU (show Ints w (.slice A1 m1 jR) bl by rw [← hm1]; exact H1)
 have ZU := aiU (show Ints w (.slice A2 m gj) (cm ls) by rw [← hm]; exact H2)
 have Qm := aiU HI
 have GR := aiU gr
 have IT := aiU it
 have HDC := aiU hdc
 have Re := aiU hls
 have Kl := aiU HB
 have Tt := HB.le
 obtain ⟨q4, hq4⟩ : ∃ q, w.heap.size = q := ⟨_, rfl⟩
 obtain ⟨W1, hW1⟩ : ∃ W, w.alloc (.cells #[.int .i64 (hd : Int), .slice A1 m1 jR, .slice A2 m gj, .int .i64 p] 46) = W := ⟨_, rfl⟩
 have b1 : Below w.heap.size w W1 := hW1 ▸ (Below.refl _ _).alloc (Nat.le_refl _) _
 have k4 : W1.heap[q4]? = some (.cells #[.int .i64 (hd : Int), .slice A1 m1 jR, .slice A2 m gj, .int .i64 p] 46 (0, 0)) := by rw [← hq4, ← hW1]; exact heap_alloc_new _ _
 obtain ⟨iI, p9, qd, oy, ox⟩ := info_parts ow
 obtain ⟨U1, lm, dQ, gr1⟩ := run_make_full (P := Tryz.prog) W1 w.heap.size 38 3 iI (.int .i64 0) 1 Tryz.underlying38 p9 qd oy .i64 .i64 G.length aiQ ahY b1.size
 rw [Nat.mul_one, show (Value.int .i64 0).cells = #[Value.int .i64 0] from rfl, toList_madeCells_one] at dQ
 have bU : Below w.heap.size w U1 := b1.grown gr1 b1.size (fun k hk => by cases hk)
 have XD : U1.heap[q4]? = _ := (gr1.block q4 (Array.getElem?_eq_some_iff.1 k4).1 ahZ).trans k4
 obtain ⟨c0, c1, c2, -, c4⟩ := cK XD
 obtain ⟨g, hg⟩ : ∃ q, W1.heap.size = q := ⟨_, rfl⟩
 rw [hg] at lm dQ
 have hz : dU (jS G.length (nJ D (ls.take 0))) = List.replicate G.length (Value.int .i64 0) := by
  rw [List.take_zero]
  apply List.ext_getElem
  ·simp [dU, jS]
  ·intro i h1 h2; simp [dU, jS, nJ]
 have HR := aiU (show U1.ownsRow w.heap.size 3 1 (.slice (some ⟨g, 0, none⟩) G.length G.length) G.length (dU (jS G.length (nJ D (ls.take 0)))) by rw [hz]; exact dQ)
 have BU := aiU bU
 have K4 := aiU XD
 clear HS HI H1 H2 gr it hdc hls HB b1 k4 dQ gr1 bU XD hz p9 qd oy ox iI hg hm hm1 hlm J0
 go_enter Tryz.func48, Tryz.ntmps48
 go_upto_region 3 with fail
 clear lm c0 c1 c2 c4 hW1
 have hmm := @run_makeMap Tryz.prog
 go_loopw [20] (fun a20 wr => ∃ i : Nat, i ≤ m ∧ a20 = .int .i64 (i : Int) ∧ wr.ownsRow w.heap.size 3 1 (.slice (some ⟨g, 0, none⟩) G.length G.length) G.length (dU (jS G.length (nJ D (ls.take i)))) ∧ wr.heap[q4]? = some (.cells #[.int .i64 (hd : Int), .slice A1 m1 jR, .slice A2 m gj, .int .i64 p] 46 (0, 0)) ∧ Below w.heap.size w wr) (fun a20 _ => m - (intOf a20).toNat)
 case atStart => exact ⟨0, Nat.zero_le _, rfl, HR.out, K4.out, BU.out⟩
 case round =>
  clear HR K4 BU
  obtain ⟨i, hi, rfl, hr, hk4, hb⟩ := hrel
  have HR := aiU hr
  have HK := aiU hk4
  have HB := aiU hb
  by_cases hlt : i < m
  ·have dl : decide ((i : Int) < (m : Int)) = true := decide_eq_true ahU
   obtain ⟨l, hl⟩ : ∃ l, ls[i]? = some l := ⟨_, List.getElem?_eq_getElem (by rw [UN.out]; exact hlt)⟩
   obtain ⟨sv, lb, lo, hs, J6, hlb, y1⟩ := (HM.out ▸ ZV.out : Ints w (.slice A2 (cm ls).length gj) (cm ls)).at_ hb (j := i) ait
   subst J6
   obtain rfl : sv = (l : Int) := by simp [cm, hl] at hs; exact hs.symm
   have Vt : lb < wr.heap.size := by have := hb.size; omega
   have jC := aiU (show ls.take (i + 1) = ls.take i ++ [l] by rw [List.take_add_one, hl]; rfl)
   have hlo := Re.out l (List.mem_of_getElem? hl)
   have WD := aiU hlo
   obtain ⟨mb, hmb⟩ : ∃ q, wr.heap.size = q := ⟨_, rfl⟩
   obtain ⟨X, hX⟩ : ∃ X, wr.alloc (.map #[] 0) = X := ⟨_, rfl⟩
   have bX : Below wr.heap.size wr X := hX ▸ (Below.refl _ _).alloc (Nat.le_refl _) _
   have ZQ := aiU (show Im X mb (jc (fun x => bR D l x ∧ ¬ bR D l x)) by
    rw [qp, show jc (fun _ => False) = fun _ => none by funext k; simp [jc], ← hmb, ← hX]
    exact Im.made wr)
   have HRX := aiU (show X.ownsRow w.heap.size 3 1 (.slice (some ⟨g, 0, none⟩) G.length G.length) G.length (dU (jS G.length (mL D (ls.take i) (fun x => bR D l x ∧ ¬ bR D l x)))) by
    rw [qp, EK]; exact ak hr bX)
   have HKX := aiU ((bX.block q4 (Array.getElem?_eq_some_iff.1 hk4).1).trans hk4)
   have lH := aiU (hb.trans (bX.mono hb.size))
   have hmw : w.heap.size ≤ mb := by have := hb.size; omega
   clear hr hk4 hb hl hs hlo bX
   go_upto_region 7 with fail
   clear y1 Vt hX hmb
   go_loopw [11] (fun a11 wr => ∃ V : Nat → Prop, ((∃ y : Nat, a11 = .int .i64 (y : Int) ∧ y ∈ ord ∧ bR D l y ∧ V = fun x => bR D l x ∧ ¬ bR D y x) ∨ (a11 = .int .i64 (-1) ∧ V = bR D l)) ∧ Im wr mb (jc V) ∧ wr.ownsRow w.heap.size 3 1 (.slice (some ⟨g, 0, none⟩) G.length G.length) G.length (dU (jS G.length (mL D (ls.take i) V))) ∧ wr.heap[q4]? = some (.cells #[.int .i64 (hd : Int), .slice A1 m1 jR, .slice (some ⟨lb, lo, none⟩) m gj, .int .i64 p] 46 (0, 0)) ∧ Below w.heap.size w wr) (fun a11 _ => if intOf a11 < 0 then 0 else pos (intOf a11).toNat + 1)
   case atStart => exact ⟨_, .inl ⟨l, rfl, WD.out, .self _, rfl⟩, ZQ.out, HRX.out, HKX.out, lH.out⟩
   case round =>
    clear ZQ HRX HKX lH HR HK HB
    obtain ⟨V, hV, him, hr, hk4, hb⟩ := hrel
    have ZQ := aiU him
    have HR := aiU hr
    have HK := aiU hk4
    have HB := aiU hb
    have hsc := Fb.out.cells
    have u4 : wr.cell? ⟨sp, 4, none⟩ = some (.slice (some ⟨dq, Q0, none⟩) D.length nH) := (hb.cell (p := ⟨sp, 4, none⟩) hsc.2.2.2.2.2).trans hsc.2.2.2.2.1
    rw [ZN.out] at u4
    have RI : sp < wr.heap.size := by have := hb.size; have := hsc.2.2.2.2.2; omega
    clear hsc
    rcases hV with ⟨y, rfl, hyo, VJ, Pc⟩ | ⟨rfl, Pc⟩
    ·have MV := GR.out.lt y hyo
     have Hx : ¬ V y := by rw [Pc]; exact fun h => h.2 (.self _)
     have d0 : decide ((0 : Int) ≤ (y : Int)) = true := decide_eq_true ahU
     have d1 : decide ((y : Int) < (G.length : Int)) = true := decide_eq_true ahU
     have d2 : decide (y < G.length) = true := decide_eq_true MV
     have iy : (y : Int) < (G.length : Int) := by omega
     have hl := him.iw (P := Tryz.prog) (kt := 3) (t := 99) (e := 4) Tryz.underlying3 Tryz.underlying99 (sS wr) (eX (k := (y : Int)) ahU ahU) (Cv Hx) false
     simp only [kv, Bool.false_eq_true, if_false] at hl
     obtain ⟨W2, hput, hm2, o1, o2, o3, o4, o5⟩ := him.put (P := Tryz.prog) (kt := 3) (t := 99) (e := 4) Tryz.underlying3 Tryz.underlying99 (k := (y : Int)) (eX ahU ahU) (.bool true)
     simp only [kv] at hput
     rw [sP] at hm2
     have wZ : g ≠ mb := fun e => by
      obtain ⟨es, cl, h1, _⟩ := him
      rcases hr.2 with ⟨h2, _⟩ | ⟨g', cap', cur, h2, _, h3, _⟩
      ·cases h2
      ·cases h2; rw [e, h1] at h3; cases h3
     have hqm : q4 ≠ mb := fun e => by
      obtain ⟨es, cl, h1, _⟩ := him
      rw [e, h1] at hk4; cases hk4
     have hgb : wr.grownBy W2 (some mb) := ⟨o1, o2, o3, by omega, fun k _ hne => o5 k fun e => hne (by rw [e])⟩
     have hr2 := hr.kept hgb (.inr fun e => wZ (by injection e))
     have hb2 := hb.grown hgb hb.size (fun k hk => by cases hk; exact hmw)
     have tW : mL D (ls.take i) V y ≤ 5000001 := by
      have h1 := LU D (ls.take i) y
      have h2 : (ls.take i).length ≤ ls.length := by simp; omega
      unfold mL
      split <;> omega
     have x1 := fM hr2 (yR _ _) MV
     rw [Ct MV] at x1
     have x2 := hr2.frozenAt y
     obtain ⟨cy, Nf⟩ : ∃ c, mL D (ls.take i) V y = c := ⟨_, rfl⟩
     rw [Nf] at x1 tW
     have r1 := (hr2.stored y (.int .i64 ((cy : Int) + 1))).1
     have er : (jS G.length (mL D (ls.take i) V)).set y ((cy : Int) + 1) = jS G.length (mL D (ls.take i) (fun x => V x ∨ x = y)) := by
      have := I1 G.length (mL D (ls.take i) V) y (cy + 1)
      rw [← Nf, IK Hx, Nf] at this
      exact this
     rw [j5, er] at r1
     have sg := hr2.lt g rfl
     have R1 := aiU r1
     have B3 := hb2.setCell (p := ⟨g, y, none⟩) sg.1 (.int .i64 ((cy : Int) + 1))
     have N6 := aiU B3
     have M1 := aiU (hm2.keep (w' := W2.setCell ⟨g, y, none⟩ (.int .i64 ((cy : Int) + 1))) (Below.heap_setCell _ _ _ _ (Ne.symm wZ)))
     have XU : q4 ≠ g := dZ hk4 hr ahW ∘ fun e => by rw [e]; rfl
     have K1 := aiU (show (W2.setCell ⟨g, y, none⟩ (.int .i64 ((cy : Int) + 1))).heap[q4]? = _ from (Below.heap_setCell _ _ _ _ XU).trans ((o5 q4 hqm).trans hk4))
     have hsc := Fb.out.cells
     have u5 : (W2.setCell ⟨g, y, none⟩ (.int .i64 ((cy : Int) + 1))).cell? ⟨sp, 4, none⟩ = some (.slice (some ⟨dq, Q0, none⟩) D.length nH) := (B3.cell (p := ⟨sp, 4, none⟩) hsc.2.2.2.2.2).trans hsc.2.2.2.2.1
     rw [ZN.out] at u5
     have u6 := (B3.cell (p := ⟨dq, Q0 + y, none⟩) hdq).trans (HDC.out y MV)
     obtain ⟨d, hd'⟩ : ∃ d, D.getD y (-1) = d := ⟨_, rfl⟩
     rw [hd'] at u6
     have adM : sp < W2.heap.size := by omega
     have adU : dq < W2.heap.size := by have := hb2.size; omega
     have sg2 := sg.2
     have HVN := aiU (show (d = -1 ∧ (fun x => V x ∨ x = y) = bR D l) ∨ ∃ y' : Nat, d = (y' : Int) ∧ y' ∈ ord ∧ bR D l y' ∧ (fun x => V x ∨ x = y) = (fun x => bR D l x ∧ ¬ bR D y' x) ∧ pos y' < pos y by
      by_cases h0 : 0 ≤ d
      ·obtain ⟨y', rfl⟩ : ∃ y' : Nat, d = (y' : Int) := ⟨d.toNat, by omega⟩
       obtain ⟨_, u2, u3, _, _⟩ := IT.out.ti.up y y' hd'
       exact .inr ⟨y', rfl, u2, VJ.trans (.up hd' (.self _)), by rw [Pc]; exact A6 IT.out.ti VJ hd', u3⟩
      ·have := IT.out.ti.ge y
       exact .inl ⟨by omega, by rw [Pc]; exact A7 VJ ahU⟩)
     clear him hr hk4 hb Pc hyo VJ Hx hm2 o1 o2 o3 o5 hgb hr2 hb2 Nf r1 B3 hsc hd' sg wZ hqm XU er
     go_wp2_with fail
     refine ⟨⟨fun x => V x ∨ x = y, ?_, M1.out, R1.out, K1.out, N6.out⟩, ?_⟩
     ·rcases HVN.out with ⟨e, h⟩ | ⟨y', e, h1, h2, h3, h4⟩
      ·exact .inr ⟨by rw [e], h⟩
      ·exact .inl ⟨y', by rw [e], h1, h2, h3⟩
     ·rcases HVN.out with ⟨e, h⟩ | ⟨y', e, h1, h2, h3, h4⟩
      ·subst e
       show (if (-1 : Int) < 0 then 0 else _) < (if (y : Int) < 0 then 0 else pos ((y : Int).toNat) + 1)
       rw [if_pos ahW, if_neg ahU]
       omega
      ·subst e
       show (if (y' : Int) < 0 then 0 else pos ((y' : Int).toNat) + 1) < (if (y : Int) < 0 then 0 else pos ((y : Int).toNat) + 1)
       rw [if_neg ahU, if_neg ahU, Int.toNat_natCast, Int.toNat_natCast]
       omega
    ·have d0 : decide ((0 : Int) ≤ -1) = false := by decide
     have Kg := aiU (show wr.ownsRow w.heap.size 3 1 (.slice (some ⟨g, 0, none⟩) G.length G.length) G.length (dU (jS G.length (nJ D (ls.take (i + 1))))) by rw [jC.out, ← IJ, ← Pc]; exact hr)
     clear him hr hk4 hb Pc
     go_wp2_with fail
     go_roundw
     case rel => exact ⟨i + 1, by omega, by go_num, Kg.out, HK.out, HB.out⟩
     case measure => simp [intOf]; omega
  ·obtain rfl : m = i := by omega
   have dl : decide ((m : Int) < (m : Int)) = false := by simp
   rw [List.take_of_length_le (by rw [UN.out]; exact Nat.le_refl _)] at hr
   have wR := aiU hr
   obtain ⟨i2, hi2, hs0, hs1, hs2⟩ := info_parts vR
   obtain ⟨U2, lm, dQ, gr1⟩ := run_make_full (P := Tryz.prog) wr w.heap.size 55 4 i2 (.bool false) 1 Tryz.underlying55 hi2 hs0 hs1 .i64 .i64 G.length aiH ahY hb.size
   rw [Nat.mul_one, show (Value.bool false).cells = #[Value.bool false] from rfl, toList_madeCells_one] at dQ
   obtain ⟨ag, hag⟩ : ∃ q, wr.heap.size = q := ⟨_, rfl⟩
   rw [hag] at lm dQ
   have hz : qU (eC G rel D hd bl ls 0) = List.replicate G.length (Value.bool false) := by rw [zZ]; simp [qU]
   have zu := aiU (show U2.ownsRow w.heap.size 4 1 (.slice (some ⟨ag, 0, none⟩) G.length G.length) G.length (qU (eC G rel D hd bl ls 0)) by rw [hz]; exact dQ)
   have Mu := aiU (hr.kept gr1 (.inr aiD))
   have Ql := aiU ((gr1.block q4 (Array.getElem?_eq_some_iff.1 hk4).1 ahZ).trans hk4)
   have FH := aiU (hb.grown gr1 hb.size (fun k hk => by cases hk))
   clear hr hk4 hb dQ gr1 hz hi2 hs0 hs1 hs2 i2 hag HR HK HB wR
   go_upto_region 14 with fail
   clear lm
   go_loopw [64] (fun a64 wr => ∃ k : Nat, k ≤ G.length ∧ a64 = .int .i64 (k : Int) ∧ wr.ownsRow w.heap.size 4 1 (.slice (some ⟨ag, 0, none⟩) G.length G.length) G.length (qU (eC G rel D hd bl ls k)) ∧ wr.ownsRow w.heap.size 3 1 (.slice (some ⟨g, 0, none⟩) G.length G.length) G.length (dU (jS G.length (nJ D ls))) ∧ wr.heap[q4]? = some (.cells #[.int .i64 (hd : Int), .slice A1 m1 jR, .slice A2 m gj, .int .i64 p] 46 (0, 0)) ∧ Below w.heap.size w wr) (fun a64 _ => G.length - (intOf a64).toNat)
   case atStart => exact ⟨0, Nat.zero_le _, rfl, zu.out, Mu.out, Ql.out, FH.out⟩
   case round =>
    clear zu Mu Ql FH
    obtain ⟨k, hk, rfl, hr, hc, hk4, hb⟩ := hrel
    have HR := aiU hr
    have HC := aiU hc
    have HK := aiU hk4
    have HB := aiU hb
    by_cases hlt : k < G.length
    ·have dl : decide ((k : Int) < (G.length : Int)) = true := decide_eq_true ahU
     have ik : (k : Int) < (G.length : Int) := by omega
     have QF : wr.cell? ⟨ig, k, none⟩ = some (.bool (decide ((k : Int) ∈ bl))) := by
      obtain ⟨A', cap', e1, _, _, e4⟩ := Qm.out
      rw [gN] at e1 e4
      obtain ⟨b', off, e5, h1, h2⟩ := e4 ahU
      cases e1
      cases e5
      have := h2 k hlt
      rw [KN hlt, Nat.zero_add] at this
      exact (hb.cell (p := ⟨ig, k, none⟩) h1).trans this
     have sig : ig < wr.heap.size := by
      obtain ⟨A', cap', e1, _, _, e4⟩ := Qm.out
      rw [gN] at e1 e4
      obtain ⟨b', off, e5, h1, h2⟩ := e4 ahU
      cases e1
      cases e5
      have := hb.size; omega
     obtain ⟨rq, ro, jG, Fl, hrq, hrc⟩ : ∃ rq ro jG, rv = .slice (some ⟨rq, ro, none⟩) G.length jG ∧ rq < w.heap.size ∧ ∀ k, k < G.length → w.cell? ⟨rq, ro + k, none⟩ = some (.bool (rel.getD k false)) := by
      obtain ⟨A', cap', e1, _, _, e4⟩ := Fb.out.rls
      rw [Fb.out.lr] at e1 e4
      obtain ⟨b', off, e5, h1, h2⟩ := e4 ahU
      exact ⟨b', off, cap', by rw [e1, e5], h1, h2⟩
     have hsc := Fb.out.cells
     have RI : sp < wr.heap.size := by have := hb.size; have := hsc.2.2.2.2.2; omega
     have u3 : wr.cell? ⟨sp, 3, none⟩ = some (.slice (some ⟨rq, ro, none⟩) G.length jG) := by
      rw [← Fl]; exact (hb.cell (p := ⟨sp, 3, none⟩) hsc.2.2.2.2.2).trans hsc.2.2.2.1
     have QE := (hb.cell (p := ⟨rq, ro + k, none⟩) hrq).trans (hrc k hlt)
     have srq : rq < wr.heap.size := by have := hb.size; omega
     have OP := fM hc (yR _ _) hlt
     rw [Ct hlt] at OP
     have sgq := (hc.lt g rfl).2
     obtain ⟨q0, q1, q2, q3, q4s⟩ := cK hk4
     have pa1 := rC hr (jI _ _ _ _ _ _ _) hlt
     have pa2 := hr.frozenAt k
     have JV := (hr.lt ag rfl).2
     have RQ := (hr.lt ag rfl).1
     obtain ⟨old, hold⟩ : ∃ v, (eC G rel D hd bl ls k).getD k false = v := ⟨_, rfl⟩
     rw [hold] at pa1
     obtain ⟨bi, O5⟩ : ∃ v, decide ((k : Int) ∈ bl) = v := ⟨_, rfl⟩
     obtain ⟨br, hbr⟩ : ∃ v, rel.getD k false = v := ⟨_, rfl⟩
     obtain ⟨cn, Fp⟩ : ∃ v, nJ D ls k = v := ⟨_, rfl⟩
     obtain ⟨cy, Nf⟩ : ∃ v : Bool, (v = true ↔ k ≠ hd ∧ Vo (cM G) (sn (gW G.length bl)) hd k) := by
      by_cases h : k ≠ hd ∧ Vo (cM G) (sn (gW G.length bl)) hd k
      ·exact ⟨true, by simp [h]⟩
      ·exact ⟨false, by simp only [Bool.false_eq_true, false_iff]; exact h⟩
     rw [O5] at QF
     rw [hbr] at QE
     rw [Fp] at OP
     have Va := aiU (show ∀ x : Ext wr, Calls Tryz.prog 78 #[.pointer (some ⟨sp, 0, none⟩), .agg #[.int .i64 (hd : Int), .slice A1 m1 jR, .slice A2 m gj, .int .i64 p], .slice (some ⟨ig, 0, none⟩) G.length fG, .int .i64 (k : Int)] x.w fun e w' => e = .returned (.bool cy) ∧ Below x.w.heap.size x.w w' from fun x => by
      have bx := HB.out.trans (x.h.mono HB.out.size)
      refine (A0 (Fb.out.below bx) Kl.out k hd _ _ _ bl (cm ls) p (gW G.length bl) (Qm.out.below bx) (gN _ _) hlt (UY.out.below bx) (ZU.out.below bx)).mono ?_
      rintro e w' ⟨⟨r, rfl, hr⟩, hb⟩
      have : r = cy := by rw [Bool.eq_iff_iff, hr, Nf]
      rw [this]
      exact ⟨rfl, hb⟩)
     have Th : q4 ≠ ag := dZ hk4 hr ahW ∘ fun e => by rw [e]; rfl
     have mY := aiU (show ∀ W, Below wr.heap.size wr W → ∀ r : Bool, (r = true ↔ kM G rel D hd bl ls k) → (W.setCell ⟨ag, k, none⟩ (.bool r)).ownsRow w.heap.size 4 1 (.slice (some ⟨ag, 0, none⟩) G.length G.length) G.length (qU (eC G rel D hd bl ls (k + 1))) ∧ (W.setCell ⟨ag, k, none⟩ (.bool r)).ownsRow w.heap.size 3 1 (.slice (some ⟨g, 0, none⟩) G.length G.length) G.length (dU (jS G.length (nJ D ls))) ∧ (W.setCell ⟨ag, k, none⟩ (.bool r)).heap[q4]? = some (.cells #[.int .i64 (hd : Int), .slice A1 m1 jR, .slice A2 m gj, .int .i64 p] 46 (0, 0)) ∧ Below w.heap.size w (W.setCell ⟨ag, k, none⟩ (.bool r)) from fun W hW r hr2 => by
      have h1 := ((ak HR.out hW).stored k (.bool r)).1
      rw [wJ, z8 hr2] at h1
      have hcW := ak HC.out hW
      refine ⟨h1, hcW.kept (aQ W ag k _) (.inr fun e => cV hcW (ak HR.out hW) ahW g rfl (by
        have e2 : g = ag := by injection e
        rw [e2]; rfl)), (Below.heap_setCell _ _ _ _ Th).trans ((hW.block q4 q4s).trans HK.out), (HB.out.trans (hW.mono HB.out.size)).setCell (p := ⟨ag, k, none⟩) RQ _⟩)
     have UE := aiU (show kM G rel D hd bl ls k ↔ bi = true ∧ br = true ∧ cn = m ∧ cy = false by
      unfold kM
      rw [← O5, ← hbr, ← Fp, decide_eq_true_eq, ← UN.out, IP]
      exact and_congr_right fun _ => and_congr_right fun _ => and_congr_right fun _ => by
       rw [← Nf]; simp)
     clear hr hc hk4 hb Fl hrc hsc hold O5 hbr Fp Nf Th RQ
     rcases bi with _ | _
     ·have CP := aiU (show (false = true ↔ kM G rel D hd bl ls k) by rw [UE.out]; simp)
      go_upto_region 16 with fail
      refine aI 34 ahV ahV ?_
      simp only [ai1, List.take_zero, ai2, List.drop_zero]
      repeat (go_big_quiet_step ((go_at_call 78; exact Calls.ax (Va.out _))))
      refine wpQuiet_nil ?_
      rintro _ ⟨x1, rfl⟩
      have a1 := x1.cell ag k JV
      have a2 := x1.frozen ag k JV
      rw [pa1] at a1
      rw [pa2] at a2
      have sa1 : ag < x1.w.heap.size := by have := x1.h.size; omega
      have hN := mY.out x1.w x1.h false CP.out
      clear pa1 pa2 QF QE OP u3 q0 q1 q2 q3
      go_wp2_with fail
      go_roundw
      case rel => exact ⟨k + 1, by omega, by go_num, hN.1, hN.2.1, hN.2.2.1, hN.2.2.2⟩
      case measure => simp [intOf]; omega
     rcases br with _ | _
     ·have CP := aiU (show (false = true ↔ kM G rel D hd bl ls k) by rw [UE.out]; simp)
      go_upto_region 16 with fail
      refine aI 34 ahV ahV ?_
      simp only [ai1, List.take_zero, ai2, List.drop_zero]
      repeat (go_big_quiet_step ((go_at_call 78; exact Calls.ax (Va.out _))))
      refine wpQuiet_nil ?_
      rintro _ ⟨x1, rfl⟩
      have a1 := x1.cell ag k JV
      have a2 := x1.frozen ag k JV
      rw [pa1] at a1
      rw [pa2] at a2
      have sa1 : ag < x1.w.heap.size := by have := x1.h.size; omega
      have hN := mY.out x1.w x1.h false CP.out
      clear pa1 pa2 QF QE OP u3 q0 q1 q2 q3
      go_wp2_with fail
      go_roundw
      case rel => exact ⟨k + 1, by omega, by go_num, hN.1, hN.2.1, hN.2.2.1, hN.2.2.2⟩
      case measure => simp [intOf]; omega
     by_cases hcm : cn = m
     case neg =>
      have dcm : ((cn : Int) == (m : Int)) = false := beq_eq_false_iff_ne.2 ahU
      have CP := aiU (show (false = true ↔ kM G rel D hd bl ls k) by rw [UE.out]; simp [hcm])
      clear hcm
      go_upto_region 16 with fail
      refine aI 34 ahV ahV ?_
      simp only [ai1, List.take_zero, ai2, List.drop_zero]
      repeat (go_big_quiet_step ((go_at_call 78; exact Calls.ax (Va.out _))))
      refine wpQuiet_nil ?_
      rintro _ ⟨x1, rfl⟩
      have a1 := x1.cell ag k JV
      have a2 := x1.frozen ag k JV
      rw [pa1] at a1
      rw [pa2] at a2
      have sa1 : ag < x1.w.heap.size := by have := x1.h.size; omega
      have hN := mY.out x1.w x1.h false CP.out
      clear pa1 pa2 QF QE OP u3 q0 q1 q2 q3
      go_wp2_with fail
      go_roundw
      case rel => exact ⟨k + 1, by omega, by go_num, hN.1, hN.2.1, hN.2.2.1, hN.2.2.2⟩
      case measure => simp [intOf]; omega
     have dcm : ((cn : Int) == (m : Int)) = true := by simp [hcm]
     rcases cy with _ | _
     ·have CP := aiU (show (true = true ↔ kM G rel D hd bl ls k) by rw [UE.out]; simp [hcm])
      clear hcm
      go_upto_region 16 with fail
      refine aI 34 ahV ahV ?_
      simp only [ai1, List.take_zero, ai2, List.drop_zero]
      repeat (go_big_quiet_step ((go_at_call 78; exact Calls.ax (Va.out _))))
      refine wpQuiet_nil ?_
      rintro _ ⟨x1, rfl⟩
      have a1 := x1.cell ag k JV
      have a2 := x1.frozen ag k JV
      rw [pa1] at a1
      rw [pa2] at a2
      have sa1 : ag < x1.w.heap.size := by have := x1.h.size; omega
      have hN := mY.out x1.w x1.h true CP.out
      clear pa1 pa2 QF QE OP u3 q0 q1 q2 q3
      go_wp2_with fail
      go_roundw
      case rel => exact ⟨k + 1, by omega, by go_num, hN.1, hN.2.1, hN.2.2.1, hN.2.2.2⟩
      case measure => simp [intOf]; omega
     have CP := aiU (show (false = true ↔ kM G rel D hd bl ls k) by rw [UE.out]; simp)
     clear hcm
     go_upto_region 16 with fail
     refine aI 34 ahV ahV ?_
     simp only [ai1, List.take_zero, ai2, List.drop_zero]
     repeat (go_big_quiet_step ((go_at_call 78; exact Calls.ax (Va.out _))))
     refine wpQuiet_nil ?_
     rintro _ ⟨x1, rfl⟩
     have a1 := x1.cell ag k JV
     have a2 := x1.frozen ag k JV
     rw [pa1] at a1
     rw [pa2] at a2
     have sa1 : ag < x1.w.heap.size := by have := x1.h.size; omega
     have hN := mY.out x1.w x1.h false CP.out
     clear pa1 pa2 QF QE OP u3 q0 q1 q2 q3
     go_wp2_with fail
     go_roundw
     case rel => exact ⟨k + 1, by omega, by go_num, hN.1, hN.2.1, hN.2.2.1, hN.2.2.2⟩
     case measure => simp [intOf]; omega
    ·obtain rfl : k = G.length := by omega
     have dl : decide ((G.length : Int) < (G.length : Int)) = false := by simp
     clear hr hc hk4 hb
     go_wp2_with fail
     go_ret
     exact ⟨ag, rfl, HR.out, HB.out⟩
end
section
open Go.RowKit
def JU (i : Ins) : Bool := aT i && (fm i.op.toNat).wr && decide (i.a ≠ 0)
theorem zI (i : Ins) (h0 : 0 ≤ i.op) (w : World) (T : gZ w) :
  Calls Tryz.prog 77 #[.agg #[.int .u8 i.op, .int .i64 i.a, .int .i64 i.b, .int .i64 i.c, .int .i64 i.aP]] w fun e w' => e = .returned (.tuple #[.int .i64 (if JU i = true then i.a else 0), .bool (JU i)]) ∧ Below w.heap.size w w' := by
 have HV : ∀ W, gZ W → Calls Tryz.prog 55 #[.agg #[.int .u8 i.op, .int .i64 i.a, .int .i64 i.b, .int .i64 i.c, .int .i64 i.aP]] W fun e w' => e = .returned (.bool (aT i)) ∧ Below W.heap.size W w' := fun W hT => dO i h0 W hT
 obtain ⟨v, hv⟩ : ∃ v, aT i = v := ⟨_, rfl⟩
 obtain ⟨r, hr⟩ : ∃ r, JU i = r := ⟨_, rfl⟩
 rw [hv] at HV
 have HR := aiU (show r = (v && (fm i.op.toNat).wr && decide (i.a ≠ 0)) by rw [← hr, ← hv]; rfl)
 rw [hr]
 obtain ⟨z, hz⟩ : ∃ z, (if r = true then i.a else 0) = z := ⟨_, rfl⟩
 rw [hz]
 have HZ := aiU hz
 clear hz
 have Uq := aiU (show v = true → i.op < 30 from fun hh => by
  rw [← hv] at hh; unfold aT at hh
  rw [Bool.and_eq_true] at hh
  exact of_decide_eq_true hh.1)
 clear hv hr
 obtain ⟨op, a, b, c, aP⟩ := i
 simp only at HV h0
 obtain ⟨X, hX⟩ : ∃ X, w.alloc (.cells #[.int .u8 op, .int .i64 a, .int .i64 b, .int .i64 c, .int .i64 aP] 67) = X := ⟨_, rfl⟩
 obtain ⟨q, hq⟩ : ∃ q, w.heap.size = q := ⟨_, rfl⟩
 have bX : Below w.heap.size w X := hX ▸ (Below.refl _ _).alloc (Nat.le_refl _) _
 have kX : X.heap[q]? = some (.cells #[.int .u8 op, .int .i64 a, .int .i64 b, .int .i64 c, .int .i64 aP] 67 (0, 0)) := by rw [← hq, ← hX]; exact heap_alloc_new _ _
 have c0 : X.cell? ⟨q, 0, none⟩ = some (.int .u8 op) := by simp [World.cell?, kX]
 have c1 : X.cell? ⟨q, 1, none⟩ = some (.int .i64 a) := by simp [World.cell?, kX]
 have c2 : X.cell? ⟨q, 2, none⟩ = some (.int .i64 b) := by simp [World.cell?, kX]
 have c3 : X.cell? ⟨q, 3, none⟩ = some (.int .i64 c) := by simp [World.cell?, kX]
 have c4 : X.cell? ⟨q, 4, none⟩ = some (.int .i64 aP) := by simp [World.cell?, kX]
 have sq : q < X.heap.size := (Array.getElem?_eq_some_iff.1 kX).1
 have HC := aiU (show Calls Tryz.prog 55 #[.agg #[.int .u8 op, .int .i64 a, .int .i64 b, .int .i64 c, .int .i64 aP]] X fun e w' => e = .returned (.bool v) ∧ Below X.heap.size X w' from HV X (T.below bX))
 have BX := aiU bX
 have HT := aiU (T.below bX)
 go_enter Tryz.func77, Tryz.ntmps77
 cases v with
 | false =>
  have HF := aiU (show r = false by rw [HR.out]; rfl)
  go_wp2_with (go_at_call 55; refine (Calls.ext HC.out).mono ?_; rintro e w' ⟨rfl, y, rfl⟩)
  go_ret2
  exact ⟨by rw [← HZ.out, HF.out]; rfl, Ext.below (hq ▸ BX.out) aik y⟩
 | true =>
  obtain ⟨k, rfl⟩ : ∃ k : Nat, op = (k : Int) := ⟨op.toNat, by omega⟩
  have hk : k < 30 := by have := Uq.out rfl; simp only at this; omega
  have ct := (T.below bX).cells k hk 3 (.bool (fm k).wr) rfl
  have Wo := (T.below bX).pos
  have wR := aiU (show r = ((fm k).wr && decide (a ≠ 0)) by rw [HR.out]; simp)
  obtain ⟨wr, hwr⟩ : ∃ wr, (fm k).wr = wr := ⟨_, rfl⟩
  rw [hwr] at ct wR
  clear HR Uq hwr HV T
  cases wr with
  | false =>
   have HF := aiU (show r = false by rw [wR.out]; rfl)
   go_wp2_with (go_at_call 55; refine (Calls.ext HC.out).mono ?_; rintro e w' ⟨rfl, y, rfl⟩)
   go_ret2
   exact ⟨by rw [← HZ.out, HF.out]; rfl, Ext.below (hq ▸ BX.out) aik y⟩
  | true =>
   by_cases ha : a = 0
   ·have da : (a == 0) = true := by simp [ha]
    have HF := aiU (show r = false by rw [wR.out]; simp [ha])
    clear ha
    go_wp2_with (go_at_call 55; refine (Calls.ext HC.out).mono ?_; rintro e w' ⟨rfl, y, rfl⟩)
    go_ret2
    exact ⟨by rw [← HZ.out, HF.out]; rfl, Ext.below (hq ▸ BX.out) aik y⟩
   ·have da : (a == 0) = false := by simp [ha]
    have HF := aiU (show r = true by rw [wR.out]; simp [ha])
    clear ha
    go_wp2_with (go_at_call 55; refine (Calls.ext HC.out).mono ?_; rintro e w' ⟨rfl, y, rfl⟩)
    go_ret2
    exact ⟨by rw [← HZ.out, HF.out]; rfl, Ext.below (hq ▸ BX.out) aik y⟩
end
section
open Go.RowKit
structure Cs where
 wr : Nat
 st : Nat
 bd : Int
 fd : Bool
def cW (aO : Int) (i : Ins) : Bool := JU i && decide (i.a = aO)
def cS (aO : Int) (i : Ins) : Bool := decide (i = ⟨15, aO, aO, 0, 1⟩)
def cB (aO : Int) (i : Ins) : Bool := decide (i.op = 25) && decide (i.a = aO)
def jq (aO : Int) (pb : Bool) (s : Cs) (i : Ins) : Cs :=
 let t := cB aO i && pb && (!s.fd || decide (i.aP < s.bd))
 ⟨s.wr + (cW aO i).toNat, s.st + (cW aO i && (cS aO i && pb)).toNat, if t = true then i.aP else s.bd, s.fd || t⟩
def fh (aO : Int) (pb : Bool) (s : Cs) (l : List Ins) : Cs := l.foldl (jq aO pb) s
def wF (aO : Int) (inl pl : List Bool) (C : List (List Ins)) (s : Cs) (b : Nat) : Cs :=
 if inl.getD b false = true then fh aO (pl.getD b false) s (C.getD b []) else s
def gl (aO : Int) (inl pl : List Bool) (C : List (List Ins)) (k : Nat) : Cs := (List.range k).foldl (wF aO inl pl C) ⟨0, 0, 0, false⟩
def sN (aO : Int) (s : Cs) : Int × Bool :=
 if aO < 10 ∨ 13 < aO then (0, false) else if s.wr ≠ 1 ∨ s.st ≠ 1 ∨ s.fd = false then (0, false) else (s.bd, true)
theorem Bc (aO : Int) (pb : Bool) (s : Cs) {l : List Ins} {j : Nat} {i : Ins} (h : l[j]? = some i) : fh aO pb s (l.take (j + 1)) = jq aO pb (fh aO pb s (l.take j)) i := by
 unfold fh
 rw [List.take_add_one, h, List.foldl_append]
 rfl
theorem I0 (aO : Int) (pb : Bool) (s : Cs) (i : Ins) : (jq aO pb s i).wr ≤ s.wr + 1 ∧ (jq aO pb s i).st ≤ s.st + 1 := by
 unfold jq
 simp only
 have := Bool.toNat_le (cW aO i)
 have := Bool.toNat_le (cW aO i && (cS aO i && pb))
 omega
theorem sO (aO : Int) (pb : Bool) : ∀ (l : List Ins) (s : Cs), (fh aO pb s l).wr ≤ s.wr + l.length ∧ (fh aO pb s l).st ≤ s.st + l.length
 | [], s => ⟨Nat.le_refl _, Nat.le_refl _⟩
 | i :: l, s => by
  have h1 := I0 aO pb s i
  have h2 := sO aO pb l (jq aO pb s i)
  rw [List.length_cons]
  show (fh aO pb (jq aO pb s i) l).wr ≤ _ ∧ (fh aO pb (jq aO pb s i) l).st ≤ _
  omega
theorem vg (aO : Int) (inl pl : List Bool) (C : List (List Ins)) (k : Nat) : gl aO inl pl C (k + 1) = wF aO inl pl C (gl aO inl pl C k) k := by
 unfold gl
 rw [List.range_succ, List.foldl_append]
 rfl
theorem Cu (aO : Int) (inl pl : List Bool) (C : List (List Ins)) (k : Nat) (hk : k ≤ C.length) : (gl aO inl pl C k).wr ≤ (C.take k).flatten.length ∧ (gl aO inl pl C k).st ≤ (C.take k).flatten.length := by
 induction k with
 | zero => exact ⟨Nat.le_refl _, Nat.le_refl _⟩
 | succ k ih =>
  have h1 := ih ahU
  rw [vg, List.take_add_one, List.getElem?_eq_getElem (by omega : k < C.length)]
  simp only [Option.toList_some, List.flatten_append, List.flatten_cons, List.flatten_nil, List.append_nil, List.length_append]
  unfold wF
  split
  ·rw [show C.getD k [] = C[k]'ahU by simp [List.getD, List.getElem?_eq_getElem (by omega : k < C.length)]]
   have := sO aO (pl.getD k false) (C[k]'ahU) (gl aO inl pl C k)
   omega
  ·omega
end
section
open Go.RowKit
theorem Ip {P : Program} (d : Nat) {t : TypeId} {k : IntKind} (h : P.underlying t = some (.int k)) (a b : Int) (w : World) : (Op.equalIn (d + 1) t (.int k a) (.int k b)).run P w = .ok (a == b) w := by
 simp [Op.equalIn, run_underlying h]
theorem Oq (a b c d e : Int) (w : World) : (part 5 #[.int .u8 a, .int .i64 b, .int .i64 c, .int .i64 d, .int .i64 e] 0).run Tryz.prog w = .ok (.int .u8 a) w := by kernel_rfl
theorem Oo (a b c d e : Int) (w : World) : (part 3 #[.int .u8 a, .int .i64 b, .int .i64 c, .int .i64 d, .int .i64 e] 1).run Tryz.prog w = .ok (.int .i64 b) w := by kernel_rfl
theorem Om (a b c d e : Int) (w : World) : (part 3 #[.int .u8 a, .int .i64 b, .int .i64 c, .int .i64 d, .int .i64 e] 2).run Tryz.prog w = .ok (.int .i64 c) w := by kernel_rfl
theorem Ol (a b c d e : Int) (w : World) : (part 3 #[.int .u8 a, .int .i64 b, .int .i64 c, .int .i64 d, .int .i64 e] 3).run Tryz.prog w = .ok (.int .i64 d) w := by kernel_rfl
theorem Oj (a b c d e : Int) (w : World) : (part 3 #[.int .u8 a, .int .i64 b, .int .i64 c, .int .i64 d, .int .i64 e] 4).run Tryz.prog w = .ok (.int .i64 e) w := by kernel_rfl
theorem LJ (n : Nat) (a b c d e a' b' c' d' e' : Int) (w : World) : (Op.equalIn (n + 1 + 1) 67 (.agg #[.int .u8 a, .int .i64 b, .int .i64 c, .int .i64 d, .int .i64 e]) (.agg #[.int .u8 a', .int .i64 b', .int .i64 c', .int .i64 d', .int .i64 e'])).run Tryz.prog w = .ok (decide ((⟨a, b, c, d, e⟩ : Ins) = ⟨a', b', c', d', e'⟩)) w := by
 have e3 : ∀ (a b : Int) (w : World), (Op.equalIn (n + 1) 3 (.int .i64 a) (.int .i64 b)).run Tryz.prog w = .ok (a == b) w := fun a b w => Ip n Tryz.underlying3 a b w
 have e5 : ∀ (a b : Int) (w : World), (Op.equalIn (n + 1) 5 (.int .u8 a) (.int .u8 b)).run Tryz.prog w = .ok (a == b) w := fun a b w => Ip n Tryz.underlying5 a b w
 rw [Op.equalIn]
 simp [run_underlying Tryz.underlying67, e3, e5, Oq, Oo, Om, Ol, Oj, Sem.run_bind]
 by_cases h1 : a = a' <;> by_cases h2 : b = b' <;> by_cases h3 : c = c' <;> by_cases h4 : d = d' <;> by_cases h5 : e = e' <;> simp [h1, h2, h3, h4, h5]
theorem Tw (a b c d e a' b' c' d' e' : Int) (w : World) : (binOp .eql 67 (.agg #[.int .u8 a, .int .i64 b, .int .i64 c, .int .i64 d, .int .i64 e]) (.agg #[.int .u8 a', .int .i64 b', .int .i64 c', .int .i64 d', .int .i64 e'])).run Tryz.prog w = .ok (.bool (decide ((⟨a, b, c, d, e⟩ : Ins) = ⟨a', b', c', d', e'⟩))) w := by
 simp only [binOp]
 simp [Op.equal, Op.maxDepth, LJ 9998]
end
section
open Go.RowKit
theorem CG (a b : Int) : (a == b) = decide (a = b) := by by_cases h : a = b <;> simp [h]
theorem GQ {C : List (List Ins)} {x : List Ins} (h : x ∈ C) : x.length ≤ C.flatten.length := (List.sublist_flatten_of_mem h).length_le
theorem sI {w : World} {sp : Nat} {bv pv cv rv dv : Value} {G : List aU} {C : List (List Ins)} {rel : List Bool} {D : List Int} (HS : Fa w sp bv pv cv rv dv G C rel D) (hn : G.length ≤ 5000) (T : gZ w) (vV : ∀ l ∈ C, ∀ i ∈ l, 0 ≤ i.op) (hfl : C.flatten.length ≤ 1000000000000000) (hd p : Int) (l1 l2 iv qv : Value) (inl pl : List Bool) (HI : tP w iv inl) (hil : inl.length = G.length) (HP : tP w qv pl) (hpl : pl.length = G.length) (aO : Int) :
  Calls Tryz.prog 47 #[.pointer (some ⟨sp, 0, none⟩), .agg #[.int .i64 hd, l1, l2, .int .i64 p], iv, qv, .int .i64 aO] w fun e w' => e = .returned (.tuple #[.int .i64 (sN aO (gl aO inl pl C G.length)).1, .bool (sN aO (gl aO inl pl C G.length)).2]) ∧ Below w.heap.size w w' := by
 obtain ⟨r, hr⟩ : ∃ r, sN aO (gl aO inl pl C G.length) = r := ⟨_, rfl⟩
 rw [hr]
 obtain ⟨r1, r2⟩ := r
 simp only
 obtain ⟨IA, fG, hiv, hi1, hi2⟩ : ∃ A cap, iv = .slice A G.length cap ∧ G.length ≤ cap ∧ cap ≤ maxLen := by
  obtain ⟨A, cap, e, h1, h2, _⟩ := HI
  exact ⟨A, cap, by rw [e, hil], by omega, h2⟩
 subst hiv
 obtain ⟨PA, aX, hqv, hp1, hp2⟩ : ∃ A cap, qv = .slice A G.length cap ∧ G.length ≤ cap ∧ cap ≤ maxLen := by
  obtain ⟨A, cap, e, h1, h2, _⟩ := HP
  exact ⟨A, cap, by rw [e, hpl], by omega, h2⟩
 subst hqv
 have HR := aiU hr
 have Fb := aiU HS
 have TH := aiU T
 have HO := aiU vV
 have Qs := aiU hfl
 have Qm := aiU HI
 have Qg := aiU HP
 have Rf := aiU hil
 have xe := aiU hpl
 clear hr T vV hfl HI HP hil hpl
 obtain ⟨CA, cX, hcv, hc1, hc2⟩ : ∃ A cap, cv = .slice A G.length cap ∧ G.length ≤ cap ∧ cap ≤ maxLen := by
  obtain ⟨A, cap, h1, h2, h3, h4⟩ := HS.II
  rw [HS.lc] at h1 h2
  exact ⟨A, cap, h1, h2, h3⟩
 subst hcv
 obtain ⟨W1, hW1⟩ : ∃ W, w.alloc (.cells #[.int .i64 hd, l1, l2, .int .i64 p] 46) = W := ⟨_, rfl⟩
 have b1 : Below w.heap.size w W1 := hW1 ▸ (Below.refl _ _).alloc (Nat.le_refl _) _
 have c2 : W1.cell? ⟨sp, 2, none⟩ = some (.slice CA G.length cX) := (b1.cell (p := ⟨sp, 2, none⟩) HS.cells.2.2.2.2.2).trans HS.cells.2.2.1
 have RI : sp < W1.heap.size := by have := b1.size; have := HS.cells.2.2.2.2.2; omega
 have B1 := aiU b1
 clear HS b1
 go_enter Tryz.func47, Tryz.ntmps47
 by_cases h1 : aO < 10
 ·have d1 : decide (aO < 10) = true := decide_eq_true h1
  have HF := aiU (show (r1, r2) = (0, false) by rw [← HR.out]; unfold sN; rw [if_pos (.inl h1)])
  go_wp2_with fail
  go_ret2
  have h := HF.out
  injection h with h2 h3
  exact ⟨by rw [h2, h3]; rfl, by first | exact B1.out | exact hW1 ▸ B1.out⟩
 have d1 : decide (aO < 10) = false := decide_eq_false h1
 by_cases h2 : 13 < aO
 ·have d2 : decide (13 < aO) = true := decide_eq_true h2
  have HF := aiU (show (r1, r2) = (0, false) by rw [← HR.out]; unfold sN; rw [if_pos (.inr h2)])
  go_wp2_with fail
  go_ret2
  have h := HF.out
  injection h with h2 h3
  exact ⟨by rw [h2, h3]; rfl, by first | exact B1.out | exact hW1 ▸ B1.out⟩
 have d2 : decide (13 < aO) = false := decide_eq_false h2
 have NZ := aiU (show ¬ (aO < 10 ∨ 13 < aO) by omega)
 clear h1 h2
 go_upto_region 7 with fail
 obtain ⟨W2, hW2⟩ : ∃ W, W1.alloc (.cells #[.int .u8 15, .int .i64 aO, .int .i64 aO, .int .i64 0, .int .i64 1] 67) = W := ⟨_, rfl⟩
 rw [hW2]
 obtain ⟨g, hg⟩ : ∃ q, W1.heap.size = q := ⟨_, rfl⟩
 rw [hg]
 have K2 := aiU (show W2.heap[g]? = some (.cells #[.int .u8 15, .int .i64 aO, .int .i64 aO, .int .i64 0, .int .i64 1] 67 (0, 0)) by rw [← hg, ← hW2]; exact heap_alloc_new _ _)
 have B2 := aiU (show Below w.heap.size w W2 by rw [← hW2]; exact B1.out.alloc B1.out.size _)
 clear hW2 hW1 c2 RI hg B1
 go_loopw [12, 13, 14, 15, 37] (fun a12 a13 a14 a15 a37 wr => ∃ k : Nat, k ≤ G.length ∧ a37 = .int .i64 (k : Int) ∧ a12 = .int .i64 ((gl aO inl pl C k).wr : Int) ∧ a13 = .int .i64 ((gl aO inl pl C k).st : Int) ∧ a14 = .int .i64 (gl aO inl pl C k).bd ∧ a15 = .bool (gl aO inl pl C k).fd ∧ wr.heap[g]? = some (.cells #[.int .u8 15, .int .i64 aO, .int .i64 aO, .int .i64 0, .int .i64 1] 67 (0, 0)) ∧ Below w.heap.size w wr) (fun _ _ _ _ a37 _ => G.length - (intOf a37).toNat)
 case atStart => exact ⟨0, Nat.zero_le _, rfl, rfl, rfl, rfl, rfl, K2.out, B2.out⟩
 case round =>
  clear K2 B2
  obtain ⟨k, hk, rfl, rfl, rfl, rfl, rfl, hg, hb⟩ := hrel
  have HG := aiU hg
  have HB := aiU hb
  obtain ⟨s, hs⟩ : ∃ s, gl aO inl pl C k = s := ⟨_, rfl⟩
  rw [hs]
  have HS := aiU hs
  obtain ⟨sw, ss, sb, sf⟩ := s
  simp only
  clear hs
  by_cases hlt : k < G.length
  ·have dl : decide ((k : Int) < (G.length : Int)) = true := decide_eq_true ahU
   obtain ⟨ib, io, hIA, hib, hic⟩ : ∃ b o, IA = some ⟨b, o, none⟩ ∧ b < w.heap.size ∧ w.cell? ⟨b, o + k, none⟩ = some (.bool (inl.getD k false)) := by
    obtain ⟨A', cap', e1, _, _, e4⟩ := Qm.out
    rw [Rf.out] at e1 e4
    cases e1
    obtain ⟨b', off, e5, h1, h2⟩ := e4 ahU
    exact ⟨b', off, e5, h1, h2 k hlt⟩
   obtain ⟨pb, po, Tl, hpb, hpc⟩ : ∃ b o, PA = some ⟨b, o, none⟩ ∧ b < w.heap.size ∧ w.cell? ⟨b, o + k, none⟩ = some (.bool (pl.getD k false)) := by
    obtain ⟨A', cap', e1, _, _, e4⟩ := Qg.out
    rw [xe.out] at e1 e4
    cases e1
    obtain ⟨b', off, e5, h1, h2⟩ := e4 ahU
    exact ⟨b', off, e5, h1, h2 k hlt⟩
   obtain ⟨cb, co, u, x, Yy, hcb, hx, Yl, pG⟩ : ∃ b o u x, CA = some ⟨b, o, none⟩ ∧ b < w.heap.size ∧ C[k]? = some x ∧ w.cell? ⟨b, o + k, none⟩ = some u ∧ Rw w u x := by
    obtain ⟨A', cap', e1, _, _, e4⟩ := Fb.out.II
    have hlc := Fb.out.lc
    rw [hlc] at e1 e4
    cases e1
    obtain ⟨b', off, e5, h1, h2⟩ := e4 ahU
    obtain ⟨u, h3, h4⟩ := h2 k _ (List.getElem?_eq_getElem (show k < C.length by omega))
    exact ⟨b', off, u, _, e5, h1, List.getElem?_eq_getElem (show k < C.length by omega), h3, h4⟩
   obtain ⟨XA, adF, rfl, hx1, hx2, hx4⟩ := pG
   obtain ⟨m, hm⟩ : ∃ m, x.length = m := ⟨_, rfl⟩
   have aeF : m ≤ 1000000000000000 := by have := GQ (List.mem_of_getElem? hx); have := Qs.out; omega
   rw [hm] at Yl hx1 hx4
   obtain ⟨inb, OZ⟩ : ∃ b, inl.getD k false = b := ⟨_, rfl⟩
   obtain ⟨ux, OU⟩ : ∃ b, pl.getD k false = b := ⟨_, rfl⟩
   rw [OZ] at hic
   rw [OU] at hpc
   have hS1 := vg aO inl pl C k
   rw [HS.out] at hS1
   unfold wF at hS1
   rw [OZ, OU, show C.getD k [] = x by simp [List.getD, hx]] at hS1
   have NY := aiU hS1
   have i1 := (hb.cell (p := ⟨ib, io + k, none⟩) hib).trans hic
   have i2 := (hb.cell (p := ⟨pb, po + k, none⟩) hpb).trans hpc
   have i3 := (hb.cell (p := ⟨cb, co + k, none⟩) hcb).trans Yl
   have HX := aiU hx
   have HX4 := aiU hx4
   have HM := aiU hm
   have Es := hb.size
   have s1 : ib < wr.heap.size := by omega
   have s2 : pb < wr.heap.size := by omega
   have s3 : cb < wr.heap.size := by omega
   have XZ := hpc
   clear hic hpc Yl hS1 hx hx4 hm hb hg Es OZ OU
   subst hIA Tl Yy
   have N1 := aiU (show k + 1 ≤ G.length from hlt)
   have Ql := aiU (show G.length - (k + 1) < G.length - k by omega)
   cases inb with
   | false =>
    have HN := aiU (show gl aO inl pl C (k + 1) = ⟨sw, ss, sb, sf⟩ by rw [NY.out]; rfl)
    go_wp2_with fail
    go_roundw
    case rel => exact ⟨k + 1, N1.out, by go_num, by rw [HN.out], by rw [HN.out], by rw [HN.out], by rw [HN.out], HG.out, HB.out⟩
    case measure => simp [intOf]; omega
   | true =>
    have HN := aiU (show gl aO inl pl C (k + 1) = fh aO ux ⟨sw, ss, sb, sf⟩ x by rw [NY.out]; rfl)
    have HW := aiU (show ∀ j, j ≤ m → (fh aO ux ⟨sw, ss, sb, sf⟩ (x.take j)).wr ≤ 1000000000000000 ∧ (fh aO ux ⟨sw, ss, sb, sf⟩ (x.take j)).st ≤ 1000000000000000 from fun j hj => by
     have h1 := Cu aO inl pl C (k + 1) (by rw [Fb.out.lc]; exact N1.out)
     have h0 := Cu aO inl pl C k (by rw [Fb.out.lc]; omega)
     rw [HS.out] at h0
     have h2 := sO aO ux (x.take j) ⟨sw, ss, sb, sf⟩
     have h3 : (C.take k).flatten.length + x.length ≤ C.flatten.length := by
      have e : C.take (k + 1) = C.take k ++ [x] := by rw [List.take_add_one, HX.out]; rfl
      have e2 : C = C.take (k + 1) ++ C.drop (k + 1) := (List.take_append_drop _ _).symm
      rw [e] at e2
      have e3 := congrArg (fun l => l.flatten.length) e2
      simp only [List.flatten_append, List.length_append, List.flatten_cons, List.flatten_nil, List.append_nil] at e3
      omega
     have h4 := Qs.out
     have h5 : (x.take j).length ≤ x.length := by rw [List.length_take]; omega
     simp only at h0 h2
     omega)
    go_upto_region 11 with fail
    clear i1 i2 i3 s1 s2 s3
    go_loopw [12, 13, 14, 15, 49] (fun a12 a13 a14 a15 a49 wx => ∃ j : Nat, j ≤ m ∧ a49 = .int .i64 (j : Int) ∧ a12 = .int .i64 ((fh aO ux ⟨sw, ss, sb, sf⟩ (x.take j)).wr : Int) ∧ a13 = .int .i64 ((fh aO ux ⟨sw, ss, sb, sf⟩ (x.take j)).st : Int) ∧ a14 = .int .i64 (fh aO ux ⟨sw, ss, sb, sf⟩ (x.take j)).bd ∧ a15 = .bool (fh aO ux ⟨sw, ss, sb, sf⟩ (x.take j)).fd ∧ wx.heap[g]? = some (.cells #[.int .u8 15, .int .i64 aO, .int .i64 aO, .int .i64 0, .int .i64 1] 67 (0, 0)) ∧ Below w.heap.size w wx) (fun _ _ _ _ a49 _ => m - (intOf a49).toNat)
    case atStart => exact ⟨0, Nat.zero_le _, rfl, rfl, rfl, rfl, rfl, HG.out, HB.out⟩
    case round =>
     obtain ⟨j, hj, rfl, rfl, rfl, rfl, rfl, hgx, Lt⟩ := hrel
     have ZX := aiU hgx
     have lH := aiU Lt
     have hw := HW.out j hj
     obtain ⟨s2, hs2⟩ : ∃ s2, fh aO ux ⟨sw, ss, sb, sf⟩ (x.take j) = s2 := ⟨_, rfl⟩
     rw [hs2] at hw ⊢
     have FB := aiU hs2
     obtain ⟨tw, ts, tb, tf⟩ := s2
     simp only at hw ⊢
     obtain ⟨hw1, hw2⟩ := hw
     clear hs2 hgx Lt
     by_cases hjm : j < m
     ·have dj : decide ((j : Int) < (m : Int)) = true := decide_eq_true ahU
      have wV := aiU (show j + 1 ≤ m from hjm)
      obtain ⟨i, hi⟩ : ∃ i, x[j]? = some i := ⟨_, List.getElem?_eq_getElem (by rw [HM.out]; exact hjm)⟩
      obtain ⟨xb, xo, hXA, hxb, hxc⟩ := HX4.out ahU
      have hc := hxc j i hi
      obtain ⟨op, ia, ib2, ic, im⟩ := i
      have e0 := (lH.out.cell (p := ⟨xb, _, none⟩) hxb).trans (hc 0 _ rfl)
      have e1 := (lH.out.cell (p := ⟨xb, _, none⟩) hxb).trans (hc 1 _ rfl)
      have e2 := (lH.out.cell (p := ⟨xb, _, none⟩) hxb).trans (hc 2 _ rfl)
      have e3 := (lH.out.cell (p := ⟨xb, _, none⟩) hxb).trans (hc 3 _ rfl)
      have e4 := (lH.out.cell (p := ⟨xb, _, none⟩) hxb).trans (hc 4 _ rfl)
      rw [Nat.add_zero] at e0
      have hop : 0 ≤ op := HO.out x (List.mem_of_getElem? HX.out) _ (List.mem_of_getElem? hi)
      have BC := aiU (show fh aO ux ⟨sw, ss, sb, sf⟩ (x.take (j + 1)) = jq aO ux ⟨tw, ts, tb, tf⟩ ⟨op, ia, ib2, ic, im⟩ by rw [Bc aO ux _ hi, FB.out])
      have sxb : xb < wr.heap.size := by have := lH.out.size; omega
      subst hXA
      clear hc hxc hi
      go_upto_region 13 with fail
      obtain ⟨qb, Aq⟩ : ∃ q, wr.heap.size = q := ⟨_, rfl⟩
      obtain ⟨WB, VK⟩ : ∃ W, wr.alloc (.cells #[.int .u8 op, .int .i64 ia, .int .i64 ib2, .int .i64 ic, .int .i64 im] 67) = W := ⟨_, rfl⟩
      rw [VK, Aq]
      have YW : Below wr.heap.size wr WB := VK ▸ (Below.refl _ _).alloc (Nat.le_refl _) _
      have kB : WB.heap[qb]? = some (.cells #[.int .u8 op, .int .i64 ia, .int .i64 ib2, .int .i64 ic, .int .i64 im] 67 (0, 0)) := by rw [← Aq, ← VK]; exact heap_alloc_new _ _
      have sqb : qb < WB.heap.size := (Array.getElem?_eq_some_iff.1 kB).1
      have b0 : WB.cell? ⟨qb, 0, none⟩ = some (.int .u8 op) := by simp [World.cell?, kB]
      have b1 : WB.cell? ⟨qb, 1, none⟩ = some (.int .i64 ia) := by simp [World.cell?, kB]
      have b2 : WB.cell? ⟨qb, 2, none⟩ = some (.int .i64 ib2) := by simp [World.cell?, kB]
      have b3 : WB.cell? ⟨qb, 3, none⟩ = some (.int .i64 ic) := by simp [World.cell?, kB]
      have b4 : WB.cell? ⟨qb, 4, none⟩ = some (.int .i64 im) := by simp [World.cell?, kB]
      have sg0 : g < wr.heap.size := (Array.getElem?_eq_some_iff.1 ZX.out).1
      have kG : WB.heap[g]? = some (.cells #[.int .u8 15, .int .i64 aO, .int .i64 aO, .int .i64 0, .int .i64 1] 67 (0, 0)) := (YW.block g sg0).trans ZX.out
      have sg : g < WB.heap.size := (Array.getElem?_eq_some_iff.1 kG).1
      have d0 : WB.cell? ⟨g, 0, none⟩ = some (.int .u8 15) := by simp [World.cell?, kG]
      have d1' : WB.cell? ⟨g, 1, none⟩ = some (.int .i64 aO) := by simp [World.cell?, kG]
      have d2' : WB.cell? ⟨g, 2, none⟩ = some (.int .i64 aO) := by simp [World.cell?, kG]
      have d3 : WB.cell? ⟨g, 3, none⟩ = some (.int .i64 0) := by simp [World.cell?, kG]
      have d4 : WB.cell? ⟨g, 4, none⟩ = some (.int .i64 1) := by simp [World.cell?, kG]
      have bB : Below w.heap.size w WB := lH.out.trans (YW.mono lH.out.size)
      have pc : WB.cell? ⟨pb, po + k, none⟩ = some (.bool ux) := (bB.cell (p := ⟨pb, po + k, none⟩) hpb).trans XZ
      have RM : pb < WB.heap.size := by have := bB.size; omega
      have wU := aiU kG
      have jT := aiU bB
      obtain ⟨bw, kL⟩ : ∃ b, JU ⟨op, ia, ib2, ic, im⟩ = b := ⟨_, rfl⟩
      have XO := zI ⟨op, ia, ib2, ic, im⟩ hop WB (TH.out.below bB)
      rw [kL] at XO
      have wQ := aiU XO
      clear e0 e1 e2 e3 e4 sxb YW kB kG bB VK Aq sg0 XO hop
      obtain ⟨qa, En⟩ : ∃ b : Bool, (ia == aO) = b := ⟨_, rfl⟩
      obtain ⟨q5, hq5⟩ : ∃ b : Bool, (op == 25) = b := ⟨_, rfl⟩
      obtain ⟨ql, QK⟩ : ∃ b : Bool, decide (im < tb) = b := ⟨_, rfl⟩
      obtain ⟨qs, XT⟩ : ∃ b : Bool, decide ((⟨op, ia, ib2, ic, im⟩ : Ins) = ⟨15, aO, aO, 0, 1⟩) = b := ⟨_, rfl⟩
      have HEQ : ∀ W, (binOp .eql 67 (.agg #[.int .u8 op, .int .i64 ia, .int .i64 ib2, .int .i64 ic, .int .i64 im]) (.agg #[.int .u8 15, .int .i64 aO, .int .i64 aO, .int .i64 0, .int .i64 1])).run Tryz.prog W = .ok (.bool qs) W := fun W => by rw [← XT]; exact Tw _ _ _ _ _ _ _ _ _ _ _
      have eM := aiU (show fh aO ux ⟨sw, ss, sb, sf⟩ (x.take (j + 1)) = ⟨tw + (bw && qa).toNat, ts + ((bw && qa) && (qs && ux)).toNat, if ((q5 && qa && ux) && (!tf || ql)) = true then im else tb, tf || ((q5 && qa && ux) && (!tf || ql))⟩ by
       rw [BC.out, ← kL, ← XT, ← QK, show qa = decide (ia = aO) by rw [← En]; exact CG _ _, show q5 = decide (op = 25) by rw [← hq5]; exact CG _ _]
       rfl)
      clear kL XT BC
      rcases bw with _ | _
      ·skip
       rcases q5 with _ | _
       ·skip
        go_wp2_with (go_at_call 77; refine (Calls.ext wQ.out).mono ?_; rintro e w' ⟨rfl, y, rfl⟩)
        go_roundw
        case rel => exact ⟨j + 1, wV.out, by go_num, by rw [eM.out]; first | rfl | go_num, by rw [eM.out]; first | rfl | go_num, by rw [eM.out]; rfl, by rw [eM.out]; first | rfl | simp, (y.h.block g sg).trans wU.out, Ext.below jT.out jT.out.size y⟩
        case measure => simp [intOf]; omega
       ·skip
        rcases qa with _ | _
        ·skip
         go_wp2_with (go_at_call 77; refine (Calls.ext wQ.out).mono ?_; rintro e w' ⟨rfl, y, rfl⟩)
         go_roundw
         case rel => exact ⟨j + 1, wV.out, by go_num, by rw [eM.out]; first | rfl | go_num, by rw [eM.out]; first | rfl | go_num, by rw [eM.out]; rfl, by rw [eM.out]; first | rfl | simp, (y.h.block g sg).trans wU.out, Ext.below jT.out jT.out.size y⟩
         case measure => simp [intOf]; omega
        ·skip
         rcases ux with _ | _
         ·skip
          go_wp2_with (go_at_call 77; refine (Calls.ext wQ.out).mono ?_; rintro e w' ⟨rfl, y, rfl⟩)
          go_roundw
          case rel => exact ⟨j + 1, wV.out, by go_num, by rw [eM.out]; first | rfl | go_num, by rw [eM.out]; first | rfl | go_num, by rw [eM.out]; rfl, by rw [eM.out]; first | rfl | simp, (y.h.block g sg).trans wU.out, Ext.below jT.out jT.out.size y⟩
          case measure => simp [intOf]; omega
         ·skip
          rcases tf with _ | _
          ·skip
           go_wp2_with (go_at_call 77; refine (Calls.ext wQ.out).mono ?_; rintro e w' ⟨rfl, y, rfl⟩)
           go_roundw
           case rel => exact ⟨j + 1, wV.out, by go_num, by rw [eM.out]; first | rfl | go_num, by rw [eM.out]; first | rfl | go_num, by rw [eM.out]; rfl, by rw [eM.out]; first | rfl | simp, (y.h.block g sg).trans wU.out, Ext.below jT.out jT.out.size y⟩
           case measure => simp [intOf]; omega
          ·skip
           rcases ql with _ | _
           ·skip
            go_wp2_with (go_at_call 77; refine (Calls.ext wQ.out).mono ?_; rintro e w' ⟨rfl, y, rfl⟩)
            go_roundw
            case rel => exact ⟨j + 1, wV.out, by go_num, by rw [eM.out]; first | rfl | go_num, by rw [eM.out]; first | rfl | go_num, by rw [eM.out]; rfl, by rw [eM.out]; first | rfl | simp, (y.h.block g sg).trans wU.out, Ext.below jT.out jT.out.size y⟩
            case measure => simp [intOf]; omega
           ·skip
            go_wp2_with (go_at_call 77; refine (Calls.ext wQ.out).mono ?_; rintro e w' ⟨rfl, y, rfl⟩)
            go_roundw
            case rel => exact ⟨j + 1, wV.out, by go_num, by rw [eM.out]; first | rfl | go_num, by rw [eM.out]; first | rfl | go_num, by rw [eM.out]; rfl, by rw [eM.out]; first | rfl | simp, (y.h.block g sg).trans wU.out, Ext.below jT.out jT.out.size y⟩
            case measure => simp [intOf]; omega
      ·skip
       rcases qa with _ | _
       ·skip
        rcases q5 with _ | _
        ·skip
         go_wp2_with (go_at_call 77; refine (Calls.ext wQ.out).mono ?_; rintro e w' ⟨rfl, y, rfl⟩)
         go_roundw
         case rel => exact ⟨j + 1, wV.out, by go_num, by rw [eM.out]; first | rfl | go_num, by rw [eM.out]; first | rfl | go_num, by rw [eM.out]; rfl, by rw [eM.out]; first | rfl | simp, (y.h.block g sg).trans wU.out, Ext.below jT.out jT.out.size y⟩
         case measure => simp [intOf]; omega
        ·skip
         go_wp2_with (go_at_call 77; refine (Calls.ext wQ.out).mono ?_; rintro e w' ⟨rfl, y, rfl⟩)
         go_roundw
         case rel => exact ⟨j + 1, wV.out, by go_num, by rw [eM.out]; first | rfl | go_num, by rw [eM.out]; first | rfl | go_num, by rw [eM.out]; rfl, by rw [eM.out]; first | rfl | simp, (y.h.block g sg).trans wU.out, Ext.below jT.out jT.out.size y⟩
         case measure => simp [intOf]; omega
       ·skip
        rcases qs with _ | _
        ·skip
         rcases q5 with _ | _
         ·skip
          go_wp2_with (go_at_call 77; refine (Calls.ext wQ.out).mono ?_; rintro e w' ⟨rfl, y, rfl⟩)
          go_roundw
          case rel => exact ⟨j + 1, wV.out, by go_num, by rw [eM.out]; first | rfl | go_num, by rw [eM.out]; first | rfl | go_num, by rw [eM.out]; rfl, by rw [eM.out]; first | rfl | simp, (y.h.block g sg).trans wU.out, Ext.below jT.out jT.out.size y⟩
          case measure => simp [intOf]; omega
         ·skip
          rcases ux with _ | _
          ·skip
           go_wp2_with (go_at_call 77; refine (Calls.ext wQ.out).mono ?_; rintro e w' ⟨rfl, y, rfl⟩)
           go_roundw
           case rel => exact ⟨j + 1, wV.out, by go_num, by rw [eM.out]; first | rfl | go_num, by rw [eM.out]; first | rfl | go_num, by rw [eM.out]; rfl, by rw [eM.out]; first | rfl | simp, (y.h.block g sg).trans wU.out, Ext.below jT.out jT.out.size y⟩
           case measure => simp [intOf]; omega
          ·skip
           rcases tf with _ | _
           ·skip
            go_wp2_with (go_at_call 77; refine (Calls.ext wQ.out).mono ?_; rintro e w' ⟨rfl, y, rfl⟩)
            go_roundw
            case rel => exact ⟨j + 1, wV.out, by go_num, by rw [eM.out]; first | rfl | go_num, by rw [eM.out]; first | rfl | go_num, by rw [eM.out]; rfl, by rw [eM.out]; first | rfl | simp, (y.h.block g sg).trans wU.out, Ext.below jT.out jT.out.size y⟩
            case measure => simp [intOf]; omega
           ·skip
            rcases ql with _ | _
            ·skip
             go_wp2_with (go_at_call 77; refine (Calls.ext wQ.out).mono ?_; rintro e w' ⟨rfl, y, rfl⟩)
             go_roundw
             case rel => exact ⟨j + 1, wV.out, by go_num, by rw [eM.out]; first | rfl | go_num, by rw [eM.out]; first | rfl | go_num, by rw [eM.out]; rfl, by rw [eM.out]; first | rfl | simp, (y.h.block g sg).trans wU.out, Ext.below jT.out jT.out.size y⟩
             case measure => simp [intOf]; omega
            ·skip
             go_wp2_with (go_at_call 77; refine (Calls.ext wQ.out).mono ?_; rintro e w' ⟨rfl, y, rfl⟩)
             go_roundw
             case rel => exact ⟨j + 1, wV.out, by go_num, by rw [eM.out]; first | rfl | go_num, by rw [eM.out]; first | rfl | go_num, by rw [eM.out]; rfl, by rw [eM.out]; first | rfl | simp, (y.h.block g sg).trans wU.out, Ext.below jT.out jT.out.size y⟩
             case measure => simp [intOf]; omega
        ·skip
         rcases ux with _ | _
         ·skip
          rcases q5 with _ | _
          ·skip
           go_wp2_with (go_at_call 77; refine (Calls.ext wQ.out).mono ?_; rintro e w' ⟨rfl, y, rfl⟩)
           go_roundw
           case rel => exact ⟨j + 1, wV.out, by go_num, by rw [eM.out]; first | rfl | go_num, by rw [eM.out]; first | rfl | go_num, by rw [eM.out]; rfl, by rw [eM.out]; first | rfl | simp, (y.h.block g sg).trans wU.out, Ext.below jT.out jT.out.size y⟩
           case measure => simp [intOf]; omega
          ·skip
           go_wp2_with (go_at_call 77; refine (Calls.ext wQ.out).mono ?_; rintro e w' ⟨rfl, y, rfl⟩)
           go_roundw
           case rel => exact ⟨j + 1, wV.out, by go_num, by rw [eM.out]; first | rfl | go_num, by rw [eM.out]; first | rfl | go_num, by rw [eM.out]; rfl, by rw [eM.out]; first | rfl | simp, (y.h.block g sg).trans wU.out, Ext.below jT.out jT.out.size y⟩
           case measure => simp [intOf]; omega
         ·skip
          rcases q5 with _ | _
          ·skip
           go_wp2_with (go_at_call 77; refine (Calls.ext wQ.out).mono ?_; rintro e w' ⟨rfl, y, rfl⟩)
           go_roundw
           case rel => exact ⟨j + 1, wV.out, by go_num, by rw [eM.out]; first | rfl | go_num, by rw [eM.out]; first | rfl | go_num, by rw [eM.out]; rfl, by rw [eM.out]; first | rfl | simp, (y.h.block g sg).trans wU.out, Ext.below jT.out jT.out.size y⟩
           case measure => simp [intOf]; omega
          ·skip
           rcases tf with _ | _
           ·skip
            go_wp2_with (go_at_call 77; refine (Calls.ext wQ.out).mono ?_; rintro e w' ⟨rfl, y, rfl⟩)
            go_roundw
            case rel => exact ⟨j + 1, wV.out, by go_num, by rw [eM.out]; first | rfl | go_num, by rw [eM.out]; first | rfl | go_num, by rw [eM.out]; rfl, by rw [eM.out]; first | rfl | simp, (y.h.block g sg).trans wU.out, Ext.below jT.out jT.out.size y⟩
            case measure => simp [intOf]; omega
           ·skip
            rcases ql with _ | _
            ·skip
             go_wp2_with (go_at_call 77; refine (Calls.ext wQ.out).mono ?_; rintro e w' ⟨rfl, y, rfl⟩)
             go_roundw
             case rel => exact ⟨j + 1, wV.out, by go_num, by rw [eM.out]; first | rfl | go_num, by rw [eM.out]; first | rfl | go_num, by rw [eM.out]; rfl, by rw [eM.out]; first | rfl | simp, (y.h.block g sg).trans wU.out, Ext.below jT.out jT.out.size y⟩
             case measure => simp [intOf]; omega
            ·skip
             go_wp2_with (go_at_call 77; refine (Calls.ext wQ.out).mono ?_; rintro e w' ⟨rfl, y, rfl⟩)
             go_roundw
             case rel => exact ⟨j + 1, wV.out, by go_num, by rw [eM.out]; first | rfl | go_num, by rw [eM.out]; first | rfl | go_num, by rw [eM.out]; rfl, by rw [eM.out]; first | rfl | simp, (y.h.block g sg).trans wU.out, Ext.below jT.out jT.out.size y⟩
             case measure => simp [intOf]; omega
     ·obtain rfl : m = j := by omega
      have dj : decide ((m : Int) < (m : Int)) = false := by simp
      have BC := aiU (show gl aO inl pl C (k + 1) = ⟨tw, ts, tb, tf⟩ by rw [HN.out, ← FB.out, List.take_of_length_le (by rw [HM.out]; exact Nat.le_refl _)])
      go_wp2_with fail
      go_roundw
      case rel => exact ⟨k + 1, N1.out, by go_num, by rw [BC.out], by rw [BC.out], by rw [BC.out], by rw [BC.out], ZX.out, lH.out⟩
      case measure => simp [intOf]; omega
  ·obtain rfl : k = G.length := by omega
   have dl : decide ((G.length : Int) < (G.length : Int)) = false := by simp
   have HF := aiU (show (r1, r2) = if sw ≠ 1 ∨ ss ≠ 1 ∨ sf = false then (0, false) else (sb, true) by rw [← HR.out, HS.out]; unfold sN; rw [if_neg NZ.out])
   clear hg hb
   rcases sf with _ | _
   ·have HN := aiU (show (r1, r2) = (0, false) by rw [HF.out, if_pos (.inr (.inr rfl))])
    go_wp2_with fail
    all_goals
     go_ret2
     refine ⟨?_, HB.out⟩
     have h := HN.out
     injection h with h2 h3
     rw [h2, h3]
     rfl
   ·by_cases e1 : sw = 1
    ·by_cases e2 : ss = 1
     ·have HN := aiU (show (r1, r2) = (sb, true) by rw [HF.out, if_neg (by simp [e1, e2])])
      subst e1 e2
      go_wp2_with fail
      go_ret2
      refine ⟨?_, HB.out⟩
      have h := HN.out
      injection h with h2 h3
      rw [h2, h3]
      rfl
     ·have HN := aiU (show (r1, r2) = (0, false) by rw [HF.out, if_pos (.inr (.inl e2))])
      have HE := aiU e2
      clear e2
      subst e1
      go_wp2_with fail
      ·exact absurd ahU HE.out
      ·go_ret2
       refine ⟨?_, HB.out⟩
       have h := HN.out
       injection h with h2 h3
       rw [h2, h3]
       rfl
    ·have HN := aiU (show (r1, r2) = (0, false) by rw [HF.out, if_pos (.inl e1)])
     have HE := aiU e1
     clear e1
     go_wp2_with fail
     ·exact absurd ahU HE.out
     ·exact absurd ahU HE.out
     ·go_ret2
      refine ⟨?_, HB.out⟩
      have h := HN.out
      injection h with h2 h3
      rw [h2, h3]
      rfl
end
section
open Go.RowKit
def kT (l : List Ins) : List Value := l.flatMap Fk
theorem Ej (l : List Ins) (y : Ins) : kT (l ++ [y]) = kT l ++ Fk y := by simp [kT]
theorem vQ : ∀ (Q : List Ins) (k j : Nat) (q : Ins), Q[k]? = some q → j < 5 → (kT Q)[k * 5 + j]? = (Fk q)[j]?
 | y :: Q, 0, j, q, h, hj => by
  simp at h; subst h
  have e : kT (y :: Q) = Fk y ++ kT Q := by simp [kT]
  rw [e, Nat.zero_mul, Nat.zero_add, List.getElem?_append_left (by simpa [Fk] using hj)]
 | y :: Q, k + 1, j, q, h, hj => by
  have h' : Q[k]? = some q := by simpa using h
  have e : kT (y :: Q) = Fk y ++ kT Q := by simp [kT]
  rw [e, List.getElem?_append_right (by simp [Fk]; omega), show (k + 1) * 5 + j - (Fk y).length = k * 5 + j by simp [Fk]; omega]
  exact vQ Q k j q h' hj
theorem KH {w : World} {B : Nat} {v : Value} {l : List Ins} (h : w.ownsRow B 67 5 v l.length (kT l)) : Rw w v l := by
 rcases h.2 with ⟨rfl, h0⟩ | ⟨g, cap, cur, rfl, _, hg, h1, h2, _, _⟩
 ·exact ⟨none, 0, by rw [h0], by omega, by unfold maxLen; omega, fun h => by omega⟩
 ·refine ⟨_, cap, rfl, h1, h2, fun _ => ⟨g, 0, rfl, (Array.getElem?_eq_some_iff.1 hg).1, fun k c hk j u hu => ?_⟩⟩
  have hkl := (List.getElem?_eq_some_iff.1 hk).1
  have hj : j < 5 := by
   have := (List.getElem?_eq_some_iff.1 hu).1
   simpa [Fk] using this
  rw [Nat.zero_add, h.cellAt _ ahU, vQ l k j c hk hj, hu]
structure w6 (B : Nat) (wr : World) (pg n : Nat) (val : Nat → Value) (dM : Nat → List Ins) : Prop where
 cH : wr.ownsRow B 144 1 (.slice (some ⟨pg, 0, none⟩) n n) n ((List.range n).map fun i => val i)
 own : ∀ i, i < n → wr.ownsRow B 67 5 (val i) (dM i).length (kT (dM i))
 qi : ∀ i j, i < n → j < n → i ≠ j → ∀ q, (val i).ownBlock = some q → (val j).ownBlock ≠ some q
section
variable {B : Nat} {wr : World} {pg n : Nat} {val : Nat → Value} {dM : Nat → List Ins}
theorem w6.below {wr' : World} (h : w6 B wr pg n val dM) (hb : Below wr.heap.size wr wr') : w6 B wr' pg n val dM :=
 ⟨ak h.cH hb, fun i hi => ak (h.own i hi) hb, h.qi⟩
theorem w6.rg (h : w6 B wr pg n val dM) : B ≤ pg ∧ pg < wr.heap.size := h.cH.lt pg rfl
theorem w6.cells (h : w6 B wr pg n val dM) {i : Nat} (hi : i < n) : wr.cell? ⟨pg, i, none⟩ = some (val i) ∧ wr.frozen? ⟨pg, i, none⟩ = false :=
 ⟨by rw [h.cH.cellAt _ ahU, List.getElem?_map, List.getElem?_range hi]; rfl, h.cH.frozenAt _⟩
theorem w6.made {W' : World} (hr : W'.ownsRow B 144 1 (.slice (some ⟨pg, 0, none⟩) n n) n (List.replicate n (.slice none 0 0))) : w6 B W' pg n (fun _ => .slice none 0 0) (fun _ => []) := by
 refine ⟨?_, fun i hi => World.ownsRow_nil _ _ _ _, fun i j hi hj _ q hq => by cases hq⟩
 have e : ((List.range n).map fun _ => Value.slice none 0 0) = List.replicate n (Value.slice none 0 0) := by
  apply List.ext_getElem?
  intro q
  by_cases hq : q < n
  ·simp [hq]
  ·simp [hq]
 rw [e]
 exact hr
theorem w6.kept {w2 : World} {row : Option Nat} (h : w6 B wr pg n val dM) (hg : wr.grownBy w2 row) (hp : row ≠ some pg) (hv : ∀ i, i < n → ∀ q, (val i).ownBlock = some q → row ≠ some q) : w6 B w2 pg n val dM :=
 ⟨h.cH.kept hg (.inr fun e => hp e.symm), fun i hi => (h.own i hi).kept hg (by
  cases e : (val i).ownBlock with
  | none => exact .inl rfl
  | some q => exact .inr fun e' => hv i hi q e e'.symm), h.qi⟩
theorem w6.app {w2 W' : World} {i : Nat} {y : Ins} {v' : Value} (h : w6 B wr pg n val dM) (hi : i < n) (hb : Below wr.heap.size wr w2) (hg : w2.grownBy W' (val i).ownBlock)
  (hown : W'.ownsRow B 67 5 v' ((dM i).length + 1) (kT (dM i ++ [y]))) (j6 : v'.ownBlock = (val i).ownBlock ∨ v'.ownBlock = some w2.heap.size) :
  w6 B (W'.setCell ⟨pg, i, none⟩ v') pg n (upd val i v') (upd dM i (dM i ++ [y])) := by
 have G := grown_of hb hg
 have S := aQ W' pg i v'
 obtain ⟨p1, p2⟩ := h.rg
 have wY := G.size
 have oi := h.own i hi
 have ob : ∀ q, (val i).ownBlock = some q → B ≤ q ∧ q ≠ pg := fun q hq => ⟨(oi.lt q hq).1, fun e => cV oi h.cH ahW q hq ain⟩
 have p' : W'.ownsRow B 144 1 (.slice (some ⟨pg, 0, none⟩) n n) n ((List.range n).map fun i => val i) := h.cH.kept G (.inr (fun e' => (ob pg e'.symm).2 rfl))
 have tR : ∀ q, v'.ownBlock = some q → q ≠ pg := fun q hq e => cV hown p' ahW q hq ain
 refine ⟨?_, fun j hj => ?_, fun a c ha hc hac q hq => ?_⟩
 ·rw [← nt n val hi v']
  exact (p'.stored i v').1
 ·unfold upd
  by_cases e : j = i
  ·subst e
   rw [if_pos rfl, if_pos rfl]
   rw [show (dM j ++ [y]).length = (dM j).length + 1 by simp]
   exact hown.kept S (by
    cases hv : v'.ownBlock with
    | none => exact .inl rfl
    | some q => exact .inr (fun e' => tR q hv aiP))
  ·rw [if_neg e, if_neg e]
   refine ((h.own j hj).kept G ?_).kept S ?_
   ·cases hv : (val j).ownBlock with
    | none => exact .inl rfl
    | some q => exact .inr (fun e' => h.qi i j hi hj (fun e2 => e e2.symm) q e'.symm hv)
   ·cases hv : (val j).ownBlock with
    | none => exact .inl rfl
    | some q =>
     refine .inr (fun e' => ?_)
     have M4 : q = pg := by simpa using e'
     exact cV (h.own j hj) h.cH ahW q hv (by rw [M4]; rfl)
 ·have new : ∀ a, a < n → a ≠ i → ∀ q, v'.ownBlock = some q → (val a).ownBlock ≠ some q := fun a ha hai q hq hq2 => by
   rcases j6 with h1 | h1
   ·rw [h1] at hq
    exact h.qi i a hi ha (fun e => hai e.symm) q hq hq2
   ·rw [h1] at hq
    cases hq
    have := ((h.own a ha).lt _ hq2).2
    have := hb.size
    omega
  unfold upd at hq ⊢
  by_cases e1 : a = i
  ·rw [if_pos e1] at hq
   rw [if_neg (fun e => hac (e1.trans e.symm))]
   exact new c hc (fun e => hac (e1.trans e.symm)) q hq
  ·rw [if_neg e1] at hq
   by_cases e2 : c = i
   ·rw [if_pos e2]
    exact fun hq2 => new a ha e1 q hq2 hq
   ·rw [if_neg e2]
    exact h.qi a c ha hc hac q hq
theorem w6.YO (h : w6 B wr pg n val dM) : JR wr (.slice (some ⟨pg, 0, none⟩) n n) ((List.range n).map dM) := by
 have pc : n ≤ maxLen := by
  rcases h.cH.2 with ⟨e, _⟩ | ⟨_, _, _, e, _, _, h1, h2, _⟩
  ·cases e
  ·cases e; exact h2
 refine ⟨_, n, by simp, by simp, pc, fun _ => ⟨pg, 0, rfl, h.rg.2, fun i x hx => ?_⟩⟩
 rw [List.getElem?_map] at hx
 have hi : i < n := by
  by_cases hi : i < n
  ·exact hi
  ·rw [List.getElem?_eq_none aiJ] at hx; cases hx
 rw [List.getElem?_range hi] at hx
 simp only [Option.map_some, Option.some.injEq] at hx
 subst hx
 exact ⟨val i, by rw [Nat.zero_add]; exact (h.cells hi).1, KH (h.own i hi)⟩
end
end
end Go.Proofs.YtlmgkipmfgijiaaGreatDoor
