/-
  What is proved here: parts bT.
-/
import Derived.Test.YtebklpnkcicpjaaGreatDoorXa
import Derived.Test.YtebklpnkcicpjaaGreatDoorRows
import Derived.WalkKit
import Derived.WalkSpells
import Derived.WalkLawsBesides
import Derived.Deep.QuietTactic
import Derived.BigQuiet
import Derived.Lib.Hide
import Derived.StillTail
import Derived.Deep.RegionHeld3
import Derived.Deep.RegionLaw
import Derived.Maps.AppendAt
import Derived.WideKeyEntry
import Derived.Maps.RangeRun
import Derived.Maps.Keyed
import Derived.Carry
import Derived.ProofKit
import Derived.OpenShut
import Derived.Below
import Derived.Lib.SmallJoins
import Derived.Deep.Slices
import Derived.Deep.MidRow
namespace Go.Proofs.YtebklpnkcicpjaaGreatDoor
set_option linter.unusedVariables false
set_option linter.unusedSimpArgs false
set_option maxRecDepth 100000
set_option maxHeartbeats 8000000
section
open Go.RowKit
open Go.RowKit
open Go.RowKit
open Go.RowKit
open Go.RowKit
open Go.RowKit Go.MapKept Go.ChangeMaps
open Go.ChangeShapes Go.WideShapes Go.ChangeAt Go.RowKit
open Go.RowKit
open Go.RowKit
open Go.RowKit
structure Ext (w0 : World) where
 w : World
 h : Below w0.heap.size w0 w
instance (w0 : World) : Nonempty (Ext w0) := ⟨⟨w0, Below.refl _ _⟩⟩
theorem Ext.cell {w0 : World} (x : Ext w0) (b o : Nat) (hb : b < w0.heap.size) : x.w.cell? ⟨b, o, none⟩ = w0.cell? ⟨b, o, none⟩ := x.h.cell (p := ⟨b, o, none⟩) hb
theorem Ext.frozen {w0 : World} (x : Ext w0) (b o : Nat) (hb : b < w0.heap.size) : x.w.frozen? ⟨b, o, none⟩ = w0.frozen? ⟨b, o, none⟩ := x.h.frozen (p := ⟨b, o, none⟩) hb
theorem Ext.lt {w0 : World} (x : Ext w0) (b : Nat) (hb : b < w0.heap.size) : (b < x.w.heap.size) = True := by have := x.h.size; simp; omega
theorem Ext.le {w0 : World} (x : Ext w0) (b : Nat) (hb : b ≤ w0.heap.size) : (b ≤ x.w.heap.size) = True := by have := x.h.size; simp; omega
attribute [go_sem] Ext.cell Ext.frozen Ext.lt Ext.le
attribute [simp] Ext.lt Ext.le
theorem Ext.below {w0 w : World} {B : Nat} (h : Below B w0 w) (hB : B ≤ w.heap.size) (x : Ext w) : Below B w0 x.w := h.trans (x.h.mono hB)
theorem Calls.ext {P : Program} {f : FuncId} {args : Array Value} {w : World} {v : Value} (h : Calls P f args w fun e w' => e = .returned v ∧ Below w.heap.size w w') :
  Calls P f args w fun e w' => e = .returned v ∧ ∃ y : Ext w, y.w = w' :=
 h.mono fun _ w' ⟨he, hb⟩ => ⟨he, ⟨w', hb⟩, rfl⟩
theorem Calls.ay {P : Program} {f : FuncId} {args : Array Value} {w0 : World} {x : Ext w0} {v : Value} (h : Calls P f args x.w fun e w' => e = .returned v ∧ Below x.w.heap.size x.w w') :
  Calls P f args x.w fun e w'' => e = .returned v ∧ ∃ y : Ext w0, w'' = y.w :=
 h.mono fun _ w' ⟨he, hb⟩ => ⟨he, ⟨w', x.h.trans (hb.mono x.h.size)⟩, rfl⟩
theorem Calls.cV {P : Program} {f : FuncId} {args : Array Value} {w0 : World} {x : Ext w0} {v : Value} (h : Calls P f args x.w fun e w' => e = .returned v ∧ x.w = w') :
  Calls P f args x.w fun e w'' => e = .returned v ∧ ∃ y : Ext w0, w'' = y.w :=
 h.mono fun _ _ ⟨he, hb⟩ => ⟨he, x, hb.symm⟩
theorem az {P : Program} {id : Nat} {Q : Exit → Act → World → Prop} {a : Act} {w : World} {l : List Oper} (hm : P.follows .mixedOrders = true) (hB : Region.lexB .any l.toArray = true)
  (h : wpQuiet P l.toArray (fun w' => ∃ x : Ext w, w' = x.w) (fun a' => ∀ w', (∃ x : Ext w, w' = x.w) → Q .normal a' w') l a) : (Code.region id l.toArray true).wp P Q a w :=
 wp_region_quiet (C := fun w' => ∃ x : Ext w, w' = x.w) hm hB ⟨⟨{ w with drawn := w.drawn + 1 }, ⟨rfl, rfl, rfl, Nat.le_refl _, fun _ _ => rfl⟩⟩, rfl⟩ abS
theorem eu {k : IntKind} {a b : Int} (h : a = b) : Ending.returned (.int k a) = .returned (.int k b) := by rw [h]
theorem bC {a b : Bool} (h : a = b) : Ending.returned (.bool a) = .returned (.bool b) := by rw [h]
section
variable {P : Program} {ops : Array Oper} {md : Region.Mode} {C : World → Prop}
def ld (P : Program) (md : Region.Mode) (ops : Array Oper) (C : World → Prop) (n : Nat) (L : Array Bool → Act → Prop) : Nat → Array Bool → Act → Prop
 | 0, listed, a => L listed a
 | f + 1, listed, a =>
  Region.ready md ops listed ≠ [] ∧ ∀ i ∈ Region.ready md ops listed, i < n ∧ qOp P ops C i (ld P md ops C n L f (listed.setIfInBounds i true)) a
theorem fO {n g : Nat} {L : Array Bool → Act → Prop} {Q' : Exit → Act → World → Prop} (hL : ∀ listed a w, C w → L listed a → wpAny P md ops Q' g listed a w) :
  ∀ (f : Nat) (listed : Array Bool) (a : Act) (w : World), C w → ld P md ops C n L f listed a → wpAny P md ops Q' (f + g) listed a w
 | 0, _, _, _, hw, h => by rw [Nat.zero_add]; exact hL _ _ _ hw h
 | f + 1, _, _, _, hw, h => by
  rw [show f + 1 + g = (f + g) + 1 by omega]
  exact ⟨fun h0 => absurd h0 h.1, fun i hi => wpOp_of_qOp hw (fun a' w' hw' h' => fO hL f _ a' w' hw' h') (h.2 i hi).2⟩
theorem xQ {n i : Nat} {oi : Oper} {v : Value} {L : Array Bool → Act → Prop} (hi : ops[i]? = some oi) (hsel : ∀ (j : Nat) (o : Oper) cs b, ops[j]? = some o → o.op ≠ .select cs b)
  (hs : Region.sinkB md ops n = true) (hc : Region.chainB md ops n = true) (hn : n < ops.size) (hin : i < n)
  (hdone : ∀ listed a, L listed a → ∀ j ∈ Region.ready md ops listed, n ≤ j) :
  ∀ (f : Nat) (listed : Array Bool) (a : Act), HeadInv md ops n listed →
   (∀ j oj, ops[j]? = some oj → j ≠ i → listed.getD j true = false → (∀ e ∈ oj.after, Region.binds md e = true → e.on ≠ i) → oi.apart ops oj = true) →
   i ∈ Region.ready md ops listed → YieldsIn P ops C oi v a →
   ld P md ops C n L f (listed.setIfInBounds i true) (a.put oi.dst v) → ld P md ops C n L (f + 1) listed a := by
 intro f
 induction f with
 | zero =>
  intro listed a inv _ hr hy H
  have hun := (mem_ready.1 hr).1
  refine ⟨fun h => ab2, fun j hj => ?_⟩
  have hjn : j < n := by
   rcases Nat.lt_or_ge j n with h | h
   ·exact h
   ·exact absurd hj (tail_waits hs hc hn inv _ i rfl hin hun j h)
  refine ⟨hjn, ?_⟩
  by_cases hji : j = i
  ·subst hji; exact hy.qOp hi H
  ·have := hdone _ _ H j (ready_mono hj hji)
   omega
 | succ f ih =>
  intro listed a inv hfree hr hy H
  have hun := (mem_ready.1 hr).1
  refine ⟨fun h => ab2, fun j hj => ?_⟩
  have hjn : j < n := by
   rcases Nat.lt_or_ge j n with h | h
   ·exact h
   ·exact absurd hj (tail_waits hs hc hn inv _ i rfl hin hun j h)
  refine ⟨hjn, ?_⟩
  by_cases hji : j = i
  ·subst hji; exact hy.qOp hi H
  ·have h1 := (H.2 j (ready_mono hj hji)).2
   obtain ⟨xO, oj, xN, hall⟩ := mem_ready.1 hj
   have hnot : ∀ e ∈ oj.after, Region.binds md e = true → e.on ≠ i := fun e he hb heq => by
    have h1 := hall e he hb
    rw [heq, getD_both hun] at h1
    cases h1
   have h2 := qOp_put xN (hfree j oj xN hji xO hnot) (fun cs b => hsel i oi cs b hi) (fun cs b => hsel j oj cs b xN) hy h1
   have rZ : ∀ k ok, ops[k]? = some ok → k ≠ i → (listed.setIfInBounds j true).getD k true = false →
     (∀ e ∈ ok.after, Region.binds md e = true → e.on ≠ i) → oi.apart ops ok = true := fun k ok hk hki hun hno => by
    refine hfree k ok hk hki ?_ hno
    by_cases hjk : j = k
    ·subst hjk; exact xO
    ·rw [getD_set_ne true hjk] at hun; exact hun
   refine qOp_mono (fun a' h3 => ih (listed.setIfInBounds j true) a' (inv.set hj hjn) rZ (ready_mono hr (Ne.symm hji)) h3.1 ?_) h2
   rw [Array.setIfInBounds_comm _ _ hji]
   exact h3.2
theorem uK {n g : Nat} {Lq : Act → Prop} (hsel : Region.noSelect ops = true) (hs : Region.sinkB md ops n = true) (hc : Region.chainB md ops n = true) (hn : n < ops.size) :
  ∀ (l : List Oper) (k : Nat) (listed : Array Bool) (a : Act), (∀ j, j < l.length → l[j]? = ops[k + j]?) → k + l.length = n → HeadInv md ops n listed →
  Region.lexHead md ops g l.length k listed = true → wpQuiet P ops C Lq l a →
  ld P md ops C n (fun listed' a' => Region.seqB md ops g n listed' = true ∧ Lq a') l.length listed a
 | [], k, listed, a, _, hk, _, hB, h => by
  have : k = n := by simpa using hk
  subst this
  exact ⟨by simpa [Region.lexHead] using hB, h⟩
 | o :: l, k, listed, a, hl, hk, inv, hB, h => by
  have h0 : ops[k]? = some o := by simpa using (hl 0 aby).symm
  simp only [List.length_cons, Region.lexHead, Bool.and_eq_true] at hB
  obtain ⟨⟨hr, hf⟩, PY⟩ := hB
  have hkn : k < n := by simp only [List.length_cons] at hk; omega
  have hr' : k ∈ Region.ready md ops listed := by simpa using hr
  have hst : qOp P ops C k (wpQuiet P ops C Lq l) a := by unfold qOp; simp only [h0]; exact h
  obtain ⟨v, hy, hK⟩ := yieldsIn_of_qOp h0 hst
  exact xQ h0 (Region.noSelect_spec hsel) hs hc hn hkn (fun listed' a' hL => seqB_ready hL.1) l.length listed a inv (Region.free_spec h0 hf) hr' hy
   (uK hsel hs hc hn l (k + 1) _ _ (fun j hj => by have := hl (j + 1) abA; simpa [Nat.add_assoc, Nat.add_comm 1 j] using this) ack (inv.set hr' hkn) PY hK)
theorem gy {id : Nat} {Q : Exit → Act → World → Prop} {a : Act} {w : World} {l : List Oper} (n : Nat) (hm : P.follows .mixedOrders = true) (hB : Region.lexTailB .any l.toArray n = true) (hC : C { w with drawn := w.drawn + 1 })
  (h : wpQuiet P l.toArray C (fun a' => ∀ w', C w' → wpList P l.toArray Q (l.drop n) a' w') (l.take n) a) : (Code.region id l.toArray true).wp P Q a w := by
 simp only [Region.lexTailB, Bool.and_eq_true, decide_eq_true_eq] at hB
 obtain ⟨⟨⟨⟨hsel, hn⟩, hs⟩, hc⟩, DT⟩ := hB
 have hn' : n < l.length := by simpa using hn
 have htl : (l.take n).length = n := by simp; omega
 have EW : (l.drop n).length = l.toArray.size - n := by simp
 have GU : HeadInv .any l.toArray n (Array.replicate l.toArray.size false) :=
  ⟨by simp, fun j oj _ hl => (by rw [getD_replicate_false] at hl; cases hl), fun t _ ht => getD_in (by simpa using ht) (getD_replicate_false _ _)⟩
 have H := uK (md := .any) (g := l.toArray.size - n) hsel hs hc hn (l.take n) 0 _ a (fun j hj => by
  have hj' : j < n := by rw [htl] at hj; exact hj
  simp [hj']) (by simpa using htl) GU (by rw [htl]; exact DT) h
 refine wp_region_any hm ?_
 have := fO (Q' := Q) (g := l.toArray.size - n) (fun listed a' w' hw' hL => by
  have hl := wpAny_of_seq (l.drop n) n listed a' w' (fun j => by simp) (by rw [EW]; exact hL.1) (hL.2 w' hw')
  rw [EW] at hl
  exact hl) (l.take n).length _ a _ hC H
 rw [htl, show n + (l.toArray.size - n) = l.toArray.size by omega] at this
 exact this
theorem dF {id : Nat} {Q : Exit → Act → World → Prop} {a : Act} {w : World} {x : Ext w} {l : List Oper} (n : Nat) (hm : P.follows .mixedOrders = true) (hB : Region.lexTailB .any l.toArray n = true)
  (h : wpQuiet P l.toArray (fun w' => ∃ y : Ext w, w' = y.w) (fun a' => ∀ w', (∃ y : Ext w, w' = y.w) → wpList P l.toArray Q (l.drop n) a' w') (l.take n) a) : (Code.region id l.toArray true).wp P Q a x.w :=
 gy (C := fun w' => ∃ y : Ext w, w' = y.w) n hm hB ⟨⟨{ x.w with drawn := x.w.drawn + 1 }, x.h.trans ⟨rfl, rfl, rfl, Nat.le_refl _, fun _ _ => rfl⟩⟩, rfl⟩ h
theorem aG {id : Nat} {Q : Exit → Act → World → Prop} {a : Act} {w : World} {l : List Oper} (n : Nat) (hm : P.follows .mixedOrders = true) (hB : Region.lexTailB .any l.toArray n = true)
  (h : wpQuiet P l.toArray (fun w' => ∃ y : Ext w, w' = y.w) (fun a' => ∀ w', (∃ y : Ext w, w' = y.w) → wpList P l.toArray Q (l.drop n) a' w') (l.take n) a) : (Code.region id l.toArray true).wp P Q a w :=
 gy (C := fun w' => ∃ y : Ext w, w' = y.w) n hm hB ⟨⟨{ w with drawn := w.drawn + 1 }, ⟨rfl, rfl, rfl, Nat.le_refl _, fun _ _ => rfl⟩⟩, rfl⟩ h
end
section
variable {P : Program} {ops : Array Oper} {md : Region.Mode} {C : World → Prop}
def lA (md : Region.Mode) (ops : Array Oper) (n m : Nat) : Bool :=
 (List.range m).all fun t => decide (t ≤ n) || Region.waitsFor md ops t (t - 1)
structure p5 (md : Region.Mode) (ops : Array Oper) (n m : Nat) (listed : Array Bool) : Prop where
 size : listed.size = ops.size
 closed : ∀ j oj, ops[j]? = some oj → listed.getD j false = true → ∀ e ∈ oj.after, Region.binds md e = true → listed.getD e.on false = true
 tail : ∀ t, n ≤ t → t < m → listed.getD t true = false
 last : ∀ t, m ≤ t → t < ops.size → listed.getD t true = true
theorem p5.set {n m i : Nat} {listed : Array Bool} (inv : p5 md ops n m listed) (hi : i ∈ Region.ready md ops listed) (hin : i < n) (hnm : n < m) : p5 md ops n m (listed.setIfInBounds i true) := by
 obtain ⟨_, oi, hoi, hall⟩ := mem_ready.1 hi
 refine ⟨by simp [inv.size], fun j oj hj hl e he hb => ?_, fun t ht ht' => by rw [getD_set_ne true abo]; exact inv.tail t ht ht', fun t ht ht' => by rw [getD_set_ne true abo]; exact inv.last t ht ht'⟩
 by_cases hij : i = j
 ·subst hij
  have : oj = oi := Option.some.inj (hj.symm.trans hoi)
  subst this
  exact getD_set_true (hall e he hb)
 ·rw [getD_set_ne false hij] at hl
  exact getD_set_true (inv.closed j oj hj hl e he hb)
theorem pS {n m : Nat} {listed : Array Bool} (hs : Region.sinkB md ops n = true) (hc : lA md ops n m = true) (hn : n < m) (inv : p5 md ops n m listed) :
  ∀ (d i : Nat), n - i = d → i < n → listed.getD i true = false → ∀ t, n ≤ t → t ∉ Region.ready md ops listed := by
 intro d
 induction d using Nat.strongRecOn with
 | _ d ih =>
  intro i hd hi hun t ht hr
  obtain ⟨G0, ot, MX, hall⟩ := mem_ready.1 hr
  have htlt : t < ops.size := (Array.getElem?_eq_some_iff.1 MX).1
  have Tx : t < m := by
   rcases Nat.lt_or_ge t m with h | h
   ·exact h
   ·rw [inv.last t h htlt] at G0; cases G0
  by_cases htn : t = n
  ·subst htn
   have h1 := List.all_eq_true.1 hs i (List.mem_range.2 hi)
   obtain ⟨j, hj, hj2⟩ := List.any_eq_true.1 h1
   simp only [Bool.and_eq_true, decide_eq_true_eq] at hj2
   obtain ⟨oj, xN, e, he, hb, hon⟩ := Region.waitsFor_spec hj2.2
   have hjle : j ≤ t := by have := List.mem_range.1 hj; omega
   by_cases hjt : j = t
   ·subst hjt
    have : oj = ot := Option.some.inj (xN.symm.trans MX)
    subst this
    have h2 := hall e he hb
    rw [hon, getD_both hun] at h2
    cases h2
   ·cases hl : listed.getD j false with
    | true =>
     have h2 := inv.closed j oj xN hl e he hb
     rw [hon, getD_both hun] at h2
     cases h2
    | false =>
     have TN : j < listed.size := by rw [inv.size]; omega
     exact ih (t - j) abo j rfl abo (getD_in TN hl) t (Nat.le_refl _) hr
  ·have h1 := List.all_eq_true.1 hc t (List.mem_range.2 Tx)
   simp only [Bool.or_eq_true, decide_eq_true_eq] at h1
   rcases h1 with h1 | h1
   ·omega
   ·obtain ⟨o', ho', e, he, hb, hon⟩ := Region.waitsFor_spec h1
    have : o' = ot := Option.some.inj (ho'.symm.trans MX)
    subst this
    have h2 := hall e he hb
    rw [hon, getD_both (inv.tail (t - 1) abo abo)] at h2
    cases h2
theorem xR {n m i : Nat} {oi : Oper} {v : Value} {L : Array Bool → Act → Prop} (hi : ops[i]? = some oi) (hsel : ∀ (j : Nat) (o : Oper) cs b, ops[j]? = some o → o.op ≠ .select cs b)
  (hs : Region.sinkB md ops n = true) (hc : lA md ops n m = true) (hn : n < m) (hin : i < n)
  (hdone : ∀ listed a, L listed a → ∀ j ∈ Region.ready md ops listed, n ≤ j) :
  ∀ (f : Nat) (listed : Array Bool) (a : Act), p5 md ops n m listed →
   (∀ j oj, ops[j]? = some oj → j ≠ i → listed.getD j true = false → (∀ e ∈ oj.after, Region.binds md e = true → e.on ≠ i) → oi.apart ops oj = true) →
   i ∈ Region.ready md ops listed → YieldsIn P ops C oi v a →
   ld P md ops C n L f (listed.setIfInBounds i true) (a.put oi.dst v) → ld P md ops C n L (f + 1) listed a := by
 intro f
 induction f with
 | zero =>
  intro listed a inv _ hr hy H
  have hun := (mem_ready.1 hr).1
  refine ⟨fun h => ab2, fun j hj => ?_⟩
  have hjn : j < n := by
   rcases Nat.lt_or_ge j n with h | h
   ·exact h
   ·exact absurd hj (pS hs hc hn inv _ i rfl hin hun j h)
  refine ⟨hjn, ?_⟩
  by_cases hji : j = i
  ·subst hji; exact hy.qOp hi H
  ·have := hdone _ _ H j (ready_mono hj hji)
   omega
 | succ f ih =>
  intro listed a inv hfree hr hy H
  have hun := (mem_ready.1 hr).1
  refine ⟨fun h => ab2, fun j hj => ?_⟩
  have hjn : j < n := by
   rcases Nat.lt_or_ge j n with h | h
   ·exact h
   ·exact absurd hj (pS hs hc hn inv _ i rfl hin hun j h)
  refine ⟨hjn, ?_⟩
  by_cases hji : j = i
  ·subst hji; exact hy.qOp hi H
  ·have h1 := (H.2 j (ready_mono hj hji)).2
   obtain ⟨xO, oj, xN, hall⟩ := mem_ready.1 hj
   have hnot : ∀ e ∈ oj.after, Region.binds md e = true → e.on ≠ i := fun e he hb heq => by
    have h1 := hall e he hb
    rw [heq, getD_both hun] at h1
    cases h1
   have h2 := qOp_put xN (hfree j oj xN hji xO hnot) (fun cs b => hsel i oi cs b hi) (fun cs b => hsel j oj cs b xN) hy h1
   have rZ : ∀ k ok, ops[k]? = some ok → k ≠ i → (listed.setIfInBounds j true).getD k true = false →
     (∀ e ∈ ok.after, Region.binds md e = true → e.on ≠ i) → oi.apart ops ok = true := fun k ok hk hki hun hno => by
    refine hfree k ok hk hki ?_ hno
    by_cases hjk : j = k
    ·subst hjk; exact xO
    ·rw [getD_set_ne true hjk] at hun; exact hun
   refine qOp_mono (fun a' h3 => ih (listed.setIfInBounds j true) a' (inv.set hj hjn hn) rZ (ready_mono hr (Ne.symm hji)) h3.1 ?_) h2
   rw [Array.setIfInBounds_comm _ _ hji]
   exact h3.2
theorem uN {n m g : Nat} {Lq : Act → Prop} (hsel : Region.noSelect ops = true) (hs : Region.sinkB md ops n = true) (hc : lA md ops n m = true) (hn : n < m) :
  ∀ (l : List Oper) (k : Nat) (listed : Array Bool) (a : Act), (∀ j, j < l.length → l[j]? = ops[k + j]?) → k + l.length = n → p5 md ops n m listed →
  Region.lexHead md ops g l.length k listed = true → wpQuiet P ops C Lq l a →
  ld P md ops C n (fun listed' a' => Region.seqB md ops g n listed' = true ∧ Lq a') l.length listed a
 | [], k, listed, a, _, hk, _, hB, h => by
  have : k = n := by simpa using hk
  subst this
  exact ⟨by simpa [Region.lexHead] using hB, h⟩
 | o :: l, k, listed, a, hl, hk, inv, hB, h => by
  have h0 : ops[k]? = some o := by simpa using (hl 0 aby).symm
  simp only [List.length_cons, Region.lexHead, Bool.and_eq_true] at hB
  obtain ⟨⟨hr, hf⟩, PY⟩ := hB
  have hkn : k < n := by simp only [List.length_cons] at hk; omega
  have hr' : k ∈ Region.ready md ops listed := by simpa using hr
  have hst : qOp P ops C k (wpQuiet P ops C Lq l) a := by unfold qOp; simp only [h0]; exact h
  obtain ⟨v, hy, hK⟩ := yieldsIn_of_qOp h0 hst
  exact xR h0 (Region.noSelect_spec hsel) hs hc hn hkn (fun listed' a' hL => seqB_ready hL.1) l.length listed a inv (Region.free_spec h0 hf) hr' hy
   (uN hsel hs hc hn l (k + 1) _ _ (fun j hj => by have := hl (j + 1) abA; simpa [Nat.add_assoc, Nat.add_comm 1 j] using this) ack (inv.set hr' hkn hn) PY hK)
def rL (md : Region.Mode) (ops : Array Oper) (n m : Nat) : Bool :=
 Region.noSelect ops && decide (n < m) && decide (ops.size = m + 1) && Region.free md ops (Array.replicate ops.size false) m && (Region.ready md ops (Array.replicate ops.size false)).contains m && (match ops[m]? with | some o => o.after.isEmpty | none => false) &&
 Region.sinkB md ops n && lA md ops n m && Region.lexHead md ops (m - n) n 0 ((Array.replicate ops.size false).setIfInBounds m true)
theorem jh {Q' : Exit → Act → World → Prop} : ∀ (l : List Oper) (k : Nat) (listed : Array Bool) (a : Act) (w : World), (∀ j, j < l.length → l[j]? = ops[k + j]?) →
  Region.seqB md ops l.length k listed = true → wpList P ops Q' l a w → wpAny P md ops Q' l.length listed a w
 | [], _, _, _, _, _, hB, h => ⟨by simpa [Region.seqB] using hB, h⟩
 | o :: l, k, listed, a, w, hl, hB, h => by
  have h0 : ops[k]? = some o := by simpa using (hl 0 aby).symm
  simp only [List.length_cons, Region.seqB, Bool.and_eq_true, decide_eq_true_eq] at hB
  refine ⟨fun h1 => (by rw [hB.1] at h1; cases h1), fun i hi => ?_⟩
  rw [hB.1] at hi
  have hik : i = k := by simpa using hi
  subst hik
  have hw : wpOp P ops Q' i (wpList P ops Q' l) a w := by unfold wpOp; simp only [h0]; exact h
  exact wpOp_mono (fun a' w' h' => jh l (i + 1) _ a' w' (fun j hj => by have := hl (j + 1) abA; simpa [Nat.add_assoc, Nat.add_comm 1 j] using this) hB.2 h') hw
theorem ve {o : Oper} {c : Value} {a : Act} (hop : o.op = .move (.const c)) (hg : o.guard = none) : Yields P ops o c a := by
 left
 refine ⟨by simp [Region.wanted, hg], fun w => ?_⟩
 simp [execOp, hop, go_sem, Act.eval]
theorem ir {id : Nat} {Q : Exit → Act → World → Prop} {a : Act} {w : World} {l : List Oper} (n m : Nat) (o : Oper) (c : Value) (ho : l[m]? = some o) (hop : o.op = .move (.const c)) (hg : o.guard = none) (hm : P.follows .mixedOrders = true) (hB : rL .any l.toArray n m = true) (hC : C { w with drawn := w.drawn + 1 })
  (h : wpQuiet P l.toArray C (fun a' => ∀ w', C w' → wpList P l.toArray (NoPanic Q) ((l.drop n).take (m - n)) a' w') (l.take n) (a.put o.dst c)) : (Code.region id l.toArray true).wp P Q a w := by
 simp only [rL, Bool.and_eq_true, decide_eq_true_eq] at hB
 obtain ⟨⟨⟨⟨⟨⟨⟨⟨hsel, hn⟩, hsz⟩, hfree⟩, G5⟩, Hj⟩, hs⟩, hc⟩, DT⟩ := hB
 have hl : l.length = m + 1 := by simpa using hsz
 have ho' : l.toArray[m]? = some o := by simpa using ho
 rw [ho'] at Hj
 have hnone : o.after = #[] := by simpa using Hj
 refine wp_region_noPanic ?_
 refine wp_region_any hm ?_
 have hsz' : l.toArray.size = m + 1 := hsz
 rw [hsz'] at hfree G5 DT ⊢
 refine wpAny_take ho' hsel hfree G5 (fun _ _ _ h => h) (ve hop hg) ?_
 have htl : (l.take n).length = n := by simp; omega
 have EW : ((l.drop n).take (m - n)).length = m - n := by simp; omega
 have GU : p5 .any l.toArray n m ((Array.replicate (m + 1) false).setIfInBounds m true) := by
  refine ⟨by simp [hl], fun j oj hj V8 e he _ => ?_, fun t ht ht' => ?_, fun t ht ht' => ?_⟩
  ·by_cases Wb : m = j
   ·subst Wb
    have : oj = o := Option.some.inj (hj.symm.trans ho')
    subst this
    rw [hnone] at he
    simp at he
   ·rw [getD_set_ne false Wb, getD_replicate_false] at V8
    cases V8
  ·rw [getD_set_ne true abo]
   exact getD_in abA (getD_replicate_false _ _)
  ·have : t = m := by rw [hsz'] at ht'; omega
   subst this
   simp
 have H := uN (md := .any) (g := m - n) hsel hs hc hn (l.take n) 0 _ (a.put o.dst c) (fun j hj => by
  have hj' : j < n := by rw [htl] at hj; exact hj
  simp [hj']) (by simpa using htl) GU (by rw [htl]; exact DT) h
 have := fO (Q' := NoPanic Q) (g := m - n) (fun listed a' w' hw' hL => by
  have hq := jh ((l.drop n).take (m - n)) n listed a' w' (fun j hj => by
   rw [EW] at hj
   simp [List.getElem?_drop, hj]) (by rw [EW]; exact hL.1) (hL.2 w' hw')
  rw [EW] at hq
  exact hq) (l.take n).length _ _ _ hC H
 rw [htl, show n + (m - n) = m by omega] at this
 exact this
theorem jg {id : Nat} {Q : Exit → Act → World → Prop} {a : Act} {w : World} {l : List Oper} (n m : Nat) (o : Oper) (c : Value) (ho : l[m]? = some o) (hop : o.op = .move (.const c)) (hg : o.guard = none) (hm : P.follows .mixedOrders = true) (hB : rL .any l.toArray n m = true)
  (h : wpQuiet P l.toArray (fun w' => ∃ y : Ext w, w' = y.w) (fun a' => ∀ w', (∃ y : Ext w, w' = y.w) → wpList P l.toArray (NoPanic Q) ((l.drop n).take (m - n)) a' w') (l.take n) (a.put o.dst c)) : (Code.region id l.toArray true).wp P Q a w :=
 ir (C := fun w' => ∃ y : Ext w, w' = y.w) n m o c ho hop hg hm hB ⟨⟨{ w with drawn := w.drawn + 1 }, ⟨rfl, rfl, rfl, Nat.le_refl _, fun _ _ => rfl⟩⟩, rfl⟩ h
end
section
variable {P : Program} {ops : Array Oper} {md : Region.Mode} {C : World → Prop}
def A3 (md : Region.Mode) (ops : Array Oper) (k n : Nat) : Bool :=
 (List.range n).all fun i => decide (i < k) || (List.range (n + 1)).any fun j => decide (i < j) && Region.waitsFor md ops j i
def invK (md : Region.Mode) (ops : Array Oper) (k n m : Nat) (listed : Array Bool) : Bool :=
 decide (listed.size = ops.size) && ((List.range ops.size).all fun j => !(listed.getD j false) || (match ops[j]? with | some oj => oj.after.all fun e => !(Region.binds md e) || listed.getD e.on false | none => true)) &&
 ((List.range ops.size).all fun t => !(decide (n ≤ t) && decide (t < m)) || !(listed.getD t true)) && ((List.range ops.size).all fun t => !(decide (m ≤ t)) || listed.getD t true) && ((List.range ops.size).all fun t => !(decide (t < k)) || listed.getD t true)
structure sS (md : Region.Mode) (ops : Array Oper) (k n m : Nat) (listed : Array Bool) : Prop where
 base : p5 md ops n m listed
 low : ∀ t, t < k → t < ops.size → listed.getD t true = true
theorem DC {k n m : Nat} {listed : Array Bool} (hm : m ≤ ops.size) (h : invK md ops k n m listed = true) : sS md ops k n m listed := by
 simp only [invK, Bool.and_eq_true, decide_eq_true_eq, List.all_eq_true, List.mem_range] at h
 obtain ⟨⟨⟨⟨h1, h2⟩, h3⟩, h4⟩, h5⟩ := h
 refine ⟨⟨h1, fun j oj hj hl e he hb => ?_, fun t ht ht' => ?_, fun t ht ht' => ?_⟩, fun t ht ht' => ?_⟩
 ·have := h2 j (Array.getElem?_eq_some_iff.1 hj).1
  rw [hl, hj] at this
  simp only [Bool.not_true, Bool.false_or, Array.all_eq_true'] at this
  have h6 := this e he
  rw [hb] at h6
  simpa using h6
 ·have := h3 t abo
  simpa [ht, ht'] using this
 ·have := h4 t ht'
  simpa [ht] using this
 ·have := h5 t ht'
  simpa [ht] using this
theorem sS.set {k n m i : Nat} {listed : Array Bool} (inv : sS md ops k n m listed) (hi : i ∈ Region.ready md ops listed) (hin : i < n) (hnm : n < m) : sS md ops k n m (listed.setIfInBounds i true) := by
 refine ⟨inv.base.set hi hin hnm, fun t ht ht' => ?_⟩
 by_cases h : i = t
 ·subst h
  simp [inv.base.size, ht']
 ·rw [getD_set_ne true h]; exact inv.low t ht ht'
theorem pT {k n m : Nat} {listed : Array Bool} (hs : A3 md ops k n = true) (hc : lA md ops n m = true) (hn : n < m) (inv : sS md ops k n m listed) :
  ∀ (d i : Nat), n - i = d → i < n → listed.getD i true = false → ∀ t, n ≤ t → t ∉ Region.ready md ops listed := by
 intro d
 induction d using Nat.strongRecOn with
 | _ d ih =>
  intro i hd hi hun t ht hr
  obtain ⟨G0, ot, MX, hall⟩ := mem_ready.1 hr
  have htlt : t < ops.size := (Array.getElem?_eq_some_iff.1 MX).1
  have Tx : t < m := by
   rcases Nat.lt_or_ge t m with h | h
   ·exact h
   ·rw [inv.base.last t h htlt] at G0; cases G0
  have hki : ¬ i < k := by
   intro h
   rw [inv.low i h abo] at hun
   cases hun
  by_cases htn : t = n
  ·subst htn
   have h1 := List.all_eq_true.1 hs i (List.mem_range.2 hi)
   simp only [Bool.or_eq_true, decide_eq_true_eq, hki, false_or] at h1
   obtain ⟨j, hj, hj2⟩ := List.any_eq_true.1 h1
   simp only [Bool.and_eq_true, decide_eq_true_eq] at hj2
   obtain ⟨oj, xN, e, he, hb, hon⟩ := Region.waitsFor_spec hj2.2
   have hjle : j ≤ t := by have := List.mem_range.1 hj; omega
   by_cases hjt : j = t
   ·subst hjt
    have : oj = ot := Option.some.inj (xN.symm.trans MX)
    subst this
    have h2 := hall e he hb
    rw [hon, getD_both hun] at h2
    cases h2
   ·cases hl : listed.getD j false with
    | true =>
     have h2 := inv.base.closed j oj xN hl e he hb
     rw [hon, getD_both hun] at h2
     cases h2
    | false =>
     have TN : j < listed.size := by rw [inv.base.size]; omega
     exact ih (t - j) abo j rfl abo (getD_in TN hl) t (Nat.le_refl _) hr
  ·have h1 := List.all_eq_true.1 hc t (List.mem_range.2 Tx)
   simp only [Bool.or_eq_true, decide_eq_true_eq] at h1
   rcases h1 with h1 | h1
   ·omega
   ·obtain ⟨o', ho', e, he, hb, hon⟩ := Region.waitsFor_spec h1
    have : o' = ot := Option.some.inj (ho'.symm.trans MX)
    subst this
    have h2 := hall e he hb
    rw [hon, getD_both (inv.base.tail (t - 1) abo abo)] at h2
    cases h2
theorem xS {k0 n m i : Nat} {oi : Oper} {v : Value} {L : Array Bool → Act → Prop} (hi : ops[i]? = some oi) (hsel : ∀ (j : Nat) (o : Oper) cs b, ops[j]? = some o → o.op ≠ .select cs b)
  (hs : A3 md ops k0 n = true) (hc : lA md ops n m = true) (hn : n < m) (hin : i < n)
  (hdone : ∀ listed a, L listed a → ∀ j ∈ Region.ready md ops listed, n ≤ j) :
  ∀ (f : Nat) (listed : Array Bool) (a : Act), sS md ops k0 n m listed →
   (∀ j oj, ops[j]? = some oj → j ≠ i → listed.getD j true = false → (∀ e ∈ oj.after, Region.binds md e = true → e.on ≠ i) → oi.apart ops oj = true) →
   i ∈ Region.ready md ops listed → YieldsIn P ops C oi v a →
   ld P md ops C n L f (listed.setIfInBounds i true) (a.put oi.dst v) → ld P md ops C n L (f + 1) listed a := by
 intro f
 induction f with
 | zero =>
  intro listed a inv _ hr hy H
  have hun := (mem_ready.1 hr).1
  refine ⟨fun h => ab2, fun j hj => ?_⟩
  have hjn : j < n := by
   rcases Nat.lt_or_ge j n with h | h
   ·exact h
   ·exact absurd hj (pT hs hc hn inv _ i rfl hin hun j h)
  refine ⟨hjn, ?_⟩
  by_cases hji : j = i
  ·subst hji; exact hy.qOp hi H
  ·have := hdone _ _ H j (ready_mono hj hji)
   omega
 | succ f ih =>
  intro listed a inv hfree hr hy H
  have hun := (mem_ready.1 hr).1
  refine ⟨fun h => ab2, fun j hj => ?_⟩
  have hjn : j < n := by
   rcases Nat.lt_or_ge j n with h | h
   ·exact h
   ·exact absurd hj (pT hs hc hn inv _ i rfl hin hun j h)
  refine ⟨hjn, ?_⟩
  by_cases hji : j = i
  ·subst hji; exact hy.qOp hi H
  ·have h1 := (H.2 j (ready_mono hj hji)).2
   obtain ⟨xO, oj, xN, hall⟩ := mem_ready.1 hj
   have hnot : ∀ e ∈ oj.after, Region.binds md e = true → e.on ≠ i := fun e he hb heq => by
    have h1 := hall e he hb
    rw [heq, getD_both hun] at h1
    cases h1
   have h2 := qOp_put xN (hfree j oj xN hji xO hnot) (fun cs b => hsel i oi cs b hi) (fun cs b => hsel j oj cs b xN) hy h1
   have rZ : ∀ k ok, ops[k]? = some ok → k ≠ i → (listed.setIfInBounds j true).getD k true = false →
     (∀ e ∈ ok.after, Region.binds md e = true → e.on ≠ i) → oi.apart ops ok = true := fun k ok hk hki hun hno => by
    refine hfree k ok hk hki ?_ hno
    by_cases hjk : j = k
    ·subst hjk; exact xO
    ·rw [getD_set_ne true hjk] at hun; exact hun
   refine qOp_mono (fun a' h3 => ih (listed.setIfInBounds j true) a' (inv.set hj hjn hn) rZ (ready_mono hr (Ne.symm hji)) h3.1 ?_) h2
   rw [Array.setIfInBounds_comm _ _ hji]
   exact h3.2
theorem uO {k0 n m g : Nat} {Lq : Act → Prop} (hsel : Region.noSelect ops = true) (hs : A3 md ops k0 n = true) (hc : lA md ops n m = true) (hn : n < m) :
  ∀ (l : List Oper) (k : Nat) (listed : Array Bool) (a : Act), (∀ j, j < l.length → l[j]? = ops[k + j]?) → k + l.length = n → sS md ops k0 n m listed →
  Region.lexHead md ops g l.length k listed = true → wpQuiet P ops C Lq l a →
  ld P md ops C n (fun listed' a' => Region.seqB md ops g n listed' = true ∧ Lq a') l.length listed a
 | [], k, listed, a, _, hk, _, hB, h => by
  have : k = n := by simpa using hk
  subst this
  exact ⟨by simpa [Region.lexHead] using hB, h⟩
 | o :: l, k, listed, a, hl, hk, inv, hB, h => by
  have h0 : ops[k]? = some o := by simpa using (hl 0 aby).symm
  simp only [List.length_cons, Region.lexHead, Bool.and_eq_true] at hB
  obtain ⟨⟨hr, hf⟩, PY⟩ := hB
  have hkn : k < n := by simp only [List.length_cons] at hk; omega
  have hr' : k ∈ Region.ready md ops listed := by simpa using hr
  have hst : qOp P ops C k (wpQuiet P ops C Lq l) a := by unfold qOp; simp only [h0]; exact h
  obtain ⟨v, hy, hK⟩ := yieldsIn_of_qOp h0 hst
  exact xS h0 (Region.noSelect_spec hsel) hs hc hn hkn (fun listed' a' hL => seqB_ready hL.1) l.length listed a inv (Region.free_spec h0 hf) hr' hy
   (uO hsel hs hc hn l (k + 1) _ _ (fun j hj => by have := hl (j + 1) abA; simpa [Nat.add_assoc, Nat.add_comm 1 j] using this) ack (inv.set hr' hkn hn) PY hK)
def jA (md : Region.Mode) (ops : Array Oper) (k n m : Nat) (listed : Array Bool) : Bool :=
 Region.noSelect ops && decide (k ≤ n) && decide (n < m) && decide (m ≤ ops.size) && invK md ops k n m listed && A3 md ops k n && lA md ops n m && Region.lexHead md ops (m - n) (n - k) k listed
theorem oN {Q : Exit → Act → World → Prop} {a : Act} {w : World} {l : List Oper} {listed : Array Bool} (k n m : Nat) (hB : jA .any l.toArray k n m listed = true) (hC : C w)
  (h : wpQuiet P l.toArray C (fun a' => ∀ w', C w' → wpList P l.toArray Q ((l.drop n).take (m - n)) a' w') ((l.drop k).take (n - k)) a) : wpAny P .any l.toArray Q (m - k) listed a w := by
 simp only [jA, Bool.and_eq_true, decide_eq_true_eq] at hB
 obtain ⟨⟨⟨⟨⟨⟨⟨hsel, hkn⟩, hn⟩, hm⟩, hinv⟩, hs⟩, hc⟩, DT⟩ := hB
 have hm' : m ≤ l.length := by simpa using hm
 have GU := DC hm hinv
 have htl : ((l.drop k).take (n - k)).length = n - k := by simp; omega
 have EW : ((l.drop n).take (m - n)).length = m - n := by simp; omega
 have H := uO (md := .any) (g := m - n) hsel hs hc hn ((l.drop k).take (n - k)) k listed a (fun j hj => by
  rw [htl] at hj
  simp [List.getElem?_drop, hj]) (by rw [htl]; omega) GU (by rw [htl]; exact DT) h
 have := fO (Q' := Q) (g := m - n) (fun listed a' w' hw' hL => by
  have hq := jh ((l.drop n).take (m - n)) n listed a' w' (fun j hj => by
   rw [EW] at hj
   simp [List.getElem?_drop, hj]) (by rw [EW]; exact hL.1) (hL.2 w' hw')
  rw [EW] at hq
  exact hq) ((l.drop k).take (n - k)).length _ _ _ hC H
 rw [htl, show n - k + (m - n) = m - k by omega] at this
 exact this
theorem wG {o : Oper} {t : Nat} {v : Value} {a : Act} (hop : o.op = .move (.tmp t)) (hg : o.guard = none) (hv : a.tmps[t]?.getD undef = v) : Yields P ops o v a := by
 left
 refine ⟨by simp [Region.wanted, hg], fun w => ?_⟩
 simp [execOp, hop, go_sem]
 exact hv
theorem kJ {id : Nat} {Q : Exit → Act → World → Prop} {a : Act} {w : World} {l : List Oper} (n m : Nat) (o : Oper) (t : Nat) (v : Value) (ho : l[0]? = some o) (hop : o.op = .move (.tmp t)) (hg : o.guard = none) (hv : a.tmps[t]?.getD undef = v) (hm : P.follows .mixedOrders = true) (hsz : l.length = m)
  (hf : Region.free .any l.toArray (Array.replicate m false) 0 = true) (hr : (Region.ready .any l.toArray (Array.replicate m false)).contains 0 = true) (hB : jA .any l.toArray 1 n m ((Array.replicate m false).setIfInBounds 0 true) = true) (hC : C { w with drawn := w.drawn + 1 })
  (h : wpQuiet P l.toArray C (fun a' => ∀ w', C w' → wpList P l.toArray (NoPanic Q) ((l.drop n).take (m - n)) a' w') ((l.drop 1).take (n - 1)) (a.put o.dst v)) : (Code.region id l.toArray true).wp P Q a w := by
 refine wp_region_noPanic ?_
 refine wp_region_any hm ?_
 have hsz' : l.toArray.size = m := by simpa using hsz
 have hsel : Region.noSelect l.toArray = true := by
  simp only [jA, Bool.and_eq_true] at hB
  exact hB.1.1.1.1.1.1.1
 have hpos : 0 < m := by
  simp only [jA, Bool.and_eq_true, decide_eq_true_eq] at hB
  omega
 rw [hsz', show m = (m - 1) + 1 by omega]
 rw [show m = (m - 1) + 1 by omega] at hf hr
 refine wpAny_take (by simpa using ho) hsel hf hr (fun _ _ _ h => h) (wG hop hg hv) ?_
 rw [← show m = (m - 1) + 1 by omega]
 exact oN 1 n m hB hC h
theorem b8 {id : Nat} {Q : Exit → Act → World → Prop} {a : Act} {w : World} {l : List Oper} (n m : Nat) (o : Oper) (t : Nat) (v : Value) (ho : l[0]? = some o) (hop : o.op = .move (.tmp t)) (hg : o.guard = none) (hv : a.tmps[t]?.getD undef = v) (hm : P.follows .mixedOrders = true) (hsz : l.length = m)
  (hf : Region.free .any l.toArray (Array.replicate m false) 0 = true) (hr : (Region.ready .any l.toArray (Array.replicate m false)).contains 0 = true) (hB : jA .any l.toArray 1 n m ((Array.replicate m false).setIfInBounds 0 true) = true)
  (h : wpQuiet P l.toArray (fun w' => ∃ y : Ext w, w' = y.w) (fun a' => ∀ w', (∃ y : Ext w, w' = y.w) → wpList P l.toArray (NoPanic Q) ((l.drop n).take (m - n)) a' w') ((l.drop 1).take (n - 1)) (a.put o.dst v)) : (Code.region id l.toArray true).wp P Q a w :=
 kJ (C := fun w' => ∃ y : Ext w, w' = y.w) n m o t v ho hop hg hv hm hsz hf hr hB ⟨⟨{ w with drawn := w.drawn + 1 }, ⟨rfl, rfl, rfl, Nat.le_refl _, fun _ _ => rfl⟩⟩, rfl⟩ h
end
theorem gG {P : Program} {ops : Array Oper} {o : Oper} {a : Act} {w : World} {K : Act → World → Prop} {Q : Exit → Act → World → Prop} {E : Prop} (hgd : o.guard = none) (s x : Operand) (t : TypeId)
  (ho : o.op = .call { callee := .builtin .append, args := #[s, x], argTypes := #[t, t] })
  (base : Nat) (e : TypeId) (i : TypeInfo) (z : Value) (size bytes : Nat) (ht : P.underlying t = some (.slice e)) (hi : P.info? e = some i) (hz : i.zero = some z)
  (hsize : i.size = size) (hby : i.bytes = bytes) (hzs : z.cells.size = size) (hsz : 0 < size)
  (v : Value) (n : Nat) (xs : List Value) (hs : a.eval s = v) (hown : w.ownsRow base e size v n xs)
  (ad : Addr) (m c : Nat) (news : List Value) (hx : a.eval x = .slice (some ad) m c) (hl : news.length = m * size) (hnews : ∀ j u, news[j]? = some u → w.cell? (ad.add j) = some u) (h1 : ∀ u ∈ news, u.oneCell' = true)
  (h63 : n + m ≤ maxLen) (hbytes : (n + m) * bytes ≤ 140737488355328) (hbase : base ≤ w.heap.size)
  (h : ∀ v' w', w'.ownsRow base e size v' (n + m) (xs ++ news) → w.grownBy w' v.ownBlock → (v'.ownBlock = v.ownBlock ∨ v'.ownBlock = some w.heap.size) → K (a.put o.dst v') w') :
  if Region.wanted o (yielded ops a.tmps) = true then Oper.wp P o a w K Q else E := by
 have hw : Region.wanted o (yielded ops a.tmps) = true := by simp [Region.wanted, hgd]
 rw [if_pos hw]
 obtain ⟨v', w', hr, h2, h3, h4, h5⟩ := run_append_own_at (P := P) w base t o.type e i z size bytes ht hi hz hsize hby hzs hsz v n xs hown ad m c news hl hnews h1 h63 hbytes hbase
 unfold Oper.wp
 simp [execOp, ho, resolve, invoke, builtin, hs, hx, hr, Result.andThen]
 exact h v' w' h2 h3 h5
def Ln (k : Int) : Prop := (Lit.int .i64 k).wf = true
abbrev kv (k : Int) : Value := .int .i64 k
theorem jm {k : Int} (h0 : -9223372036854775808 ≤ k) (h1 : k ≤ 9223372036854775807) : Ln k := by
 unfold Ln
 have e1 : IntKind.i64.min = -9223372036854775808 := by decide
 have e2 : IntKind.i64.max = 9223372036854775807 := by decide
 simp [Lit.wf, e1, e2, h0, h1]
structure Iq (f : Int → Option Value) (es : Array MapEntry) (clock : Nat) : Prop where
 stamped : Stamped es clock
 vals : ∀ x ∈ es.toList, ∃ k, Ln k ∧ x.key = kv k ∧ f k = some x.val
 rest : ∀ k v, f k = some v → ∃ x ∈ es.toList, x.key = kv k
def Im (w : World) (b : Nat) (f : Int → Option Value) : Prop := ∃ es clock, w.heap[b]? = some (.map es clock) ∧ Iq f es clock
theorem Im.keep {w w' : World} {b : Nat} {f : Int → Option Value} (h : Im w b f) (hb : w'.heap[b]? = w.heap[b]?) : Im w' b f := by
 obtain ⟨es, clock, h1, h2⟩ := h
 exact ⟨es, clock, hb.trans h1, h2⟩
theorem Im.lt {w : World} {b : Nat} {f : Int → Option Value} (h : Im w b f) : b < w.heap.size := by
 obtain ⟨es, clock, h1, h2⟩ := h
 exact (Array.getElem?_eq_some_iff.1 h1).1
theorem Im.below {w w' : World} {b B : Nat} {f : Int → Option Value} (h : Im w b f) (hb : Below B w w') (hB : b < B) : Im w' b f := h.keep (hb.block _ hB)
theorem Im.ext {w : World} {b : Nat} {f : Int → Option Value} (h : Im w b f) (x : Ext w) : Im x.w b f := h.below x.h h.lt
theorem Im.made (w : World) : Im (w.alloc (.map #[] 0)) w.heap.size (fun _ => none) := ⟨#[], 0, heap_alloc_new _ _, ⟨stamped_empty 0, by simp, by simp⟩⟩
theorem Im.wf {w : World} {b : Nat} {f : Int → Option Value} (h : Im w b f) {k : Int} {v : Value} (hk : f k = some v) : Ln k := by
 obtain ⟨es, clock, h1, h2⟩ := h
 obtain ⟨x, hx, e⟩ := h2.rest k v hk
 obtain ⟨k', w', e', _⟩ := h2.vals x hx
 rw [e] at e'
 have : k = k' := by simpa [kv] using e'
 rwa [this]
section
variable {P : Program} {kt t e : TypeId}
theorem jB (hk : P.underlying kt = some (.int .i64)) {k : Int} (h : Ln k) : keyOf P kt (kv k) = some (.int .i64 k) := Go.Maps.keyOf_int_mk hk h
theorem Iq.keys (hk : P.underlying kt = some (.int .i64)) {f : Int → Option Value} {es : Array MapEntry} {clock : Nat} (h : Iq f es clock) : ∀ x ∈ es.toList, ∃ l, keyOf P kt x.key = some l := by
 intro x hx
 obtain ⟨k, hw, e1, _⟩ := h.vals x hx
 rw [e1]
 exact ⟨_, jB hk hw⟩
theorem Im.o8 {w : World} {b : Nat} {f : Int → Option Value} (h : Im w b f) (hk : P.underlying kt = some (.int .i64)) (ht : P.underlying t = some (.map kt e)) {z : Value} (hz : (zeroValue e).run P w = .ok z w) {k : Int} (hw : Ln k) (hf : f k = none) (c : Bool) :
  (Instr.lookup t (.map (some b)) (kv k) c).run P w = .ok (if c then .tuple #[z, .bool false] else z) w := by
 obtain ⟨es, clock, hb, q⟩ := h
 rcases (Go.Maps.int_keyed hk).find w (jB hk hw) es.toList (q.keys hk) with ⟨h1, h2⟩ | ⟨j, e0, h1, h2, h3⟩
 ·simp [Instr.lookup, run_underlying ht, MapKept.run_getObj_map hb, (Go.Maps.int_keyed hk).check w _ (jB hk hw), h1, hz, Result.andThen]
 ·obtain ⟨k', _, e1, e2⟩ := q.vals e0 (List.mem_of_getElem? h2)
  have : k' = k := by rw [h3] at e1; exact (by simpa [kv] using e1.symm)
  rw [this, hf] at e2
  cases e2
theorem Im.jz {w : World} {b : Nat} {f : Int → Option Value} (h : Im w b f) (hk : P.underlying kt = some (.int .i64)) (ht : P.underlying t = some (.map kt e)) {k : Int} {v : Value} (hf : f k = some v) (c : Bool) :
  (Instr.lookup t (.map (some b)) (kv k) c).run P w = .ok (if c then .tuple #[v, .bool true] else v) w := by
 have hw := h.wf hf
 obtain ⟨es, clock, hb, q⟩ := h
 rcases (Go.Maps.int_keyed hk).find w (jB hk hw) es.toList (q.keys hk) with ⟨h1, h2⟩ | ⟨j, e0, h1, h2, h3⟩
 ·obtain ⟨x, hx, ex⟩ := q.rest k v hf
  exact absurd ex (h2 x hx)
 ·obtain ⟨k', _, e1, e2⟩ := q.vals e0 (List.mem_of_getElem? h2)
  have : k' = k := by rw [h3] at e1; exact (by simpa [kv] using e1.symm)
  rw [this, hf] at e2
  cases e2
  simp [Instr.lookup, run_underlying ht, MapKept.run_getObj_map hb, (Go.Maps.int_keyed hk).check w _ (jB hk hw), h1, Result.andThen]
def iT (f : Int → Option Value) (k : Int) (v : Value) : Int → Option Value := fun x => if x = k then some v else f x
theorem xI {l : List MapEntry} (h : l.Pairwise (fun x y => x.key ≠ y.key)) {i j : Nat} {a c : MapEntry} (hi : l[i]? = some a) (hj : l[j]? = some c) (hne : j ≠ i) : c.key ≠ a.key := by
 obtain ⟨hi', ei⟩ := List.getElem?_eq_some_iff.1 hi
 obtain ⟨hj', ej⟩ := List.getElem?_eq_some_iff.1 hj
 rw [← ei, ← ej]
 rcases Nat.lt_or_gt_of_ne hne with h1 | h1
 ·exact List.pairwise_iff_getElem.1 h j i hj' hi' h1
 ·exact fun e => List.pairwise_iff_getElem.1 h i j hi' hj' h1 e.symm
theorem Im.put {w : World} {b : Nat} {f : Int → Option Value} (h : Im w b f) (hk : P.underlying kt = some (.int .i64)) (ht : P.underlying t = some (.map kt e)) {k : Int} (hw : Ln k) (v : Value) :
  ∃ w', (Instr.mapUpdate t (.map (some b)) (kv k) v).run P w = .ok () w' ∧ Im w' b (iT f k v) ∧ w'.os = w.os ∧ w'.tape = w.tape ∧ w'.output = w.output ∧ w'.heap.size = w.heap.size ∧ ∀ i, i ≠ b → w'.heap[i]? = w.heap[i]? := by
 obtain ⟨es, clock, hb, q⟩ := h
 obtain ⟨s1, s2, s3⟩ := (stamped_iff es clock).1 q.stamped
 have K := Go.Maps.int_keyed (P := P) hk
 have hkey := jB hk hw
 rcases K.find w hkey es.toList (q.keys hk) with ⟨h1, h2⟩ | ⟨j, e0, h1, h2, h3⟩
 ·refine ⟨setBlock w b (.map (es.push ⟨kv k, v, clock⟩) (clock + 1)), ?_, ⟨_, _, heap_setBlock_same hb _, ⟨stamped_push q.stamped h2, fun x hx => ?_, fun k' v' hf' => ?_⟩⟩, rfl, rfl, rfl, by simp [setBlock], fun i hi => heap_setBlock_other hb _ hi⟩
  ·simp [Instr.mapUpdate, run_underlying ht, MapKept.run_getObj_map hb, K.check w false hkey, h1, MapKept.run_setObj_map _ hb, Result.andThen, setBlock]
  ·simp only [Array.toList_push, List.mem_append, List.mem_singleton] at hx
   rcases hx with hx | rfl
   ·obtain ⟨k', hk', e1, e2⟩ := q.vals x hx
    refine ⟨k', hk', e1, ?_⟩
    unfold iT
    rw [if_neg (fun e => h2 x hx (by rw [e1, e]))]
    exact e2
   ·exact ⟨k, hw, rfl, by simp [iT]⟩
  ·unfold iT at hf'
   by_cases he : k' = k
   ·exact ⟨⟨kv k, v, clock⟩, by simp, by simp [he]⟩
   ·rw [if_neg he] at hf'
    obtain ⟨x, hx, ex⟩ := q.rest k' v' hf'
    exact ⟨x, by simp only [Array.toList_push, List.mem_append]; exact .inl hx, ex⟩
 ·have hj : es[j]? = some e0 := by simpa using h2
  have hjl : j < es.toList.length := (List.getElem?_eq_some_iff.1 h2).1
  have LF : (es.modify j (fun e' => { e' with key := kv k, val := v })).toList = es.toList.set j { e0 with key := kv k, val := v } := by rw [Array.toList_modify, modify_eq_set _ _ _ _ h2]
  refine ⟨setBlock w b (.map (es.modify j (fun e' => { e' with key := kv k, val := v })) clock), ?_, ⟨_, _, heap_setBlock_same hb _, ⟨?_, fun x hx => ?_, fun k' v' hf' => ?_⟩⟩, rfl, rfl, rfl, by simp [setBlock], fun i hi => heap_setBlock_other hb _ hi⟩
  ·simp [Instr.mapUpdate, run_underlying ht, MapKept.run_getObj_map hb, K.check w false hkey, h1, hj, h3, K.stays w hkey, MapKept.run_setObj_map _ hb, Result.andThen, setBlock]
  ·exact stamped_modify q.stamped j _ (fun e _ => rfl) (fun e' _ he' => by rw [hj] at he'; cases he'; exact h3.symm)
  ·rw [LF] at hx
   obtain ⟨i, hi⟩ := List.mem_iff_getElem?.1 hx
   rw [List.getElem?_set] at hi
   by_cases e : j = i
   ·rw [if_pos e, if_pos abo] at hi
    cases hi
    exact ⟨k, hw, rfl, by simp [iT]⟩
   ·rw [if_neg e] at hi
    obtain ⟨k', hk', e1, e2⟩ := q.vals x (List.mem_of_getElem? hi)
    refine ⟨k', hk', e1, ?_⟩
    have hne : k' ≠ k := fun ee => by
     have := xI s3 h2 hi (fun e' => e e'.symm)
     rw [e1, ee, h3] at this
     exact this rfl
    simp [iT, hne, e2]
  ·unfold iT at hf'
   rw [LF]
   by_cases he : k' = k
   ·exact ⟨{ e0 with key := kv k, val := v }, List.mem_iff_getElem?.2 ⟨j, by rw [List.getElem?_set, if_pos rfl, if_pos hjl]⟩, by simp [he]⟩
   ·rw [if_neg he] at hf'
    obtain ⟨x, hx, ex⟩ := q.rest k' v' hf'
    obtain ⟨i, hi⟩ := List.mem_iff_getElem?.1 hx
    have hij : j ≠ i := fun e => by
     subst e
     rw [h2] at hi
     cases hi
     rw [h3] at ex
     exact he (by simpa [kv] using ex.symm)
    exact ⟨x, List.mem_iff_getElem?.2 ⟨i, by rw [List.getElem?_set, if_neg hij]; exact hi⟩, ex⟩
def Ir (w : World) (r b : Nat) (f : Int → Option Value) (left : List Int) : Prop :=
 ∃ es clock since seen c0, w.heap[r]? = some (.mapIter (some b) since seen c0) ∧ w.heap[b]? = some (.map es clock) ∧ Iq f es clock ∧ (∀ x ∈ es.toList, x.born < since) ∧ since ≤ c0 ∧ since ≤ clock ∧ left = (leftOf es seen).toList.map (fun x => valOf x.key)
theorem Ir.keep {w w' : World} {r b : Nat} {f : Int → Option Value} {left : List Int} (h : Ir w r b f left) (hr : w'.heap[r]? = w.heap[r]?) (hb : w'.heap[b]? = w.heap[b]?) : Ir w' r b f left := by
 obtain ⟨es, clock, since, seen, c0, h1, h2, h3⟩ := h
 exact ⟨es, clock, since, seen, c0, hr.trans h1, hb.trans h2, h3⟩
theorem Ir.im {w : World} {r b : Nat} {f : Int → Option Value} {left : List Int} (h : Ir w r b f left) : Im w b f := by
 obtain ⟨es, clock, since, seen, c0, h1, h2, h3, _⟩ := h
 exact ⟨es, clock, h2, h3⟩
theorem Ir.lt {w : World} {r b : Nat} {f : Int → Option Value} {left : List Int} (h : Ir w r b f left) : r < w.heap.size ∧ b < w.heap.size ∧ r ≠ b := by
 obtain ⟨es, clock, since, seen, c0, h1, h2, h3⟩ := h
 refine ⟨(Array.getElem?_eq_some_iff.1 h1).1, (Array.getElem?_eq_some_iff.1 h2).1, fun e => ?_⟩
 rw [e, h2] at h1
 cases h1
theorem Im.range {w : World} {b : Nat} {f : Int → Option Value} (h : Im w b f) (ht : P.underlying t = some (.map kt e)) :
  ∃ o left, (Instr.range t (.map (some b))).run P w = .ok (.pointer (some ⟨w.heap.size, 0, none⟩)) (w.alloc o) ∧ Ir (w.alloc o) w.heap.size b f left ∧ ∀ k v, f k = some v → k ∈ left := by
 have hlt := h.lt
 obtain ⟨es, clock, hb, q⟩ := h
 obtain ⟨s1, s2, s3⟩ := q.stamped
 refine ⟨_, _, run_range_map w t kt e b es clock ht hb, ⟨es, clock, clock, #[], clock, heap_alloc_new _ _, by rw [heap_alloc_old _ _ hlt]; exact hb, q, s1, Nat.le_refl _, Nat.le_refl _, rfl⟩, fun k v hf => ?_⟩
 obtain ⟨x, hx, ex⟩ := q.rest k v hf
 refine List.mem_map.2 ⟨x, ?_, by rw [ex]; rfl⟩
 unfold leftOf
 simp
 simpa using hx
theorem Ir.next {w : World} {r b : Nat} {f : Int → Option Value} {left : List Int} (h : Ir w r b f left) (ty : TypeId) :
  (left = [] ∧ (Instr.next (.pointer (some ⟨r, 0, none⟩)) false ty).run P w = .ok (.tuple #[.bool false]) w) ∨
  ∃ k v left' w', k ∈ left ∧ f k = some v ∧ left'.length < left.length ∧ (∀ x ∈ left, x = k ∨ x ∈ left') ∧ Ir w' r b f left' ∧ (Instr.next (.pointer (some ⟨r, 0, none⟩)) false ty).run P w = .ok (.tuple #[.bool true, kv k, v]) w' ∧ (Instr.entry (.pointer (some ⟨r, 0, none⟩))).run P w' = .ok (.tuple #[kv k, v]) w' ∧
   w'.os = w.os ∧ w'.tape = w.tape ∧ w'.output = w.output ∧ w'.heap.size = w.heap.size ∧ ∀ i, i ≠ r → w'.heap[i]? = w.heap[i]? := by
 have hne := h.lt
 obtain ⟨es, clock, since, seen, c0, h1, h2, q, hold, hsc, hcl, rfl⟩ := h
 have RH := q.stamped.2.1
 rcases run_next_at (P := P) w ty r b since c0 seen es clock h1 h2 hold hsc with ⟨h0, hrun⟩ | ⟨e0, he0, w1, hw1, hrun⟩
 ·left
  refine ⟨?_, hrun⟩
  have : leftOf es seen = #[] := Array.eq_empty_of_size_eq_zero h0
  rw [this]
  rfl
 ·right
  obtain ⟨m1, m2⟩ := mem_left he0
  obtain ⟨k, Wa, ek, ev⟩ := q.vals e0 m1
  have He : w1.heap = w.heap := by rcases hw1 with rfl | rfl <;> rfl
  have hr1 : (setBlock w1 r (.mapIter (some b) since (seen.push e0.born) clock)).heap[r]? = some (.mapIter (some b) since (seen.push e0.born) clock) := by
   simp [setBlock, He, hne.1]
  have ho1 : ∀ i, i ≠ r → (setBlock w1 r (.mapIter (some b) since (seen.push e0.born) clock)).heap[i]? = w.heap[i]? := fun i hi => by
   simp [setBlock, He, Array.getElem?_setIfInBounds, Ne.symm hi]
  have hb1 := (ho1 b (fun e => hne.2.2 e.symm)).trans h2
  refine ⟨k, e0.val, _, _, List.mem_map.2 ⟨e0, he0, by rw [ek]; rfl⟩, ev, ?_, fun x hx => ?_, ⟨es, clock, since, seen.push e0.born, clock, hr1, hb1, q, hold, hcl, hcl, rfl⟩, ?_, ?_, ?_, ?_, ?_, ?_, ho1⟩
  ·have := left_shrinks es seen e0 he0
   simpa using this
  ·obtain ⟨y, hy, rfl⟩ := List.mem_map.1 hx
   obtain ⟨y1, y2⟩ := mem_left hy
   by_cases Wo : y.born = e0.born
   ·left
    have f1 := find_born e0 es.toList RH m1
    have f2 := find_born y es.toList RH y1
    rw [Wo, f1] at f2
    cases f2
    rw [ek]; rfl
   ·right
    refine List.mem_map.2 ⟨y, ?_, rfl⟩
    unfold leftOf
    simp only [Array.mem_toList_iff, Array.mem_filter]
    refine ⟨by simpa using y1, ?_⟩
    rw [contains_push, y2]
    simpa using Wo
  ·rw [hrun, ek]
  ·rw [run_entry_at (P := P) _ r b since seen es clock e0 hr1 hb1 m1 RH, ek]
  ·rcases hw1 with rfl | rfl <;> rfl
  ·rcases hw1 with rfl | rfl <;> rfl
  ·rcases hw1 with rfl | rfl <;> rfl
  ·simp [setBlock, He]
end
theorem own : ownKnob Tryz.prog.godebug = none := by kernel_rfl
theorem laidOut : laidOutB Tryz.prog = true := by kernel_rfl
theorem mL {w : World} {a : Addr} {v : Value} (h : w.cell? a = some v) : a.block < w.heap.size := by
 rcases Nat.lt_or_ge a.block w.heap.size with h' | h'
 ·exact h'
 ·unfold World.cell? at h
  rw [Array.getElem?_eq_none h'] at h
  cases h
def jY (w : World) (B : Nat) (v : Value) (len c : Nat) (R : Nat → List Value → Prop) : Prop :=
 ∃ A cap, v = .slice A len cap ∧ len ≤ cap ∧ cap ≤ maxLen ∧ (0 < len → ∃ b off, A = some ⟨b, off, none⟩ ∧ b < B ∧ ∀ i, i < len → ∃ cs, R i cs ∧ cs.length = c ∧ ∀ j, j < c → w.cell? ⟨b, off + (i * c + j), none⟩ = cs[j]?)
theorem jY.keep {w w' : World} {B len c : Nat} {v : Value} {R : Nat → List Value → Prop} (h : jY w B v len c R) (hb : Below B w w') : jY w' B v len c R := by
 obtain ⟨A, cap, hv, h1, h2, hc⟩ := h
 refine ⟨A, cap, hv, h1, h2, fun h0 => ?_⟩
 obtain ⟨b, off, ha, hlt, hx⟩ := hc h0
 refine ⟨b, off, ha, hlt, fun i hi => ?_⟩
 obtain ⟨cs, r, hl, hj⟩ := hx i hi
 exact ⟨cs, r, hl, fun j LH => (hb.cell (p := ⟨b, off + (i * c + j), none⟩) hlt).trans (hj j LH)⟩
theorem jY.mono {w : World} {B len c : Nat} {v : Value} {R R' : Nat → List Value → Prop} (h : jY w B v len c R) (hr : ∀ i cs, i < len → cs.length = c → R i cs → R' i cs) : jY w B v len c R' := by
 obtain ⟨A, cap, hv, h1, h2, hc⟩ := h
 refine ⟨A, cap, hv, h1, h2, fun h0 => ?_⟩
 obtain ⟨b, off, ha, hlt, hx⟩ := hc h0
 refine ⟨b, off, ha, hlt, fun i hi => ?_⟩
 obtain ⟨cs, r, hl, hj⟩ := hx i hi
 exact ⟨cs, hr i cs hi hl r, hl, hj⟩
section
variable {H : Type} {enc : TypeId × Value → H} {P : Program} {w : World} {base : Nat} {spare : Nat → Bool} {held : Bool}
end
def jq (b : Bool) : Int := if b then 1 else 0
def wv (op x y : Int) : Int :=
 if op = 6 then wrap32 (x + y) else if op = 7 then wrap32 (x - y) else if op = 8 then wrap32 (x * y)
 else if op = 9 then (if y = 0 then 0 else wrap32 (x.tdiv y)) else if op = 10 then (if y = 0 then 0 else x.tmod y)
 else if op = 11 then bits .and .i32 x y else if op = 12 then bits .or .i32 x y else if op = 13 then bits .xor .i32 x y
 else if op = 14 then wrap32 (x * 2 ^ (y % 32).toNat) else if op = 15 then x / 2 ^ (y % 32).toNat
 else if op = 16 then jq (x == y) else if op = 17 then jq (x != y) else if op = 18 then jq (decide (x < y)) else if op = 19 then jq (decide (x ≤ y))
 else if op = 20 then jq (decide (y < x)) else if op = 21 then jq (decide (y ≤ x)) else if op = 22 then jq (x != 0 && y != 0) else if op = 23 then jq (x != 0 || y != 0) else 0
def we (op y : Int) : Int := if 6 ≤ op ∧ op ≤ 23 then (if (op = 9 ∨ op = 10) ∧ y = 0 then 9 else 0) else 1
def aP (x : Int) : Prop := -2147483648 ≤ x ∧ x ≤ 2147483647
theorem dD (b : Bool) (w : World) : Calls Tryz.prog 102 #[.bool b] w fun e w' => e = .returned (.int .i32 (jq b)) ∧ w = w' := by
 cases b
 all_goals
  go_enter Tryz.func102, Tryz.ntmps102
  go_wp2
  go_ret
  exact ⟨rfl, rfl⟩
theorem Fp (x y : Int) (w : World) (hx : aP x) (hy : aP y) :
  Calls Tryz.prog 74 #[.int .u8 6, .int .i32 x, .int .i32 y] w fun e w' => e = .returned (.tuple #[.int .i32 (wrap32 (x + y)), .int .i64 0]) ∧ w = w' := by
 obtain ⟨hx1, hx2⟩ := hx
 obtain ⟨hy1, hy2⟩ := hy
 go_enter Tryz.func74, Tryz.ntmps74
 go_wp2
 go_ret2
 exact ⟨rfl, rfl⟩
theorem Fo (x y : Int) (w : World) (hx : aP x) (hy : aP y) :
  Calls Tryz.prog 74 #[.int .u8 7, .int .i32 x, .int .i32 y] w fun e w' => e = .returned (.tuple #[.int .i32 (wrap32 (x - y)), .int .i64 0]) ∧ w = w' := by
 obtain ⟨hx1, hx2⟩ := hx
 obtain ⟨hy1, hy2⟩ := hy
 go_enter Tryz.func74, Tryz.ntmps74
 go_wp2
 go_ret2
 exact ⟨rfl, rfl⟩
theorem Fl (x y : Int) (w : World) (hx : aP x) (hy : aP y) :
  Calls Tryz.prog 74 #[.int .u8 8, .int .i32 x, .int .i32 y] w fun e w' => e = .returned (.tuple #[.int .i32 (wrap32 (x * y)), .int .i64 0]) ∧ w = w' := by
 obtain ⟨hx1, hx2⟩ := hx
 obtain ⟨hy1, hy2⟩ := hy
 go_enter Tryz.func74, Tryz.ntmps74
 go_wp2
 go_ret2
 exact ⟨rfl, rfl⟩
theorem tK (x : Int) (w : World) :
  Calls Tryz.prog 74 #[.int .u8 9, .int .i32 x, .int .i32 0] w fun e w' => e = .returned (.tuple #[.int .i32 0, .int .i64 9]) ∧ w = w' := by
 go_enter Tryz.func74, Tryz.ntmps74
 go_wp2
 go_ret2
 exact ⟨rfl, rfl⟩
theorem Fk (x y : Int) (w : World) (hx : aP x) (hy : aP y) (h0 : ¬ y = 0) :
  Calls Tryz.prog 74 #[.int .u8 9, .int .i32 x, .int .i32 y] w fun e w' => e = .returned (.tuple #[.int .i32 (wrap32 (x.tdiv y)), .int .i64 0]) ∧ w = w' := by
 obtain ⟨hx1, hx2⟩ := hx
 obtain ⟨hy1, hy2⟩ := hy
 go_enter Tryz.func74, Tryz.ntmps74
 go_wp2
 go_ret2
 exact ⟨rfl, rfl⟩
theorem qH (x : Int) (w : World) :
  Calls Tryz.prog 74 #[.int .u8 10, .int .i32 x, .int .i32 0] w fun e w' => e = .returned (.tuple #[.int .i32 0, .int .i64 9]) ∧ w = w' := by
 go_enter Tryz.func74, Tryz.ntmps74
 go_wp2
 go_ret2
 exact ⟨rfl, rfl⟩
theorem Cp (x y : Int) (w : World) (hx : aP x) (hy : aP y) (h0 : ¬ y = 0) :
  Calls Tryz.prog 74 #[.int .u8 10, .int .i32 x, .int .i32 y] w fun e w' => e = .returned (.tuple #[.int .i32 (x.tmod y), .int .i64 0]) ∧ w = w' := by
 obtain ⟨hx1, hx2⟩ := hx
 obtain ⟨hy1, hy2⟩ := hy
 go_enter Tryz.func74, Tryz.ntmps74
 go_wp2
 go_ret2
 exact ⟨rfl, rfl⟩
theorem Co (x y : Int) (w : World) (hx : aP x) (hy : aP y) :
  Calls Tryz.prog 74 #[.int .u8 11, .int .i32 x, .int .i32 y] w fun e w' => e = .returned (.tuple #[.int .i32 (bits .and .i32 x y), .int .i64 0]) ∧ w = w' := by
 obtain ⟨hx1, hx2⟩ := hx
 obtain ⟨hy1, hy2⟩ := hy
 go_enter Tryz.func74, Tryz.ntmps74
 go_wp2
 go_ret2
 exact ⟨rfl, rfl⟩
theorem Cn (x y : Int) (w : World) (hx : aP x) (hy : aP y) :
  Calls Tryz.prog 74 #[.int .u8 12, .int .i32 x, .int .i32 y] w fun e w' => e = .returned (.tuple #[.int .i32 (bits .or .i32 x y), .int .i64 0]) ∧ w = w' := by
 obtain ⟨hx1, hx2⟩ := hx
 obtain ⟨hy1, hy2⟩ := hy
 go_enter Tryz.func74, Tryz.ntmps74
 go_wp2
 go_ret2
 exact ⟨rfl, rfl⟩
theorem Cm (x y : Int) (w : World) (hx : aP x) (hy : aP y) :
  Calls Tryz.prog 74 #[.int .u8 13, .int .i32 x, .int .i32 y] w fun e w' => e = .returned (.tuple #[.int .i32 (bits .xor .i32 x y), .int .i64 0]) ∧ w = w' := by
 obtain ⟨hx1, hx2⟩ := hx
 obtain ⟨hy1, hy2⟩ := hy
 go_enter Tryz.func74, Tryz.ntmps74
 go_wp2
 go_ret2
 exact ⟨rfl, rfl⟩
theorem Cl (x y : Int) (w : World) (hx : aP x) (hy : aP y) :
  Calls Tryz.prog 74 #[.int .u8 14, .int .i32 x, .int .i32 y] w fun e w' => e = .returned (.tuple #[.int .i32 (wrap32 (x * 2 ^ (y % 32).toNat)), .int .i64 0]) ∧ w = w' := by
 obtain ⟨hx1, hx2⟩ := hx
 obtain ⟨hy1, hy2⟩ := hy
 go_enter Tryz.func74, Tryz.ntmps74
 go_wp2
 go_ret2
 exact ⟨rfl, rfl⟩
theorem Ck (x y : Int) (w : World) (hx : aP x) (hy : aP y) :
  Calls Tryz.prog 74 #[.int .u8 15, .int .i32 x, .int .i32 y] w fun e w' => e = .returned (.tuple #[.int .i32 (x / 2 ^ (y % 32).toNat), .int .i64 0]) ∧ w = w' := by
 obtain ⟨hx1, hx2⟩ := hx
 obtain ⟨hy1, hy2⟩ := hy
 go_enter Tryz.func74, Tryz.ntmps74
 go_wp2
 go_ret2
 exact ⟨rfl, rfl⟩
theorem Cj (x y : Int) (w : World) :
  Calls Tryz.prog 74 #[.int .u8 16, .int .i32 x, .int .i32 y] w fun e w' => e = .returned (.tuple #[.int .i32 (jq (x == y)), .int .i64 0]) ∧ w = w' := by
 go_enter Tryz.func74, Tryz.ntmps74
 go_wp2_with fail
 refine (dD _ _).mono ?_
 rintro e _ ⟨rfl, rfl⟩
 go_wp2
 go_ret2
 exact ⟨rfl, rfl⟩
theorem Ci (x y : Int) (w : World) :
  Calls Tryz.prog 74 #[.int .u8 17, .int .i32 x, .int .i32 y] w fun e w' => e = .returned (.tuple #[.int .i32 (jq (x != y)), .int .i64 0]) ∧ w = w' := by
 go_enter Tryz.func74, Tryz.ntmps74
 go_wp2_with fail
 refine (dD _ _).mono ?_
 rintro e _ ⟨rfl, rfl⟩
 go_wp2
 go_ret2
 exact ⟨rfl, rfl⟩
theorem Ch (x y : Int) (w : World) :
  Calls Tryz.prog 74 #[.int .u8 18, .int .i32 x, .int .i32 y] w fun e w' => e = .returned (.tuple #[.int .i32 (jq (decide (x < y))), .int .i64 0]) ∧ w = w' := by
 go_enter Tryz.func74, Tryz.ntmps74
 go_wp2_with fail
 refine (dD _ _).mono ?_
 rintro e _ ⟨rfl, rfl⟩
 go_wp2
 go_ret2
 exact ⟨rfl, rfl⟩
theorem Cg (x y : Int) (w : World) :
  Calls Tryz.prog 74 #[.int .u8 19, .int .i32 x, .int .i32 y] w fun e w' => e = .returned (.tuple #[.int .i32 (jq (decide (x ≤ y))), .int .i64 0]) ∧ w = w' := by
 go_enter Tryz.func74, Tryz.ntmps74
 go_wp2_with fail
 refine (dD _ _).mono ?_
 rintro e _ ⟨rfl, rfl⟩
 go_wp2
 go_ret2
 exact ⟨rfl, rfl⟩
theorem Cf (x y : Int) (w : World) :
  Calls Tryz.prog 74 #[.int .u8 20, .int .i32 x, .int .i32 y] w fun e w' => e = .returned (.tuple #[.int .i32 (jq (decide (y < x))), .int .i64 0]) ∧ w = w' := by
 go_enter Tryz.func74, Tryz.ntmps74
 go_wp2_with fail
 refine (dD _ _).mono ?_
 rintro e _ ⟨rfl, rfl⟩
 go_wp2
 go_ret2
 exact ⟨rfl, rfl⟩
theorem Ce (x y : Int) (w : World) :
  Calls Tryz.prog 74 #[.int .u8 21, .int .i32 x, .int .i32 y] w fun e w' => e = .returned (.tuple #[.int .i32 (jq (decide (y ≤ x))), .int .i64 0]) ∧ w = w' := by
 go_enter Tryz.func74, Tryz.ntmps74
 go_wp2_with fail
 refine (dD _ _).mono ?_
 rintro e _ ⟨rfl, rfl⟩
 go_wp2
 go_ret2
 exact ⟨rfl, rfl⟩
theorem Cc (x y : Int) (w : World) :
  Calls Tryz.prog 74 #[.int .u8 22, .int .i32 x, .int .i32 y] w fun e w' => e = .returned (.tuple #[.int .i32 (jq (x != 0 && y != 0)), .int .i64 0]) ∧ w = w' := by
 by_cases hx : x = 0
 ·subst hx
  by_cases hy : y = 0
  ·subst hy
   go_enter Tryz.func74, Tryz.ntmps74
   go_wp2_with fail
   refine (dD _ _).mono ?_
   rintro e _ ⟨rfl, rfl⟩
   go_wp2
   go_ret2
   exact ⟨rfl, rfl⟩
  ·have hy' : (y != 0) = true := by simpa using hy
   go_enter Tryz.func74, Tryz.ntmps74
   go_wp2_with fail
   refine (dD _ _).mono ?_
   rintro e _ ⟨rfl, rfl⟩
   go_wp2
   go_ret2
   exact ⟨by simp [hy'], rfl⟩
 ·have hx' : (x != 0) = true := by simpa using hx
  go_enter Tryz.func74, Tryz.ntmps74
  go_wp2_with fail
  refine (dD _ _).mono ?_
  rintro e _ ⟨rfl, rfl⟩
  go_wp2
  go_ret2
  exact ⟨by simp [hx'], rfl⟩
theorem Cb (x y : Int) (w : World) :
  Calls Tryz.prog 74 #[.int .u8 23, .int .i32 x, .int .i32 y] w fun e w' => e = .returned (.tuple #[.int .i32 (jq (x != 0 || y != 0)), .int .i64 0]) ∧ w = w' := by
 by_cases hx : x = 0
 ·subst hx
  by_cases hy : y = 0
  ·subst hy
   go_enter Tryz.func74, Tryz.ntmps74
   go_wp2_with fail
   refine (dD _ _).mono ?_
   rintro e _ ⟨rfl, rfl⟩
   go_wp2
   go_ret2
   exact ⟨rfl, rfl⟩
  ·have hy' : (y != 0) = true := by simpa using hy
   go_enter Tryz.func74, Tryz.ntmps74
   go_wp2_with fail
   refine (dD _ _).mono ?_
   rintro e _ ⟨rfl, rfl⟩
   go_wp2
   go_ret2
   exact ⟨by simp [hy'], rfl⟩
 ·have hx' : (x != 0) = true := by simpa using hx
  go_enter Tryz.func74, Tryz.ntmps74
  go_wp2_with fail
  refine (dD _ _).mono ?_
  rintro e _ ⟨rfl, rfl⟩
  go_wp2
  go_ret2
  exact ⟨by simp [hx'], rfl⟩
theorem yU (op x y : Int) (w : World) (hop : ¬ (6 ≤ op ∧ op ≤ 23)) :
  Calls Tryz.prog 74 #[.int .u8 op, .int .i32 x, .int .i32 y] w fun e w' => e = .returned (.tuple #[.int .i32 0, .int .i64 1]) ∧ w = w' := by
 have n6 : (op == 6) = false := by simp; omega
 have n7 : (op == 7) = false := by simp; omega
 have n8 : (op == 8) = false := by simp; omega
 have n9 : (op == 9) = false := by simp; omega
 have n10 : (op == 10) = false := by simp; omega
 have n11 : (op == 11) = false := by simp; omega
 have n12 : (op == 12) = false := by simp; omega
 have n13 : (op == 13) = false := by simp; omega
 have n14 : (op == 14) = false := by simp; omega
 have n15 : (op == 15) = false := by simp; omega
 have n16 : (op == 16) = false := by simp; omega
 have n17 : (op == 17) = false := by simp; omega
 have n18 : (op == 18) = false := by simp; omega
 have n19 : (op == 19) = false := by simp; omega
 have n20 : (op == 20) = false := by simp; omega
 have n21 : (op == 21) = false := by simp; omega
 have n22 : (op == 22) = false := by simp; omega
 have n23 : (op == 23) = false := by simp; omega
 clear hop
 go_enter Tryz.func74, Tryz.ntmps74
 go_wp2
 go_ret2
 exact ⟨rfl, rfl⟩
theorem qG (op x y : Int) (w : World) (hx : aP x) (hy : aP y) :
  Calls Tryz.prog 74 #[.int .u8 op, .int .i32 x, .int .i32 y] w fun e w' => e = .returned (.tuple #[.int .i32 (wv op x y), .int .i64 (we op y)]) ∧ w = w' := by
 by_cases hop : 6 ≤ op ∧ op ≤ 23
 ·have h : op = 6 ∨ op = 7 ∨ op = 8 ∨ op = 9 ∨ op = 10 ∨ op = 11 ∨ op = 12 ∨ op = 13 ∨ op = 14 ∨ op = 15 ∨ op = 16 ∨ op = 17 ∨ op = 18 ∨ op = 19 ∨ op = 20 ∨ op = 21 ∨ op = 22 ∨ op = 23 := by omega
  rcases h with rfl | rfl | rfl | rfl | rfl | rfl | rfl | rfl | rfl | rfl | rfl | rfl | rfl | rfl | rfl | rfl | rfl | rfl
  ·exact Fp x y w hx hy
  ·exact Fo x y w hx hy
  ·exact Fl x y w hx hy
  ·by_cases h0 : y = 0
   ·subst h0
    exact tK x w
   ·refine (Fk x y w hx hy h0).mono fun e w' ⟨he, hw⟩ => ⟨?_, hw⟩
    rw [he]
    simp [wv, we, h0]
  ·by_cases h0 : y = 0
   ·subst h0
    exact qH x w
   ·refine (Cp x y w hx hy h0).mono fun e w' ⟨he, hw⟩ => ⟨?_, hw⟩
    rw [he]
    simp [wv, we, h0]
  ·exact Co x y w hx hy
  ·exact Cn x y w hx hy
  ·exact Cm x y w hx hy
  ·exact Cl x y w hx hy
  ·exact Ck x y w hx hy
  ·exact Cj x y w
  ·exact Ci x y w
  ·exact Ch x y w
  ·exact Cg x y w
  ·exact Cf x y w
  ·exact Ce x y w
  ·exact Cc x y w
  ·exact Cb x y w
 ·refine (yU op x y w hop).mono fun e w' ⟨he, hw⟩ => ⟨?_, hw⟩
  rw [he]
  have e1 : wv op x y = 0 := by
   unfold wv
   iterate 18 rw [if_neg abo]
  have e2 : we op y = 1 := by unfold we; rw [if_neg hop]
  rw [e1, e2]
theorem au {w : World} {b : Nat} {cs : List Value} {t : TypeId} {fr : Nat × Nat} (h : w.heap[b]? = some (.cells cs.toArray t fr)) : w.rangeAt b 0 cs := fun j v hv => by
 simp [World.cell?, h, hv]
theorem iE {P : Program} (w : World) (b o : Nat) : (asAddr (.pointer (some ⟨b, o, none⟩))).run P w = .ok ⟨b, o, none⟩ w := by simp [asAddr]
theorem results_cell_tmp {P : Program} {fn : Func} {a u : Tmp} {ty : TypeId} (h : fn.results = #[.cell a ty, .tmp u]) (tmps : Array Value) (w : World) (b : Nat) (cs : List Value) (d : TypeDesc) (ha : tmps.getD a undef = .pointer (some ⟨b, 0, none⟩)) (hc : w.rangeAt b 0 cs)
  (hu : P.underlying ty = some d) (hd : d.isRow = true) (hi : (P.info? ty).map (·.size) = some cs.length) : (results fn tmps).run P w = .ok (.tuple #[.agg cs.toArray, tmps.getD u undef]) w := by
 have h1 := run_loadVar_mid (P := P) w b 0 ty cs d hc hu hd hi
 simp only [results, h]
 simp only [List.mapM_toArray, List.mapM_cons, List.mapM_nil, ha, Sem.run_bind, Sem.run_pure, iE, Result.andThen_ok, h1, Sem.run_map, pure_bind, bind_pure]
 simp [h1, iE]
theorem eH {P : Program} {fn : Func} {a : Tmp} {ty : TypeId} (h : fn.results = #[.cell a ty]) (tmps : Array Value) (w : World) (b : Nat) (cs : List Value) (d : TypeDesc) (ha : tmps.getD a undef = .pointer (some ⟨b, 0, none⟩)) (hc : w.rangeAt b 0 cs)
  (hu : P.underlying ty = some d) (hd : d.isRow = true) (hi : (P.info? ty).map (·.size) = some cs.length) : (results fn tmps).run P w = .ok (.agg cs.toArray) w := by
 have h1 := run_loadVar_mid (P := P) w b 0 ty cs d hc hu hd hi
 have ha' : tmps[a]?.getD undef = .pointer (some ⟨b, 0, none⟩) := by simpa using ha
 simp only [results, h]
 simp [ha', h1, iE]
end
end Go.Proofs.YtebklpnkcicpjaaGreatDoor
