/-
  What is proved here: a law that any program may use: a region that draws its order: some operations have been taken, those of a list 'hs' are quiet in a class of worlds, those of a list 'ts' wait for all of them and for each other: one walk serves every order.
-/
import Derived.Test.YtekdjjfbkcgmhaaQTail2
namespace Go.Proofs.Ytekdjjfbkcgmhaa
open Go.RowKit

section
variable {P : Program} {ops : Array Oper} {md : Region.Mode} {C : World → Prop}

def sinkO (md : Region.Mode) (ops : Array Oper) (t0 : Nat) : List Nat → Bool
  | [] => true
  | i :: hs => (hs ++ [t0]).any (fun j => Region.waitsFor md ops j i) && sinkO md ops t0 hs
def chainO (md : Region.Mode) (ops : Array Oper) : Nat → List Nat → Bool
  | _, [] => true
  | t, t' :: ts => Region.waitsFor md ops t' t && chainO md ops t' ts
theorem chainO_spec : ∀ (ts : List Nat) (t0 t : Nat), chainO md ops t0 ts = true → t ∈ ts → ∃ t', t' ∈ t0 :: ts ∧ Region.waitsFor md ops t t' = true
  | [], _, _, _, h => by cases h
  | a :: ts, t0, t, hc, h => by
    simp only [chainO, Bool.and_eq_true] at hc
    rcases List.mem_cons.1 h with rfl | h
    · exact ⟨t0, by simp, hc.1⟩
    · obtain ⟨t', h1, h2⟩ := chainO_spec ts a t hc.2 h
      exact ⟨t', List.mem_cons_of_mem _ h1, h2⟩
structure HeadO (md : Region.Mode) (ops : Array Oper) (hs : List Nat) (t0 : Nat) (ts : List Nat) (listed : Array Bool) : Prop where
  size : listed.size = ops.size
  closed : ∀ j oj, ops[j]? = some oj → listed.getD j false = true → ∀ e ∈ oj.after, Region.binds md e = true → listed.getD e.on false = true
  tail : ∀ t, t ∈ t0 :: ts → listed.getD t true = false
  rest : ∀ i, i < ops.size → i ∉ hs → i ∉ t0 :: ts → listed.getD i true = true
def invO (md : Region.Mode) (ops : Array Oper) (hs : List Nat) (t0 : Nat) (ts : List Nat) (listed : Array Bool) : Bool :=
  decide (listed.size = ops.size) && ((List.range ops.size).all fun j => !(listed.getD j false) || (match ops[j]? with | some oj => oj.after.all fun e => !(Region.binds md e) || listed.getD e.on false | none => true)) &&
  ((t0 :: ts).all fun t => !(listed.getD t true)) && ((List.range ops.size).all fun i => hs.contains i || (t0 :: ts).contains i || listed.getD i true)
theorem invO_spec {hs ts : List Nat} {t0 : Nat} {listed : Array Bool} (h : invO md ops hs t0 ts listed = true) : HeadO md ops hs t0 ts listed := by
  simp only [invO, Bool.and_eq_true, decide_eq_true_eq, List.all_eq_true, List.mem_range] at h
  obtain ⟨⟨⟨h1, h2⟩, h3⟩, h4⟩ := h
  refine ⟨h1, fun j oj hj hl e he hb => ?_, fun t ht => by simpa using h3 t ht, fun i hi n1 n2 => ?_⟩
  · have := h2 j (Array.getElem?_eq_some_iff.1 hj).1
    rw [hl, hj] at this
    simp only [Bool.not_true, Bool.false_or, Array.all_eq_true'] at this
    have h6 := this e he
    rw [hb] at h6
    simpa using h6
  · have := h4 i hi
    simp only [Bool.or_eq_true, List.contains_iff_mem] at this
    rcases this with (h | h) | h
    · exact absurd h n1
    · exact absurd h n2
    · exact h
/-- While an operation of the head is still to come, no one of the tail comes up. -/
theorem tail_waitsO {t0 : Nat} {ts hs0 : List Nat} {listed : Array Bool} (hc : chainO md ops t0 ts = true) (inv : HeadO md ops hs0 t0 ts listed) :
    ∀ (hs : List Nat), sinkO md ops t0 hs = true → (∀ i ∈ hs, i < ops.size) → ∀ i ∈ hs, listed.getD i true = false → ∀ t, t ∈ t0 :: ts → t ∉ Region.ready md ops listed
  | [], _, _, _, h, _, _, _ => by cases h
  | a :: hs, hk, hlt, i, hi, hun, t, ht => by
    simp only [sinkO, Bool.and_eq_true] at hk
    rcases List.mem_cons.1 hi with rfl | hi
    · intro hr
      obtain ⟨_, ot, hot, hall⟩ := mem_ready.1 hr
      rcases List.mem_cons.1 ht with rfl | ht'
      · obtain ⟨j, hj, hw⟩ := List.any_eq_true.1 hk.1
        obtain ⟨oj, hoj, e, he, hb, hon⟩ := Region.waitsFor_spec hw
        rcases List.mem_append.1 hj with hj | hj
        · cases hl : listed.getD j false with
          | true =>
            have h2 := inv.closed j oj hoj hl e he hb
            rw [hon, getD_both hun] at h2
            cases h2
          | false =>
            have hjs : j < listed.size := by rw [inv.size]; exact hlt j (List.mem_cons_of_mem _ hj)
            exact tail_waitsO hc inv hs hk.2 (fun i hi => hlt i (List.mem_cons_of_mem _ hi)) j hj (getD_in hjs hl) t ht hr
        · have : j = t := by simpa using hj
          subst this
          have : oj = ot := Option.some.inj (hoj.symm.trans hot)
          subst this
          have h2 := hall e he hb
          rw [hon, getD_both hun] at h2
          cases h2
      · obtain ⟨t', h1, h2⟩ := chainO_spec ts t0 t hc ht'
        obtain ⟨o', ho', e, he, hb, hon⟩ := Region.waitsFor_spec h2
        have : o' = ot := Option.some.inj (ho'.symm.trans hot)
        subst this
        have h3 := hall e he hb
        rw [hon, getD_both (inv.tail t' h1)] at h3
        cases h3
    · exact tail_waitsO hc inv hs hk.2 (fun i hi => hlt i (List.mem_cons_of_mem _ hi)) i hi hun t ht
theorem HeadO.set {hs ts : List Nat} {t0 i : Nat} {listed : Array Bool} (inv : HeadO md ops hs t0 ts listed) (hi : i ∈ Region.ready md ops listed) (hin : i ∉ t0 :: ts) : HeadO md ops hs t0 ts (listed.setIfInBounds i true) := by
  obtain ⟨_, oi, hoi, hall⟩ := mem_ready.1 hi
  refine ⟨by simp [inv.size], fun j oj hj hl e he hb => ?_, fun t ht => (by
    have hne : i ≠ t := fun h => hin (by rw [h]; exact ht)
    rw [getD_set_ne true hne]; exact inv.tail t ht), fun t ht n1 n2 => ?_⟩
  · by_cases hij : i = j
    · subst hij
      have : oj = oi := Option.some.inj (hj.symm.trans hoi)
      subst this
      exact getD_set_true (hall e he hb)
    · rw [getD_set_ne false hij] at hl
      exact getD_set_true (inv.closed j oj hj hl e he hb)
  · by_cases h : i = t
    · subst h
      simp [inv.size, ht]
    · rw [getD_set_ne true h]; exact inv.rest t ht n1 n2
/-- The operations of the head, in whatever order; 'L' is asked behind them. -/
def headO (P : Program) (md : Region.Mode) (ops : Array Oper) (C : World → Prop) (L : Array Bool → Act → Prop) : Nat → Array Bool → Act → Prop
  | 0, listed, a => L listed a
  | f + 1, listed, a =>
    Region.ready md ops listed ≠ [] ∧ ∀ i ∈ Region.ready md ops listed, qOp P ops C i (headO P md ops C L f (listed.setIfInBounds i true)) a
theorem wpAny_of_headO {g : Nat} {L : Array Bool → Act → Prop} {Q' : Exit → Act → World → Prop} (hL : ∀ listed a w, C w → L listed a → wpAny P md ops Q' g listed a w) :
    ∀ (f : Nat) (listed : Array Bool) (a : Act) (w : World), C w → headO P md ops C L f listed a → wpAny P md ops Q' (f + g) listed a w
  | 0, _, _, _, hw, h => by rw [Nat.zero_add]; exact hL _ _ _ hw h
  | f + 1, _, _, _, hw, h => by
    rw [show f + 1 + g = (f + g) + 1 by omega]
    exact ⟨fun h0 => absurd h0 h.1, fun i hi => wpOp_of_qOp hw (fun a' w' hw' h' => wpAny_of_headO hL f _ a' w' hw' h') (h.2 i hi)⟩
theorem headO_first {hs ts : List Nat} {t0 i : Nat} {oi : Oper} {v : Value} {L : Array Bool → Act → Prop} (hi : ops[i]? = some oi) (hsel : ∀ (j : Nat) (o : Oper) cs b, ops[j]? = some o → o.op ≠ .select cs b)
    (hk : sinkO md ops t0 hs = true) (hc : chainO md ops t0 ts = true) (hlt : ∀ i ∈ hs, i < ops.size) (hin : i ∈ hs)
    (hdone : ∀ listed a, L listed a → ∀ j ∈ Region.ready md ops listed, j ∈ t0 :: ts) :
    ∀ (f : Nat) (listed : Array Bool) (a : Act), HeadO md ops hs t0 ts listed →
      (∀ j oj, ops[j]? = some oj → j ≠ i → listed.getD j true = false → (∀ e ∈ oj.after, Region.binds md e = true → e.on ≠ i) → oi.apart ops oj = true) →
      i ∈ Region.ready md ops listed → YieldsIn P ops C oi v a →
      headO P md ops C L f (listed.setIfInBounds i true) (a.put oi.dst v) → headO P md ops C L (f + 1) listed a := by
  intro f
  induction f with
  | zero =>
    intro listed a inv _ hr hy H
    have hun := (mem_ready.1 hr).1
    refine ⟨fun h => (by rw [h] at hr; cases hr), fun j hj => ?_⟩
    have hjn : j ∉ t0 :: ts := fun h => tail_waitsO hc inv hs hk hlt i hin hun j h hj
    by_cases hji : j = i
    · subst hji; exact hy.qOp hi H
    · exact absurd (hdone _ _ H j (ready_mono hj hji)) hjn
  | succ f ih =>
    intro listed a inv hfree hr hy H
    have hun := (mem_ready.1 hr).1
    refine ⟨fun h => (by rw [h] at hr; cases hr), fun j hj => ?_⟩
    have hjn : j ∉ t0 :: ts := fun h => tail_waitsO hc inv hs hk hlt i hin hun j h hj
    by_cases hji : j = i
    · subst hji; exact hy.qOp hi H
    · have h1 := H.2 j (ready_mono hj hji)
      obtain ⟨hjun, oj, hoj, hall⟩ := mem_ready.1 hj
      have hnot : ∀ e ∈ oj.after, Region.binds md e = true → e.on ≠ i := fun e he hb heq => by
        have h1 := hall e he hb
        rw [heq, getD_both hun] at h1
        cases h1
      have h2 := qOp_put hoj (hfree j oj hoj hji hjun hnot) (fun cs b => hsel i oi cs b hi) (fun cs b => hsel j oj cs b hoj) hy h1
      have hfree' : ∀ k ok, ops[k]? = some ok → k ≠ i → (listed.setIfInBounds j true).getD k true = false →
          (∀ e ∈ ok.after, Region.binds md e = true → e.on ≠ i) → oi.apart ops ok = true := fun k ok hk hki hun hno => by
        refine hfree k ok hk hki ?_ hno
        by_cases hjk : j = k
        · subst hjk; exact hjun
        · rw [getD_set_ne true hjk] at hun; exact hun
      refine qOp_mono (fun a' h3 => ih (listed.setIfInBounds j true) a' (inv.set hj hjn) hfree' (ready_mono hr (Ne.symm hji)) h3.1 ?_) h2
      rw [Array.setIfInBounds_comm _ _ hji]
      exact h3.2
def pickO (l : List Oper) : List Nat → List Oper
  | [] => []
  | k :: ks => match l[k]? with | some o => o :: pickO l ks | none => pickO l ks
def seqO (md : Region.Mode) (ops : Array Oper) : List Nat → Array Bool → Bool
  | [], listed => decide (Region.ready md ops listed = [])
  | t :: ts, listed => decide (Region.ready md ops listed = [t]) && seqO md ops ts (listed.setIfInBounds t true)
def lexO (md : Region.Mode) (ops : Array Oper) (tl : List Nat) : List Nat → Array Bool → Bool
  | [], listed => seqO md ops tl listed
  | k :: ks, listed => (Region.ready md ops listed).contains k && Region.free md ops listed k && lexO md ops tl ks (listed.setIfInBounds k true)
def takeO (md : Region.Mode) (ops : Array Oper) (K : Array Bool → Bool) : List Nat → Array Bool → Bool
  | [], listed => K listed
  | k :: ks, listed => (Region.ready md ops listed).contains k && Region.free md ops listed k && takeO md ops K ks (listed.setIfInBounds k true)
theorem wpAny_of_seqO {l : List Oper} (hl : ∀ i : Nat, ops[i]? = l[i]?) {Q' : Exit → Act → World → Prop} : ∀ (ts : List Nat) (listed : Array Bool) (a : Act) (w : World), (∀ t ∈ ts, t < l.length) →
    seqO md ops ts listed = true → wpList P ops Q' (pickO l ts) a w → wpAny P md ops Q' ts.length listed a w
  | [], _, _, _, _, hB, h => ⟨by simpa [seqO] using hB, h⟩
  | t :: ts, listed, a, w, hlt, hB, h => by
    obtain ⟨o, ho⟩ : ∃ o, l[t]? = some o := ⟨l[t]'(hlt t (by simp)), by simp [hlt t (by simp)]⟩
    simp only [seqO, Bool.and_eq_true, decide_eq_true_eq] at hB
    simp only [pickO, ho] at h
    refine ⟨fun h1 => (by rw [hB.1] at h1; cases h1), fun i hi => ?_⟩
    rw [hB.1] at hi
    have hik : i = t := by simpa using hi
    subst hik
    have hw : wpOp P ops Q' i (wpList P ops Q' (pickO l ts)) a w := by unfold wpOp; simp only [hl i, ho]; exact h
    exact wpOp_mono (fun a' w' h' => wpAny_of_seqO hl ts _ a' w' (fun t ht => hlt t (List.mem_cons_of_mem _ ht)) hB.2 h') hw
theorem headO_lex {hs0 ts : List Nat} {t0 : Nat} {l : List Oper} {Lq : Act → Prop} (hl : ∀ i : Nat, ops[i]? = l[i]?) (hsel : Region.noSelect ops = true) (hk : sinkO md ops t0 hs0 = true) (hc : chainO md ops t0 ts = true) (hlt : ∀ i ∈ hs0, i < ops.size) (hd : ∀ i ∈ hs0, i ∉ t0 :: ts) :
    ∀ (ks : List Nat) (listed : Array Bool) (a : Act), (∀ k ∈ ks, k ∈ hs0) → HeadO md ops hs0 t0 ts listed →
    lexO md ops (t0 :: ts) ks listed = true → wpQuiet P ops C Lq (pickO l ks) a →
    headO P md ops C (fun listed' a' => seqO md ops (t0 :: ts) listed' = true ∧ Lq a') ks.length listed a
  | [], listed, a, _, _, hB, h => ⟨by simpa [lexO] using hB, h⟩
  | k :: ks, listed, a, hm, inv, hB, h => by
    have hkm : k ∈ hs0 := hm k (by simp)
    obtain ⟨o, ho⟩ : ∃ o, ops[k]? = some o := ⟨ops[k]'(hlt k hkm), by simp [hlt k hkm]⟩
    have ho' : l[k]? = some o := by rw [← hl]; exact ho
    simp only [pickO, ho'] at h
    simp only [lexO, Bool.and_eq_true] at hB
    obtain ⟨⟨hr, hf⟩, hB'⟩ := hB
    have hr' : k ∈ Region.ready md ops listed := by simpa using hr
    have hst : qOp P ops C k (wpQuiet P ops C Lq (pickO l ks)) a := by unfold qOp; simp only [ho]; exact h
    obtain ⟨v, hy, hK⟩ := yieldsIn_of_qOp ho hst
    refine headO_first ho (Region.noSelect_spec hsel) hk hc hlt hkm (fun listed' a' hL j hj => ?_) ks.length listed a inv (Region.free_spec ho hf) hr' hy
      (headO_lex hl hsel hk hc hlt hd ks _ _ (fun j hj => hm j (List.mem_cons_of_mem _ hj)) (inv.set hr' (hd k hkm)) hB' hK)
    have := hL.1
    simp only [seqO, Bool.and_eq_true, decide_eq_true_eq] at this
    rw [this.1] at hj
    simp only [List.mem_singleton] at hj
    subst hj
    simp
/-- The Bool that is asked of the region. -/
def lexTailO (md : Region.Mode) (ops : Array Oper) (hs : List Nat) (t0 : Nat) (ts : List Nat) (listed : Array Bool) : Bool :=
  invO md ops hs t0 ts listed && sinkO md ops t0 hs && chainO md ops t0 ts && (hs.all fun i => decide (i < ops.size) && !((t0 :: ts).contains i)) && ((t0 :: ts).all fun i => decide (i < ops.size)) && lexO md ops (t0 :: ts) hs listed
def regionO (md : Region.Mode) (ops : Array Oper) (pre hs : List Nat) (t0 : Nat) (ts : List Nat) : Bool :=
  Region.noSelect ops && decide (ops.size = pre.length + hs.length + ts.length + 1) && takeO md ops (lexTailO md ops hs t0 ts) pre (Array.replicate ops.size false)
/-- What is asked of the operations that are taken first. -/
def takesO (P : Program) (ops : Array Oper) (l : List Oper) (K : Act → Prop) : List Nat → Act → Prop
  | [], a => K a
  | k :: ks, a => ∃ o, l[k]? = some o ∧ ∃ v, Yields P ops o v a ∧ takesO P ops l K ks (a.put o.dst v)
theorem wpAny_takeO {l : List Oper} (hl : ∀ i : Nat, ops[i]? = l[i]?) (hsel : Region.noSelect ops = true) {Q : Exit → Act → World → Prop} {w : World} {f : Nat} {B : Array Bool → Bool} {K : Act → Prop} (hK : ∀ listed a, B listed = true → K a → wpAny P md ops (NoPanic Q) f listed a w) :
    ∀ (pre : List Nat) (listed : Array Bool) (a : Act), takeO md ops B pre listed = true → takesO P ops l K pre a → wpAny P md ops (NoPanic Q) (f + pre.length) listed a w
  | [], listed, a, hB, h => hK listed a (by simpa [takeO] using hB) h
  | k :: ks, listed, a, hB, h => by
    simp only [takeO, Bool.and_eq_true] at hB
    obtain ⟨o, ho, v, hy, h⟩ := h
    exact wpAny_take (by rw [hl]; exact ho) hsel hB.1.2 hB.1.1 (fun _ _ _ h => h) hy (wpAny_takeO hl hsel hK ks _ _ hB.2 h)
theorem wp_region_quietO {id : Nat} {Q : Exit → Act → World → Prop} {a : Act} {w : World} {l : List Oper} (pre hs : List Nat) (t0 : Nat) (ts : List Nat) (hm : P.follows .mixedOrders = true) (hB : regionO .any l.toArray pre hs t0 ts = true) (hC : C { w with drawn := w.drawn + 1 })
    (h : takesO P l.toArray l (fun a => wpQuiet P l.toArray C (fun a' => ∀ w', C w' → wpList P l.toArray (NoPanic Q) (pickO l (t0 :: ts)) a' w') (pickO l hs) a) pre a) : (Code.region id l.toArray true).wp P Q a w := by
  refine wp_region_noPanic ?_
  refine wp_region_any hm ?_
  simp only [regionO, Bool.and_eq_true, decide_eq_true_eq] at hB
  obtain ⟨⟨hsel, hsz⟩, hB⟩ := hB
  have hl : ∀ i : Nat, l.toArray[i]? = l[i]? := fun i => by simp
  have key := wpAny_takeO (md := .any) (f := hs.length + (t0 :: ts).length) (w := { w with drawn := w.drawn + 1 }) (Q := Q) hl hsel (B := lexTailO .any l.toArray hs t0 ts)
    (K := fun a => wpQuiet P l.toArray C (fun a' => ∀ w', C w' → wpList P l.toArray (NoPanic Q) (pickO l (t0 :: ts)) a' w') (pickO l hs) a) (fun listed a' hB' h' => by
      simp only [lexTailO, Bool.and_eq_true, List.all_eq_true, decide_eq_true_eq] at hB'
      obtain ⟨⟨⟨⟨⟨hi, hk⟩, hc⟩, hlt⟩, hlt2⟩, hlex⟩ := hB'
      have H := headO_lex hl hsel hk hc (fun i hi => (hlt i hi).1) (fun i hi => by simpa using (hlt i hi).2) hs listed a' (fun _ h => h) (invO_spec hi) hlex h'
      exact wpAny_of_headO (fun listed a' w' hw' hL => wpAny_of_seqO hl (t0 :: ts) listed a' w' (fun t ht => by simpa using hlt2 t ht) hL.1 (hL.2 w' hw')) hs.length _ _ _ hC H) pre (Array.replicate l.toArray.size false) a hB h
  rw [show hs.length + (t0 :: ts).length + pre.length = l.toArray.size by rw [hsz, List.length_cons]; omega] at key
  exact key
theorem wp_region_extO {id : Nat} {Q : Exit → Act → World → Prop} {a : Act} {w : World} {l : List Oper} (pre hs : List Nat) (t0 : Nat) (ts : List Nat) (hm : P.follows .mixedOrders = true) (hB : regionO .any l.toArray pre hs t0 ts = true)
    (h : takesO P l.toArray l (fun a => wpQuiet P l.toArray (fun w' => ∃ y : Ext w, w' = y.w) (fun a' => ∀ w', (∃ y : Ext w, w' = y.w) → wpList P l.toArray (NoPanic Q) (pickO l (t0 :: ts)) a' w') (pickO l hs) a) pre a) : (Code.region id l.toArray true).wp P Q a w :=
  wp_region_quietO (C := fun w' => ∃ y : Ext w, w' = y.w) pre hs t0 ts hm hB ⟨⟨{ w with drawn := w.drawn + 1 }, ⟨rfl, rfl, rfl, Nat.le_refl _, fun _ _ => rfl⟩⟩, rfl⟩ h
theorem wp_region_extqO {id : Nat} {Q : Exit → Act → World → Prop} {a : Act} {w : World} {x : Ext w} {l : List Oper} (pre hs : List Nat) (t0 : Nat) (ts : List Nat) (hm : P.follows .mixedOrders = true) (hB : regionO .any l.toArray pre hs t0 ts = true)
    (h : takesO P l.toArray l (fun a => wpQuiet P l.toArray (fun w' => ∃ y : Ext w, w' = y.w) (fun a' => ∀ w', (∃ y : Ext w, w' = y.w) → wpList P l.toArray (NoPanic Q) (pickO l (t0 :: ts)) a' w') (pickO l hs) a) pre a) : (Code.region id l.toArray true).wp P Q a x.w :=
  wp_region_quietO (C := fun w' => ∃ y : Ext w, w' = y.w) pre hs t0 ts hm hB ⟨⟨{ x.w with drawn := x.w.drawn + 1 }, x.h.trans ⟨rfl, rfl, rfl, Nat.le_refl _, fun _ _ => rfl⟩⟩, rfl⟩ h

end
end Go.Proofs.Ytekdjjfbkcgmhaa
