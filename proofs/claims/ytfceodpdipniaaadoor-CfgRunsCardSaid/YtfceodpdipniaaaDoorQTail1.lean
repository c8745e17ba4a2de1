/-
  What is proved here: a law that any program may use: a region that draws its order, whose first n operations are quiet in a class of worlds, whose next ones wait for all of them and for each other, and whose last one is a constant: one walk serves every order.
-/
import Derived.Test.YtfceodpdipniaaaDoorQTail
import Derived.Deep.RegionHeld3
namespace Go.Proofs.YtfceodpdipniaaaDoor
open Go.RowKit

section
variable {P : Program} {ops : Array Oper} {md : Region.Mode} {C : World → Prop}

def chainM (md : Region.Mode) (ops : Array Oper) (n m : Nat) : Bool :=
  (List.range m).all fun t => decide (t ≤ n) || Region.waitsFor md ops t (t - 1)
structure HeadM (md : Region.Mode) (ops : Array Oper) (n m : Nat) (listed : Array Bool) : Prop where
  size : listed.size = ops.size
  closed : ∀ j oj, ops[j]? = some oj → listed.getD j false = true → ∀ e ∈ oj.after, Region.binds md e = true → listed.getD e.on false = true
  tail : ∀ t, n ≤ t → t < m → listed.getD t true = false
  last : ∀ t, m ≤ t → t < ops.size → listed.getD t true = true
theorem HeadM.set {n m i : Nat} {listed : Array Bool} (inv : HeadM md ops n m listed) (hi : i ∈ Region.ready md ops listed) (hin : i < n) (hnm : n < m) : HeadM md ops n m (listed.setIfInBounds i true) := by
  obtain ⟨_, oi, hoi, hall⟩ := mem_ready.1 hi
  refine ⟨by simp [inv.size], fun j oj hj hl e he hb => ?_, fun t ht ht' => by rw [getD_set_ne true (by omega)]; exact inv.tail t ht ht', fun t ht ht' => by rw [getD_set_ne true (by omega)]; exact inv.last t ht ht'⟩
  by_cases hij : i = j
  · subst hij
    have : oj = oi := Option.some.inj (hj.symm.trans hoi)
    subst this
    exact getD_set_true (hall e he hb)
  · rw [getD_set_ne false hij] at hl
    exact getD_set_true (inv.closed j oj hj hl e he hb)
theorem tail_waitsM {n m : Nat} {listed : Array Bool} (hs : Region.sinkB md ops n = true) (hc : chainM md ops n m = true) (hn : n < m) (inv : HeadM md ops n m listed) :
    ∀ (d i : Nat), n - i = d → i < n → listed.getD i true = false → ∀ t, n ≤ t → t ∉ Region.ready md ops listed := by
  intro d
  induction d using Nat.strongRecOn with
  | _ d ih =>
    intro i hd hi hun t ht hr
    obtain ⟨hunt, ot, hot, hall⟩ := mem_ready.1 hr
    have htlt : t < ops.size := (Array.getElem?_eq_some_iff.1 hot).1
    have htm : t < m := by
      rcases Nat.lt_or_ge t m with h | h
      · exact h
      · rw [inv.last t h htlt] at hunt; cases hunt
    by_cases htn : t = n
    · subst htn
      have h1 := List.all_eq_true.1 hs i (List.mem_range.2 hi)
      obtain ⟨j, hj, hj2⟩ := List.any_eq_true.1 h1
      simp only [Bool.and_eq_true, decide_eq_true_eq] at hj2
      obtain ⟨oj, hoj, e, he, hb, hon⟩ := Region.waitsFor_spec hj2.2
      have hjle : j ≤ t := by have := List.mem_range.1 hj; omega
      by_cases hjt : j = t
      · subst hjt
        have : oj = ot := Option.some.inj (hoj.symm.trans hot)
        subst this
        have h2 := hall e he hb
        rw [hon, getD_both hun] at h2
        cases h2
      · cases hl : listed.getD j false with
        | true =>
          have h2 := inv.closed j oj hoj hl e he hb
          rw [hon, getD_both hun] at h2
          cases h2
        | false =>
          have hjs : j < listed.size := by rw [inv.size]; omega
          exact ih (t - j) (by omega) j rfl (by omega) (getD_in hjs hl) t (Nat.le_refl _) hr
    · have h1 := List.all_eq_true.1 hc t (List.mem_range.2 htm)
      simp only [Bool.or_eq_true, decide_eq_true_eq] at h1
      rcases h1 with h1 | h1
      · omega
      · obtain ⟨o', ho', e, he, hb, hon⟩ := Region.waitsFor_spec h1
        have : o' = ot := Option.some.inj (ho'.symm.trans hot)
        subst this
        have h2 := hall e he hb
        rw [hon, getD_both (inv.tail (t - 1) (by omega) (by omega))] at h2
        cases h2
theorem headM_first {n m i : Nat} {oi : Oper} {v : Value} {L : Array Bool → Act → Prop} (hi : ops[i]? = some oi) (hsel : ∀ (j : Nat) (o : Oper) cs b, ops[j]? = some o → o.op ≠ .select cs b)
    (hs : Region.sinkB md ops n = true) (hc : chainM md ops n m = true) (hn : n < m) (hin : i < n)
    (hdone : ∀ listed a, L listed a → ∀ j ∈ Region.ready md ops listed, n ≤ j) :
    ∀ (f : Nat) (listed : Array Bool) (a : Act), HeadM md ops n m listed →
      (∀ j oj, ops[j]? = some oj → j ≠ i → listed.getD j true = false → (∀ e ∈ oj.after, Region.binds md e = true → e.on ≠ i) → oi.apart ops oj = true) →
      i ∈ Region.ready md ops listed → YieldsIn P ops C oi v a →
      headQ P md ops C n L f (listed.setIfInBounds i true) (a.put oi.dst v) → headQ P md ops C n L (f + 1) listed a := by
  intro f
  induction f with
  | zero =>
    intro listed a inv _ hr hy H
    have hun := (mem_ready.1 hr).1
    refine ⟨fun h => (by rw [h] at hr; cases hr), fun j hj => ?_⟩
    have hjn : j < n := by
      rcases Nat.lt_or_ge j n with h | h
      · exact h
      · exact absurd hj (tail_waitsM hs hc hn inv _ i rfl hin hun j h)
    refine ⟨hjn, ?_⟩
    by_cases hji : j = i
    · subst hji; exact hy.qOp hi H
    · have := hdone _ _ H j (ready_mono hj hji)
      omega
  | succ f ih =>
    intro listed a inv hfree hr hy H
    have hun := (mem_ready.1 hr).1
    refine ⟨fun h => (by rw [h] at hr; cases hr), fun j hj => ?_⟩
    have hjn : j < n := by
      rcases Nat.lt_or_ge j n with h | h
      · exact h
      · exact absurd hj (tail_waitsM hs hc hn inv _ i rfl hin hun j h)
    refine ⟨hjn, ?_⟩
    by_cases hji : j = i
    · subst hji; exact hy.qOp hi H
    · have h1 := (H.2 j (ready_mono hj hji)).2
      obtain ⟨hjun, oj, hoj, hall⟩ := mem_ready.1 hj
      have hnot : ∀ e ∈ oj.after, Region.binds md e = true → e.on ≠ i := fun e he hb heq => by
        have h1 := hall e he hb
        rw [heq, getD_both hun] at h1
        cases h1
      have h2 := qOp_put hoj (hfree j oj hoj hji hjun hnot) (fun cs b => hsel i oi cs b hi) (fun cs b => hsel j oj cs b hoj) hy h1
      have hfree' : ∀ k ok, ops[k]? = some ok → k ≠ i → (listed.setIfInBounds j true).getD k true = false →
          (∀ e ∈ ok.after, Region.binds md e = true → e.on ≠ i) → oi.apart ops ok = true := fun k ok hk hki hun hno => by
        refine hfree k ok hk hki ?_ hno
        by_cases hjk : j = k
        · subst hjk; exact hjun
        · rw [getD_set_ne true hjk] at hun; exact hun
      refine qOp_mono (fun a' h3 => ih (listed.setIfInBounds j true) a' (inv.set hj hjn hn) hfree' (ready_mono hr (Ne.symm hji)) h3.1 ?_) h2
      rw [Array.setIfInBounds_comm _ _ hji]
      exact h3.2

theorem headM_lex {n m g : Nat} {Lq : Act → Prop} (hsel : Region.noSelect ops = true) (hs : Region.sinkB md ops n = true) (hc : chainM md ops n m = true) (hn : n < m) :
    ∀ (l : List Oper) (k : Nat) (listed : Array Bool) (a : Act), (∀ j, j < l.length → l[j]? = ops[k + j]?) → k + l.length = n → HeadM md ops n m listed →
    Region.lexHead md ops g l.length k listed = true → wpQuiet P ops C Lq l a →
    headQ P md ops C n (fun listed' a' => Region.seqB md ops g n listed' = true ∧ Lq a') l.length listed a
  | [], k, listed, a, _, hk, _, hB, h => by
    have : k = n := by simpa using hk
    subst this
    exact ⟨by simpa [Region.lexHead] using hB, h⟩
  | o :: l, k, listed, a, hl, hk, inv, hB, h => by
    have h0 : ops[k]? = some o := by simpa using (hl 0 (by simp)).symm
    simp only [List.length_cons, Region.lexHead, Bool.and_eq_true] at hB
    obtain ⟨⟨hr, hf⟩, hB'⟩ := hB
    have hkn : k < n := by simp only [List.length_cons] at hk; omega
    have hr' : k ∈ Region.ready md ops listed := by simpa using hr
    have hst : qOp P ops C k (wpQuiet P ops C Lq l) a := by unfold qOp; simp only [h0]; exact h
    obtain ⟨v, hy, hK⟩ := yieldsIn_of_qOp h0 hst
    exact headM_first h0 (Region.noSelect_spec hsel) hs hc hn hkn (fun listed' a' hL => seqB_ready hL.1) l.length listed a inv (Region.free_spec h0 hf) hr' hy
      (headM_lex hsel hs hc hn l (k + 1) _ _ (fun j hj => by have := hl (j + 1) (by simp; omega); simpa [Nat.add_assoc, Nat.add_comm 1 j] using this) (by simp only [List.length_cons] at hk; omega) (inv.set hr' hkn hn) hB' hK)


/-- The Bool that is asked of the region. -/
def lexTailM (md : Region.Mode) (ops : Array Oper) (n m : Nat) : Bool :=
  Region.noSelect ops && decide (n < m) && decide (ops.size = m + 1) && Region.free md ops (Array.replicate ops.size false) m && (Region.ready md ops (Array.replicate ops.size false)).contains m && (match ops[m]? with | some o => o.after.isEmpty | none => false) &&
  Region.sinkB md ops n && chainM md ops n m && Region.lexHead md ops (m - n) n 0 ((Array.replicate ops.size false).setIfInBounds m true)

theorem wpAny_of_seqM {Q' : Exit → Act → World → Prop} : ∀ (l : List Oper) (k : Nat) (listed : Array Bool) (a : Act) (w : World), (∀ j, j < l.length → l[j]? = ops[k + j]?) →
    Region.seqB md ops l.length k listed = true → wpList P ops Q' l a w → wpAny P md ops Q' l.length listed a w
  | [], _, _, _, _, _, hB, h => ⟨by simpa [Region.seqB] using hB, h⟩
  | o :: l, k, listed, a, w, hl, hB, h => by
    have h0 : ops[k]? = some o := by simpa using (hl 0 (by simp)).symm
    simp only [List.length_cons, Region.seqB, Bool.and_eq_true, decide_eq_true_eq] at hB
    refine ⟨fun h1 => (by rw [hB.1] at h1; cases h1), fun i hi => ?_⟩
    rw [hB.1] at hi
    have hik : i = k := by simpa using hi
    subst hik
    have hw : wpOp P ops Q' i (wpList P ops Q' l) a w := by unfold wpOp; simp only [h0]; exact h
    exact wpOp_mono (fun a' w' h' => wpAny_of_seqM l (i + 1) _ a' w' (fun j hj => by have := hl (j + 1) (by simp; omega); simpa [Nat.add_assoc, Nat.add_comm 1 j] using this) hB.2 h') hw

theorem yields_const {o : Oper} {c : Value} {a : Act} (hop : o.op = .move (.const c)) (hg : o.guard = none) : Yields P ops o c a := by
  left
  refine ⟨by simp [Region.wanted, hg], fun w => ?_⟩
  simp [execOp, hop, go_sem, Act.eval]

theorem wp_region_quiet_tail_const {id : Nat} {Q : Exit → Act → World → Prop} {a : Act} {w : World} {l : List Oper} (n m : Nat) (o : Oper) (c : Value) (ho : l[m]? = some o) (hop : o.op = .move (.const c)) (hg : o.guard = none) (hm : P.follows .mixedOrders = true) (hB : lexTailM .any l.toArray n m = true) (hC : C { w with drawn := w.drawn + 1 })
    (h : wpQuiet P l.toArray C (fun a' => ∀ w', C w' → wpList P l.toArray (NoPanic Q) ((l.drop n).take (m - n)) a' w') (l.take n) (a.put o.dst c)) : (Code.region id l.toArray true).wp P Q a w := by
  simp only [lexTailM, Bool.and_eq_true, decide_eq_true_eq] at hB
  obtain ⟨⟨⟨⟨⟨⟨⟨⟨hsel, hn⟩, hsz⟩, hfree⟩, hready⟩, hafter⟩, hs⟩, hc⟩, hlex⟩ := hB
  have hl : l.length = m + 1 := by simpa using hsz
  have ho' : l.toArray[m]? = some o := by simpa using ho
  rw [ho'] at hafter
  have hnone : o.after = #[] := by simpa using hafter
  refine wp_region_noPanic ?_
  refine wp_region_any hm ?_
  have hsz' : l.toArray.size = m + 1 := hsz
  rw [hsz'] at hfree hready hlex ⊢
  refine wpAny_take ho' hsel hfree hready (fun _ _ _ h => h) (yields_const hop hg) ?_
  have htl : (l.take n).length = n := by simp; omega
  have hdl : ((l.drop n).take (m - n)).length = m - n := by simp; omega
  have inv0 : HeadM .any l.toArray n m ((Array.replicate (m + 1) false).setIfInBounds m true) := by
    refine ⟨by simp [hl], fun j oj hj hlj e he _ => ?_, fun t ht ht' => ?_, fun t ht ht' => ?_⟩
    · by_cases hjm : m = j
      · subst hjm
        have : oj = o := Option.some.inj (hj.symm.trans ho')
        subst this
        rw [hnone] at he
        simp at he
      · rw [getD_set_ne false hjm, getD_replicate_false] at hlj
        cases hlj
    · rw [getD_set_ne true (by omega)]
      exact getD_in (by simp; omega) (getD_replicate_false _ _)
    · have : t = m := by rw [hsz'] at ht'; omega
      subst this
      simp
  have H := headM_lex (md := .any) (g := m - n) hsel hs hc hn (l.take n) 0 _ (a.put o.dst c) (fun j hj => by
    have hj' : j < n := by rw [htl] at hj; exact hj
    simp [hj']) (by simpa using htl) inv0 (by rw [htl]; exact hlex) h
  have := wpAny_of_headQ (Q' := NoPanic Q) (g := m - n) (fun listed a' w' hw' hL => by
    have hq := wpAny_of_seqM ((l.drop n).take (m - n)) n listed a' w' (fun j hj => by
      rw [hdl] at hj
      simp [List.getElem?_drop, hj]) (by rw [hdl]; exact hL.1) (hL.2 w' hw')
    rw [hdl] at hq
    exact hq) (l.take n).length _ _ _ hC H
  rw [htl, show n + (m - n) = m by omega] at this
  exact this

theorem wp_region_extq_tail_const {id : Nat} {Q : Exit → Act → World → Prop} {a : Act} {w : World} {x : Ext w} {l : List Oper} (n m : Nat) (o : Oper) (c : Value) (ho : l[m]? = some o) (hop : o.op = .move (.const c)) (hg : o.guard = none) (hm : P.follows .mixedOrders = true) (hB : lexTailM .any l.toArray n m = true)
    (h : wpQuiet P l.toArray (fun w' => ∃ y : Ext w, w' = y.w) (fun a' => ∀ w', (∃ y : Ext w, w' = y.w) → wpList P l.toArray (NoPanic Q) ((l.drop n).take (m - n)) a' w') (l.take n) (a.put o.dst c)) : (Code.region id l.toArray true).wp P Q a x.w :=
  wp_region_quiet_tail_const (C := fun w' => ∃ y : Ext w, w' = y.w) n m o c ho hop hg hm hB ⟨⟨{ x.w with drawn := x.w.drawn + 1 }, x.h.trans ⟨rfl, rfl, rfl, Nat.le_refl _, fun _ _ => rfl⟩⟩, rfl⟩ h
theorem wp_region_ext_tail_const {id : Nat} {Q : Exit → Act → World → Prop} {a : Act} {w : World} {l : List Oper} (n m : Nat) (o : Oper) (c : Value) (ho : l[m]? = some o) (hop : o.op = .move (.const c)) (hg : o.guard = none) (hm : P.follows .mixedOrders = true) (hB : lexTailM .any l.toArray n m = true)
    (h : wpQuiet P l.toArray (fun w' => ∃ y : Ext w, w' = y.w) (fun a' => ∀ w', (∃ y : Ext w, w' = y.w) → wpList P l.toArray (NoPanic Q) ((l.drop n).take (m - n)) a' w') (l.take n) (a.put o.dst c)) : (Code.region id l.toArray true).wp P Q a w :=
  wp_region_quiet_tail_const (C := fun w' => ∃ y : Ext w, w' = y.w) n m o c ho hop hg hm hB ⟨⟨{ w with drawn := w.drawn + 1 }, ⟨rfl, rfl, rfl, Nat.le_refl _, fun _ _ => rfl⟩⟩, rfl⟩ h

end
end Go.Proofs.YtfceodpdipniaaaDoor
