/-
  What is proved here: a law that any program may use: a region that draws its order, some of whose operations have been taken already (moves, constants), whose next ones are quiet in a class of worlds, and whose last ones wait for all of them and for each other: one walk serves every order.
-/
import Derived.Test.YtfceodpdipniaaaDoorQTail1
namespace Go.Proofs.YtfceodpdipniaaaDoor
open Go.RowKit

section
variable {P : Program} {ops : Array Oper} {md : Region.Mode} {C : World → Prop}

/-- Every operation from k on, below n, is waited for by a later one, n at the latest. -/
def sinkK (md : Region.Mode) (ops : Array Oper) (k n : Nat) : Bool :=
  (List.range n).all fun i => decide (i < k) || (List.range (n + 1)).any fun j => decide (i < j) && Region.waitsFor md ops j i
/-- What is asked of the operations that have been taken. -/
def invK (md : Region.Mode) (ops : Array Oper) (k n m : Nat) (listed : Array Bool) : Bool :=
  decide (listed.size = ops.size) && ((List.range ops.size).all fun j => !(listed.getD j false) || (match ops[j]? with | some oj => oj.after.all fun e => !(Region.binds md e) || listed.getD e.on false | none => true)) &&
  ((List.range ops.size).all fun t => !(decide (n ≤ t) && decide (t < m)) || !(listed.getD t true)) && ((List.range ops.size).all fun t => !(decide (m ≤ t)) || listed.getD t true) && ((List.range ops.size).all fun t => !(decide (t < k)) || listed.getD t true)
structure HeadK (md : Region.Mode) (ops : Array Oper) (k n m : Nat) (listed : Array Bool) : Prop where
  base : HeadM md ops n m listed
  low : ∀ t, t < k → t < ops.size → listed.getD t true = true
theorem invK_spec {k n m : Nat} {listed : Array Bool} (hm : m ≤ ops.size) (h : invK md ops k n m listed = true) : HeadK md ops k n m listed := by
  simp only [invK, Bool.and_eq_true, decide_eq_true_eq, List.all_eq_true, List.mem_range] at h
  obtain ⟨⟨⟨⟨h1, h2⟩, h3⟩, h4⟩, h5⟩ := h
  refine ⟨⟨h1, fun j oj hj hl e he hb => ?_, fun t ht ht' => ?_, fun t ht ht' => ?_⟩, fun t ht ht' => ?_⟩
  · have := h2 j (Array.getElem?_eq_some_iff.1 hj).1
    rw [hl, hj] at this
    simp only [Bool.not_true, Bool.false_or, Array.all_eq_true'] at this
    have h6 := this e he
    rw [hb] at h6
    simpa using h6
  · have := h3 t (by omega)
    simpa [ht, ht'] using this
  · have := h4 t ht'
    simpa [ht] using this
  · have := h5 t ht'
    simpa [ht] using this
theorem HeadK.set {k n m i : Nat} {listed : Array Bool} (inv : HeadK md ops k n m listed) (hi : i ∈ Region.ready md ops listed) (hin : i < n) (hnm : n < m) : HeadK md ops k n m (listed.setIfInBounds i true) := by
  refine ⟨inv.base.set hi hin hnm, fun t ht ht' => ?_⟩
  by_cases h : i = t
  · subst h
    simp [inv.base.size, ht']
  · rw [getD_set_ne true h]; exact inv.low t ht ht'
theorem tail_waitsK {k n m : Nat} {listed : Array Bool} (hs : sinkK md ops k n = true) (hc : chainM md ops n m = true) (hn : n < m) (inv : HeadK md ops k n m listed) :
    ∀ (d i : Nat), n - i = d → i < n → listed.getD i true = false → ∀ t, n ≤ t → t ∉ Region.ready md ops listed := by
  intro d
  induction d using Nat.strongRecOn with
  | _ d ih =>
    intro i hd hi hun t ht hr
    obtain ⟨hunt, ot, hot, hall⟩ := mem_ready.1 hr
    have htlt : t < ops.size := (Array.getElem?_eq_some_iff.1 hot).1
    have htm : t < m := by
      rcases Nat.lt_or_ge t m with h | h
      · exact h
      · rw [inv.base.last t h htlt] at hunt; cases hunt
    have hki : ¬ i < k := by
      intro h
      rw [inv.low i h (by omega)] at hun
      cases hun
    by_cases htn : t = n
    · subst htn
      have h1 := List.all_eq_true.1 hs i (List.mem_range.2 hi)
      simp only [Bool.or_eq_true, decide_eq_true_eq, hki, false_or] at h1
      obtain ⟨j, hj, hj2⟩ := List.any_eq_true.1 h1
      simp only [Bool.and_eq_true, decide_eq_true_eq] at hj2
      obtain ⟨oj, hoj, e, he, hb, hon⟩ := Region.waitsFor_spec hj2.2
      have hjle : j ≤ t := by have := List.mem_range.1 hj; omega
      by_cases hjt : j = t
      · subst hjt
        have : oj = ot := Option.some.inj (hoj.symm.trans hot)
        subst this
        have h2 := hall e he hb
        rw [hon, getD_both hun] at h2
        cases h2
      · cases hl : listed.getD j false with
        | true =>
          have h2 := inv.base.closed j oj hoj hl e he hb
          rw [hon, getD_both hun] at h2
          cases h2
        | false =>
          have hjs : j < listed.size := by rw [inv.base.size]; omega
          exact ih (t - j) (by omega) j rfl (by omega) (getD_in hjs hl) t (Nat.le_refl _) hr
    · have h1 := List.all_eq_true.1 hc t (List.mem_range.2 htm)
      simp only [Bool.or_eq_true, decide_eq_true_eq] at h1
      rcases h1 with h1 | h1
      · omega
      · obtain ⟨o', ho', e, he, hb, hon⟩ := Region.waitsFor_spec h1
        have : o' = ot := Option.some.inj (ho'.symm.trans hot)
        subst this
        have h2 := hall e he hb
        rw [hon, getD_both (inv.base.tail (t - 1) (by omega) (by omega))] at h2
        cases h2
theorem headK_first {k0 n m i : Nat} {oi : Oper} {v : Value} {L : Array Bool → Act → Prop} (hi : ops[i]? = some oi) (hsel : ∀ (j : Nat) (o : Oper) cs b, ops[j]? = some o → o.op ≠ .select cs b)
    (hs : sinkK md ops k0 n = true) (hc : chainM md ops n m = true) (hn : n < m) (hin : i < n)
    (hdone : ∀ listed a, L listed a → ∀ j ∈ Region.ready md ops listed, n ≤ j) :
    ∀ (f : Nat) (listed : Array Bool) (a : Act), HeadK md ops k0 n m listed →
      (∀ j oj, ops[j]? = some oj → j ≠ i → listed.getD j true = false → (∀ e ∈ oj.after, Region.binds md e = true → e.on ≠ i) → oi.apart ops oj = true) →
      i ∈ Region.ready md ops listed → YieldsIn P ops C oi v a →
      headQ P md ops C n L f (listed.setIfInBounds i true) (a.put oi.dst v) → headQ P md ops C n L (f + 1) listed a := by
  intro f
  induction f with
  | zero =>
    intro listed a inv _ hr hy H
    have hun := (mem_ready.1 hr).1
    refine ⟨fun h => (by rw [h] at hr; cases hr), fun j hj => ?_⟩
    have hjn : j < n := by
      rcases Nat.lt_or_ge j n with h | h
      · exact h
      · exact absurd hj (tail_waitsK hs hc hn inv _ i rfl hin hun j h)
    refine ⟨hjn, ?_⟩
    by_cases hji : j = i
    · subst hji; exact hy.qOp hi H
    · have := hdone _ _ H j (ready_mono hj hji)
      omega
  | succ f ih =>
    intro listed a inv hfree hr hy H
    have hun := (mem_ready.1 hr).1
    refine ⟨fun h => (by rw [h] at hr; cases hr), fun j hj => ?_⟩
    have hjn : j < n := by
      rcases Nat.lt_or_ge j n with h | h
      · exact h
      · exact absurd hj (tail_waitsK hs hc hn inv _ i rfl hin hun j h)
    refine ⟨hjn, ?_⟩
    by_cases hji : j = i
    · subst hji; exact hy.qOp hi H
    · have h1 := (H.2 j (ready_mono hj hji)).2
      obtain ⟨hjun, oj, hoj, hall⟩ := mem_ready.1 hj
      have hnot : ∀ e ∈ oj.after, Region.binds md e = true → e.on ≠ i := fun e he hb heq => by
        have h1 := hall e he hb
        rw [heq, getD_both hun] at h1
        cases h1
      have h2 := qOp_put hoj (hfree j oj hoj hji hjun hnot) (fun cs b => hsel i oi cs b hi) (fun cs b => hsel j oj cs b hoj) hy h1
      have hfree' : ∀ k ok, ops[k]? = some ok → k ≠ i → (listed.setIfInBounds j true).getD k true = false →
          (∀ e ∈ ok.after, Region.binds md e = true → e.on ≠ i) → oi.apart ops ok = true := fun k ok hk hki hun hno => by
        refine hfree k ok hk hki ?_ hno
        by_cases hjk : j = k
        · subst hjk; exact hjun
        · rw [getD_set_ne true hjk] at hun; exact hun
      refine qOp_mono (fun a' h3 => ih (listed.setIfInBounds j true) a' (inv.set hj hjn hn) hfree' (ready_mono hr (Ne.symm hji)) h3.1 ?_) h2
      rw [Array.setIfInBounds_comm _ _ hji]
      exact h3.2

theorem headK_lex {k0 n m g : Nat} {Lq : Act → Prop} (hsel : Region.noSelect ops = true) (hs : sinkK md ops k0 n = true) (hc : chainM md ops n m = true) (hn : n < m) :
    ∀ (l : List Oper) (k : Nat) (listed : Array Bool) (a : Act), (∀ j, j < l.length → l[j]? = ops[k + j]?) → k + l.length = n → HeadK md ops k0 n m listed →
    Region.lexHead md ops g l.length k listed = true → wpQuiet P ops C Lq l a →
    headQ P md ops C n (fun listed' a' => Region.seqB md ops g n listed' = true ∧ Lq a') l.length listed a
  | [], k, listed, a, _, hk, _, hB, h => by
    have : k = n := by simpa using hk
    subst this
    exact ⟨by simpa [Region.lexHead] using hB, h⟩
  | o :: l, k, listed, a, hl, hk, inv, hB, h => by
    have h0 : ops[k]? = some o := by simpa using (hl 0 (by simp)).symm
    simp only [List.length_cons, Region.lexHead, Bool.and_eq_true] at hB
    obtain ⟨⟨hr, hf⟩, hB'⟩ := hB
    have hkn : k < n := by simp only [List.length_cons] at hk; omega
    have hr' : k ∈ Region.ready md ops listed := by simpa using hr
    have hst : qOp P ops C k (wpQuiet P ops C Lq l) a := by unfold qOp; simp only [h0]; exact h
    obtain ⟨v, hy, hK⟩ := yieldsIn_of_qOp h0 hst
    exact headK_first h0 (Region.noSelect_spec hsel) hs hc hn hkn (fun listed' a' hL => seqB_ready hL.1) l.length listed a inv (Region.free_spec h0 hf) hr' hy
      (headK_lex hsel hs hc hn l (k + 1) _ _ (fun j hj => by have := hl (j + 1) (by simp; omega); simpa [Nat.add_assoc, Nat.add_comm 1 j] using this) (by simp only [List.length_cons] at hk; omega) (inv.set hr' hkn hn) hB' hK)



/-- The Bool that is asked of the region. -/
def lexTailK (md : Region.Mode) (ops : Array Oper) (k n m : Nat) (listed : Array Bool) : Bool :=
  Region.noSelect ops && decide (k ≤ n) && decide (n < m) && decide (m ≤ ops.size) && invK md ops k n m listed && sinkK md ops k n && chainM md ops n m && Region.lexHead md ops (m - n) (n - k) k listed

/-- Some operations have been taken ('listed'); the quiet ones and the tail follow. -/
theorem wpAny_quiet_tail {Q : Exit → Act → World → Prop} {a : Act} {w : World} {l : List Oper} {listed : Array Bool} (k n m : Nat) (hB : lexTailK .any l.toArray k n m listed = true) (hC : C w)
    (h : wpQuiet P l.toArray C (fun a' => ∀ w', C w' → wpList P l.toArray Q ((l.drop n).take (m - n)) a' w') ((l.drop k).take (n - k)) a) : wpAny P .any l.toArray Q (m - k) listed a w := by
  simp only [lexTailK, Bool.and_eq_true, decide_eq_true_eq] at hB
  obtain ⟨⟨⟨⟨⟨⟨⟨hsel, hkn⟩, hn⟩, hm⟩, hinv⟩, hs⟩, hc⟩, hlex⟩ := hB
  have hm' : m ≤ l.length := by simpa using hm
  have inv0 := invK_spec hm hinv
  have htl : ((l.drop k).take (n - k)).length = n - k := by simp; omega
  have hdl : ((l.drop n).take (m - n)).length = m - n := by simp; omega
  have H := headK_lex (md := .any) (g := m - n) hsel hs hc hn ((l.drop k).take (n - k)) k listed a (fun j hj => by
    rw [htl] at hj
    simp [List.getElem?_drop, hj]) (by rw [htl]; omega) inv0 (by rw [htl]; exact hlex) h
  have := wpAny_of_headQ (Q' := Q) (g := m - n) (fun listed a' w' hw' hL => by
    have hq := wpAny_of_seqM ((l.drop n).take (m - n)) n listed a' w' (fun j hj => by
      rw [hdl] at hj
      simp [List.getElem?_drop, hj]) (by rw [hdl]; exact hL.1) (hL.2 w' hw')
    rw [hdl] at hq
    exact hq) ((l.drop k).take (n - k)).length _ _ _ hC H
  rw [htl, show n - k + (m - n) = m - k by omega] at this
  exact this

theorem yields_move {o : Oper} {t : Nat} {v : Value} {a : Act} (hop : o.op = .move (.tmp t)) (hg : o.guard = none) (hv : a.tmps[t]?.getD undef = v) : Yields P ops o v a := by
  left
  refine ⟨by simp [Region.wanted, hg], fun w => ?_⟩
  simp [execOp, hop, go_sem]
  exact hv

/-- The first operation is a move; the others up to n are quiet; then the tail, to the end. -/
theorem wp_region_quiet_move {id : Nat} {Q : Exit → Act → World → Prop} {a : Act} {w : World} {l : List Oper} (n m : Nat) (o : Oper) (t : Nat) (v : Value) (ho : l[0]? = some o) (hop : o.op = .move (.tmp t)) (hg : o.guard = none) (hv : a.tmps[t]?.getD undef = v) (hm : P.follows .mixedOrders = true) (hsz : l.length = m)
    (hf : Region.free .any l.toArray (Array.replicate m false) 0 = true) (hr : (Region.ready .any l.toArray (Array.replicate m false)).contains 0 = true) (hB : lexTailK .any l.toArray 1 n m ((Array.replicate m false).setIfInBounds 0 true) = true) (hC : C { w with drawn := w.drawn + 1 })
    (h : wpQuiet P l.toArray C (fun a' => ∀ w', C w' → wpList P l.toArray (NoPanic Q) ((l.drop n).take (m - n)) a' w') ((l.drop 1).take (n - 1)) (a.put o.dst v)) : (Code.region id l.toArray true).wp P Q a w := by
  refine wp_region_noPanic ?_
  refine wp_region_any hm ?_
  have hsz' : l.toArray.size = m := by simpa using hsz
  have hsel : Region.noSelect l.toArray = true := by
    simp only [lexTailK, Bool.and_eq_true] at hB
    exact hB.1.1.1.1.1.1.1
  have hpos : 0 < m := by
    simp only [lexTailK, Bool.and_eq_true, decide_eq_true_eq] at hB
    omega
  rw [hsz', show m = (m - 1) + 1 by omega]
  rw [show m = (m - 1) + 1 by omega] at hf hr
  refine wpAny_take (by simpa using ho) hsel hf hr (fun _ _ _ h => h) (yields_move hop hg hv) ?_
  rw [← show m = (m - 1) + 1 by omega]
  exact wpAny_quiet_tail 1 n m hB hC h

theorem wp_region_ext_move {id : Nat} {Q : Exit → Act → World → Prop} {a : Act} {w : World} {l : List Oper} (n m : Nat) (o : Oper) (t : Nat) (v : Value) (ho : l[0]? = some o) (hop : o.op = .move (.tmp t)) (hg : o.guard = none) (hv : a.tmps[t]?.getD undef = v) (hm : P.follows .mixedOrders = true) (hsz : l.length = m)
    (hf : Region.free .any l.toArray (Array.replicate m false) 0 = true) (hr : (Region.ready .any l.toArray (Array.replicate m false)).contains 0 = true) (hB : lexTailK .any l.toArray 1 n m ((Array.replicate m false).setIfInBounds 0 true) = true)
    (h : wpQuiet P l.toArray (fun w' => ∃ y : Ext w, w' = y.w) (fun a' => ∀ w', (∃ y : Ext w, w' = y.w) → wpList P l.toArray (NoPanic Q) ((l.drop n).take (m - n)) a' w') ((l.drop 1).take (n - 1)) (a.put o.dst v)) : (Code.region id l.toArray true).wp P Q a w :=
  wp_region_quiet_move (C := fun w' => ∃ y : Ext w, w' = y.w) n m o t v ho hop hg hv hm hsz hf hr hB ⟨⟨{ w with drawn := w.drawn + 1 }, ⟨rfl, rfl, rfl, Nat.le_refl _, fun _ _ => rfl⟩⟩, rfl⟩ h

end
end Go.Proofs.YtfceodpdipniaaaDoor
