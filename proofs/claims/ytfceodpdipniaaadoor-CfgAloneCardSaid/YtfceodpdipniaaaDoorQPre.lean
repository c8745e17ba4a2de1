/-
  What is proved here: a law that any program may use: a region that draws its order, whose first n operations come one after the other (no choice) and whose others are quiet in a class of worlds: one walk serves every order.
-/
import Derived.Test.YtfceodpdipniaaaDoorQTail
import Derived.Deep.RegionHeld3
namespace Go.Proofs.YtfceodpdipniaaaDoor
open Go.RowKit

section
variable {P : Program} {ops : Array Oper} {md : Region.Mode}

/-- What is asked behind the first operations. -/
def PreK (Kt : Act → World → Prop) (Q : Exit → Act → World → Prop) : Exit → Act → World → Prop
  | .normal, a, w => Kt a w
  | .panic _, _, _ => False
  | e, a, w => Q e a w
theorem PreK.normal {Kt : Act → World → Prop} {Q : Exit → Act → World → Prop} {a : Act} {w : World} (h : Kt a w) : PreK Kt Q .normal a w := h
theorem PreK.out {Kt : Act → World → Prop} {Q : Exit → Act → World → Prop} (h : LetsOut (PreK Kt Q)) : LetsOut Q := h
theorem wp_preK {o : Oper} {a : Act} {w : World} {K : Act → World → Prop} {Kt : Act → World → Prop} {Q : Exit → Act → World → Prop} (hh : o.wp P a w K (PreK Kt Q)) : o.wp P a w K Q := by
  unfold Oper.wp at *
  generalize (execOp a.eval o).run P w = r at *
  cases r with
  | ok n w' =>
    cases n <;> simp only [Oper.upon] at hh ⊢ <;>
      first
        | exact hh
        | exact Calls.mono hh (fun e w'' he => by
            cases e with
            | returned v => exact he
            | panicked c => exact (he : False).elim
            | outgrown => exact he)
  | halt x w' => cases x <;> simp only [Oper.upon] at hh ⊢ <;> first | exact hh | exact (hh : False).elim
def preB (md : Region.Mode) (ops : Array Oper) (B : Array Bool → Bool) : Nat → Nat → Array Bool → Bool
  | 0, _, listed => B listed
  | n + 1, k, listed => decide (Region.ready md ops listed = [k]) && preB md ops B n (k + 1) (listed.setIfInBounds k true)
theorem wpAny_pre {Q : Exit → Act → World → Prop} {f : Nat} {B : Array Bool → Bool} {Kt : Act → World → Prop} (hK : ∀ listed a w, B listed = true → Kt a w → wpAny P md ops Q f listed a w) :
    ∀ (l : List Oper) (k : Nat) (listed : Array Bool) (a : Act) (w : World), (∀ j, j < l.length → l[j]? = ops[k + j]?) → preB md ops B l.length k listed = true → wpList P ops (PreK Kt Q) l a w → wpAny P md ops Q (f + l.length) listed a w
  | [], _, listed, a, w, _, hB, h => hK listed a w hB h
  | o :: l, k, listed, a, w, hl, hB, h => by
    have h0 : ops[k]? = some o := by simpa using (hl 0 (by simp)).symm
    simp only [List.length_cons, preB, Bool.and_eq_true, decide_eq_true_eq] at hB
    refine ⟨fun h1 => (by rw [hB.1] at h1; cases h1), fun i hi => ?_⟩
    rw [hB.1] at hi
    have hik : i = k := by simpa using hi
    subst hik
    have hrec := fun a' w' (h' : wpList P ops (PreK Kt Q) l a' w') => wpAny_pre hK l (i + 1) (listed.setIfInBounds i true) a' w' (fun j hj => by have := hl (j + 1) (by simp; omega); simpa [Nat.add_assoc, Nat.add_comm 1 j] using this) hB.2 h'
    refine wpOp_mono hrec ?_
    unfold wpOp
    simp only [h0]
    simp only [wpList] at h
    split
    · rename_i hw
      simp only [hw, if_true] at h
      exact h.imp wp_preK (fun x => ⟨x.1, PreK.out x.2⟩)
    · rename_i hw
      simp only [hw] at h
      exact h
/-- The Bool that is asked of the region. -/
def regionPre (md : Region.Mode) (ops : Array Oper) (n : Nat) : Bool :=
  Region.noSelect ops && decide (n ≤ ops.size) && preB md ops (fun listed => Region.lexFrom md ops (ops.size - n) n listed) n 0 (Array.replicate ops.size false)
theorem wp_region_pre {id : Nat} {Q : Exit → Act → World → Prop} {a : Act} {w : World} {l : List Oper} (n : Nat) (hm : P.follows .mixedOrders = true) (hB : regionPre .any l.toArray n = true)
    (h : wpList P l.toArray (PreK (fun a' w' => ∃ C : World → Prop, C w' ∧ wpQuiet P l.toArray C (fun a'' => ∀ w'', C w'' → Q .normal a'' w'') (l.drop n) a') Q) (l.take n) a w.drew) : (Code.region id l.toArray true).wp P Q a w := by
  simp only [regionPre, Bool.and_eq_true, decide_eq_true_eq] at hB
  obtain ⟨⟨hsel, hn⟩, hB⟩ := hB
  have hn' : n ≤ l.length := by simpa using hn
  have htl : (l.take n).length = n := by simp; omega
  have hdl : (l.drop n).length = l.toArray.size - n := by simp
  refine wp_region_any hm ?_
  have := wpAny_pre (P := P) (md := .any) (ops := l.toArray) (Q := Q) (f := l.toArray.size - n) (B := fun listed => Region.lexFrom .any l.toArray (l.toArray.size - n) n listed)
    (Kt := fun a' w' => ∃ C : World → Prop, C w' ∧ wpQuiet P l.toArray C (fun a'' => ∀ w'', C w'' → Q .normal a'' w'') (l.drop n) a') (fun listed a' w' hL ⟨C, hC, hq⟩ => by
      have hx := wpAnyQ_lex (C := C) (md := .any) hsel (l.drop n) n listed a' (fun j => by simp) (by rw [hdl]; exact hL) hq
      rw [hdl] at hx
      exact wpAny_of_quiet (Q := fun a'' => ∀ w'', C w'' → Q .normal a'' w'') (fun _ w'' hw h => h w'' hw) _ _ _ _ hC hx)
    (l.take n) 0 (Array.replicate l.toArray.size false) a w.drew (fun j hj => by
      rw [htl] at hj
      simp [hj]) (by rw [htl]; exact hB) h
  rw [htl, show l.toArray.size - n + n = l.toArray.size by omega] at this
  exact this

end
end Go.Proofs.YtfceodpdipniaaaDoor
