/-
  What is proved here: how the laws' arguments are opened (an interval by value), and two closed facts on the program.
-/
import Derived.Test.YtjkjcnamlankoaaRows
import Derived.WalkKit
import Derived.ProofKit
import Derived.OpenShut
import Derived.Below
import Derived.Lib.SmallJoins
namespace Go.Proofs.Ytjkjcnamlankoaa
open Go.ChangeShapes Go.WideShapes Go.ChangeAt Go.RowKit Go.Joins

theorem own : ownKnob Try.prog.godebug = none := by kernel_rfl
theorem laidOut : laidOutB Try.prog = true := by kernel_rfl

section
variable {H : Type} {enc : TypeId × Value → H} {w : World} {base : Nat} {spare : Nat → Bool} {held : Bool}
/-- An interval: two words. -/
theorem open_iv {r : Reach} {b0 : Nat} {v : Value} {d : DataW H} {p : List MemPlace} (hv : Value.okWide Try.prog w r b0 23 v) (h : DataW.Trod enc Try.prog w base spare held 23 v d p) :
    ∃ (l h : Int), v = .agg #[.int .i32 l, .int .i32 h] ∧ (Lit.int .i32 l).wf = true ∧ (Lit.int .i32 h).wf = true := by
  obtain ⟨c0, c1, y0, y1, m, rfl, _, _, hy0, hy1⟩ := open_agg2 Try.underlying23 (by kernel_rfl) (by kernel_rfl) hv h
  obtain ⟨a, e0, _, wa⟩ := DataW.trod_int Try.underlying21 hy0
  obtain ⟨b, e1, _, wb⟩ := DataW.trod_int Try.underlying21 hy1
  simp at e0 e1
  subst e0 e1
  exact ⟨a, b, rfl, wa, wb⟩
end

end Go.Proofs.Ytjkjcnamlankoaa
