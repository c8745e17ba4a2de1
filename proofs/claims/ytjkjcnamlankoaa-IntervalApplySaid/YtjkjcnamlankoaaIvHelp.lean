/-
  What is proved here: laws on worlds in which old blocks are kept, and what the laws' helper 'has' returns.
-/
import Derived.Test.YtjkjcnamlankoaaIvApply1
namespace Go.Proofs.Ytjkjcnamlankoaa
open Go.RowKit

theorem Ext.ne1 {w0 : World} (x : Ext w0) (b : Nat) (hb : b < w0.heap.size) : (b = x.w.heap.size) = False := by have := x.h.size; simp; omega
theorem Ext.ne2 {w0 : World} (x : Ext w0) (b : Nat) (hb : b < w0.heap.size) : (x.w.heap.size = b) = False := by have := x.h.size; simp; omega
theorem Ext.ge {w0 : World} {o : Obj} (x : Ext (w0.alloc o)) : w0.heap.size + 1 ≤ x.w.heap.size := by simp
attribute [simp] Ext.ne1 Ext.ne2

/-- All blocks of W0 are as they were. -/
def Keeps (W0 w' : World) : Prop := Below W0.heap.size W0 w'
theorem Keeps.cell {W0 w' : World} (h : Keeps W0 w') (b o : Nat) (hb : b < W0.heap.size) : w'.cell? ⟨b, o, none⟩ = W0.cell? ⟨b, o, none⟩ := Below.cell (p := ⟨b, o, none⟩) h hb
theorem Keeps.alloc {W0 w' : World} (h : Keeps W0 w') (o : Obj) : Keeps W0 (w'.alloc o) := Below.alloc h h.size o
theorem Keeps.ext {W0 w' : World} (h : Keeps W0 w') (y : Ext w') : Keeps W0 y.w := Ext.below h h.size y
theorem Keeps.set {W0 w' : World} (h : Keeps W0 w') {g j : Nat} (hg : W0.heap.size ≤ g) (v : Value) : Keeps W0 (w'.setCell ⟨g, j, none⟩ v) := Below.setCell h hg v
theorem Keeps.drew {W0 w' : World} (h : Keeps W0 w') : Keeps W0 w'.drew := Below.drew h
theorem ks_of {w w' : World} {a b c : Obj} (h : Keeps (((w.alloc a).alloc b).alloc c) w') : w.heap.size + 1 + 1 + 1 ≤ w'.heap.size := by
  have := h.size
  simpa using this
theorem keeps_both {n : Nat} {W0 w' : World} (hn : n = W0.heap.size) (h : Keeps W0 w') : (∀ b o, b < n → w'.cell? ⟨b, o, none⟩ = W0.cell? ⟨b, o, none⟩) ∧ Keeps W0 w' :=
  ⟨fun b o hb => h.cell b o (by omega), h⟩

theorem cut_of {W0 wx : World} {g h : Nat} {a b c d : Value} (k : Keeps W0 wx) (h1 : wx.cell? ⟨g, 0, none⟩ = some a) (h2 : wx.cell? ⟨g, 1, none⟩ = some b) (h3 : wx.cell? ⟨h, 0, none⟩ = some c) (h4 : wx.cell? ⟨h, 1, none⟩ = some d) (h5 : g < wx.heap.size) (h6 : h < wx.heap.size) :
    ∃ (g' h' : Nat) (v : Ext W0), Value.pointer (some ⟨g, 0, none⟩) = .pointer (some ⟨g', 0, none⟩) ∧ Value.pointer (some ⟨h, 0, none⟩) = .pointer (some ⟨h', 0, none⟩) ∧ wx = v.w ∧ v.w.cell? ⟨g', 0, none⟩ = some a ∧ v.w.cell? ⟨g', 1, none⟩ = some b ∧ v.w.cell? ⟨h', 0, none⟩ = some c ∧ v.w.cell? ⟨h', 1, none⟩ = some d ∧ g' < v.w.heap.size ∧ h' < v.w.heap.size :=
  ⟨g, h, ⟨wx, k⟩, rfl, rfl, rfl, h1, h2, h3, h4, h5, h6⟩

theorem pair_of {P : Program} {f : FuncId} {args : Array Value} {w : World} {p : Int × Int} {a b : Int} (h : Calls P f args w fun e w' => e = .returned (.agg #[.int .i32 p.1, .int .i32 p.2]) ∧ Below w.heap.size w w') (hp : p = (a, b)) :
    Calls P f args w fun e w' => e = .returned (.agg #[.int .i32 a, .int .i32 b]) ∧ Below w.heap.size w w' := by
  subst hp
  exact h
theorem lit_of {P : Program} {f : FuncId} {args : Array Value} {w : World} {b c : Bool} (h : Calls P f args w fun e w' => e = .returned (.bool b) ∧ Below w.heap.size w w') (hb : b = c) :
    Calls P f args w fun e w' => e = .returned (.bool c) ∧ Below w.heap.size w w' := hb ▸ h

set_option maxHeartbeats 400000 in
theorem has_any (xl xh n : Int) (w : World) :
    Calls Try.prog 23 #[.agg #[.int .i32 xl, .int .i32 xh], .int .i32 n] w fun e w' => e = .returned (.bool (decide (xl ≤ n) && decide (n ≤ xh))) ∧ Below w.heap.size w w' := by
  by_cases h1 : xl ≤ n
  · have d1 : decide (xl ≤ n) = true := by simpa using h1
    go_enter Try.func23, Try.ntmps23
    go_wp2
    all_goals
      go_ret
      refine ⟨by simp [d1], ?_⟩
      (repeat (first | exact Below.refl _ _ | refine Below.setCell ?_ ?_ _ | refine Ext.below ?_ ?_ _ | refine Below.alloc ?_ ?_ _)) <;> (first | (simp; done) | (simp; omega) | omega)

  · have d1 : decide (xl ≤ n) = false := by simpa using h1
    go_enter Try.func23, Try.ntmps23
    go_wp2
    all_goals
      go_ret
      refine ⟨by simp, ?_⟩
      (repeat (first | exact Below.refl _ _ | refine Below.setCell ?_ ?_ _ | refine Ext.below ?_ ?_ _ | refine Below.alloc ?_ ?_ _)) <;> (first | (simp; done) | (simp; omega) | omega)

end Go.Proofs.Ytjkjcnamlankoaa
