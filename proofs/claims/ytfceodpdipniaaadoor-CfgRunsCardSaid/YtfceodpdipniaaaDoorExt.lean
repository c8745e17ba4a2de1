/-
  What is proved here: laws that any program may use. A world that extends another one (new blocks and draws alone) is named by 'Ext'; a region that draws its order and only reads or calls functions that make memory is walked once.
-/
import Derived.Test.YtfceodpdipniaaaDoorRows
import Derived.WalkKit
import Derived.WalkSpells
import Derived.WalkLawsBesides
import Derived.Deep.QuietTactic
import Derived.BigQuiet
import Derived.Lib.Hide
namespace Go.Proofs.YtfceodpdipniaaaDoor
open Go.RowKit

/-- A world in which all blocks of 'w0' are as they were. -/
structure Ext (w0 : World) where
  w : World
  h : Below w0.heap.size w0 w

instance (w0 : World) : Nonempty (Ext w0) := ⟨⟨w0, Below.refl _ _⟩⟩

theorem Ext.cell {w0 : World} (x : Ext w0) (b o : Nat) (hb : b < w0.heap.size) : x.w.cell? ⟨b, o, none⟩ = w0.cell? ⟨b, o, none⟩ := x.h.cell (p := ⟨b, o, none⟩) hb
theorem Ext.frozen {w0 : World} (x : Ext w0) (b o : Nat) (hb : b < w0.heap.size) : x.w.frozen? ⟨b, o, none⟩ = w0.frozen? ⟨b, o, none⟩ := x.h.frozen (p := ⟨b, o, none⟩) hb
theorem Ext.lt {w0 : World} (x : Ext w0) (b : Nat) (hb : b < w0.heap.size) : (b < x.w.heap.size) = True := by have := x.h.size; simp; omega
theorem Ext.le {w0 : World} (x : Ext w0) (b : Nat) (hb : b ≤ w0.heap.size) : (b ≤ x.w.heap.size) = True := by have := x.h.size; simp; omega
attribute [go_sem] Ext.cell Ext.frozen Ext.lt Ext.le
attribute [simp] Ext.lt Ext.le

theorem Ext.below {w0 w : World} {B : Nat} (h : Below B w0 w) (hB : B ≤ w.heap.size) (x : Ext w) : Below B w0 x.w := h.trans (x.h.mono hB)

/-- A callee's contract, its world named. -/
theorem Calls.ext {P : Program} {f : FuncId} {args : Array Value} {w : World} {v : Value} (h : Calls P f args w fun e w' => e = .returned v ∧ Below w.heap.size w w') :
    Calls P f args w fun e w' => e = .returned v ∧ ∃ y : Ext w, y.w = w' :=
  h.mono fun _ w' ⟨he, hb⟩ => ⟨he, ⟨w', hb⟩, rfl⟩

/-- A callee's contract inside a region that draws. -/
theorem Calls.extq {P : Program} {f : FuncId} {args : Array Value} {w0 : World} {x : Ext w0} {v : Value} (h : Calls P f args x.w fun e w' => e = .returned v ∧ Below x.w.heap.size x.w w') :
    Calls P f args x.w fun e w'' => e = .returned v ∧ ∃ y : Ext w0, w'' = y.w :=
  h.mono fun _ w' ⟨he, hb⟩ => ⟨he, ⟨w', x.h.trans (hb.mono x.h.size)⟩, rfl⟩
theorem Calls.extq_same {P : Program} {f : FuncId} {args : Array Value} {w0 : World} {x : Ext w0} {v : Value} (h : Calls P f args x.w fun e w' => e = .returned v ∧ x.w = w') :
    Calls P f args x.w fun e w'' => e = .returned v ∧ ∃ y : Ext w0, w'' = y.w :=
  h.mono fun _ _ ⟨he, hb⟩ => ⟨he, x, hb.symm⟩

theorem wp_region_ext {P : Program} {id : Nat} {Q : Exit → Act → World → Prop} {a : Act} {w : World} {l : List Oper} (hm : P.follows .mixedOrders = true) (hB : Region.lexB .any l.toArray = true)
    (h : wpQuiet P l.toArray (fun w' => ∃ x : Ext w, w' = x.w) (fun a' => ∀ w', (∃ x : Ext w, w' = x.w) → Q .normal a' w') l a) : (Code.region id l.toArray true).wp P Q a w :=
  wp_region_quiet (C := fun w' => ∃ x : Ext w, w' = x.w) hm hB ⟨⟨{ w with drawn := w.drawn + 1 }, ⟨rfl, rfl, rfl, Nat.le_refl _, fun _ _ => rfl⟩⟩, rfl⟩ (by simpa using h)

/-- The same, from a world that is named already: the base stays. -/
theorem wp_region_extq {P : Program} {id : Nat} {Q : Exit → Act → World → Prop} {a : Act} {w : World} {x : Ext w} {l : List Oper} (hm : P.follows .mixedOrders = true) (hB : Region.lexB .any l.toArray = true)
    (h : wpQuiet P l.toArray (fun w' => ∃ y : Ext w, w' = y.w) (fun a' => ∀ w', (∃ y : Ext w, w' = y.w) → Q .normal a' w') l a) : (Code.region id l.toArray true).wp P Q a x.w :=
  wp_region_quiet (C := fun w' => ∃ y : Ext w, w' = y.w) hm hB ⟨⟨{ x.w with drawn := x.w.drawn + 1 }, x.h.trans ⟨rfl, rfl, rfl, Nat.le_refl _, fun _ _ => rfl⟩⟩, rfl⟩ (by simpa using h)

theorem ret_int {k : IntKind} {a b : Int} (h : a = b) : Ending.returned (.int k a) = .returned (.int k b) := by rw [h]
theorem ret_bool {a b : Bool} (h : a = b) : Ending.returned (.bool a) = .returned (.bool b) := by rw [h]

end Go.Proofs.YtfceodpdipniaaaDoor
