/-
  What is proved here: abbreviations: proofs that come often, as auto-parameters; short names of lemmas.
-/
import Derived.WalkKit
import Derived.WalkSpells
import Derived.WalkLawsBesides
import Derived.Deep.QuietTactic
import Derived.BigQuiet
import Derived.Lib.Hide
import Derived.StillTail
import Derived.Deep.RegionHeld3
import Derived.Deep.RegionLaw
import Derived.Maps.AppendAt
import Derived.WideKeyEntry
import Derived.Maps.RangeRun
import Derived.Maps.Keyed
import Derived.Carry
import Derived.ProofKit
import Derived.OpenShut
import Derived.Below
import Derived.Lib.SmallJoins
import Derived.Deep.Slices
import Derived.Deep.MidRow
import Derived.Lib.Bytealg
import Derived.Lib.Strings
import Derived.MapViews
import Derived.Laws.OwnMore
import Derived.WalkSmall
import Derived.Deep.CutBlock
import Derived.Deep.DeepCutAuto
import Derived.IntWalk
import Derived.Laws.MakeOwn
import Derived.RangeFuncBox
import Derived.OneCell
import Derived.ChangeSame
import Derived.ChangeVars
import Derived.JoinedOf
import Derived.RowKit
import Derived.Deep.Strs
import Derived.Shelf.Small.Bits
import Derived.Deep.WholeRow
import Derived.Laws.CopyOwn
import Derived.BigRegion
namespace Go.Proofs.YtebklpnkcicpjaaGreatDoor
set_option linter.unusedVariables false
set_option linter.unusedSimpArgs false
set_option maxRecDepth 100000
set_option maxHeartbeats 8000000
open Go.RowKit
theorem TX {P : Prop} (h : P := by omega) : P := h
theorem TY {P : Prop} (h : P := by kernel_rfl) : P := h
theorem TZ {P : Prop} (h : P := by first | exact Nat.le_refl _ | omega | (simp; done) | (simp; omega)) : P := h
theorem T1 {P : Prop} (h : P := by decide) : P := h
theorem T2 {P : Prop} (h : P := by simp [Value.oneCell']) : P := h
theorem T3 {P : Prop} (h : P := by unfold maxLen; omega) : P := h
theorem T4 {P : Prop} (h : P := by simp) : P := h
theorem T6 {P : Prop} (h : P := by decide +kernel) : P := h
theorem T7 {P : Prop} (h : P := by first | exact Nat.le_refl _ | (simp; done) | (simp; omega) | omega) : P := h
theorem T8 {P : Prop} (h : P := by first | rfl | kernel_rfl) : P := h
theorem T9 {P : Prop} (h : P := by simp; omega) : P := h
theorem Ua {P : Prop} (h : P := by simp only [Int.toNat_natCast]; rintro ⟨q1, q2⟩; rw [cV, hat] at q1; omega) : P := h
theorem Ub {P : Prop} (h : P := by simp only [Int.toNat_natCast]; rintro ⟨q1, q2⟩; rw [bS, hat] at q2; omega) : P := h
theorem Uc {P : Prop} (h : P := by rw [World.size_alloc]; omega) : P := h
theorem Ud {P : Prop} (h : P := by rw [hr.len]; exact ha) : P := h
theorem Ue {P : Prop} (h : P := by show w.heap.size ≤ w.heap.size + 1 + 1; omega) : P := h
theorem Uf {P : Prop} (h : P := by rw [HN.out]; exact htn) : P := h
theorem Ug {P : Prop} (h : P := by simp [go_sem, *]) : P := h
theorem Uh {P : Prop} (h : P := by rw [hr.len]; exact hb) : P := h
theorem Ui {P : Prop} (h : P := by simp <;> omega) : P := h
theorem Uj {P : Prop} (h : P := by first | exact Nat.le_refl _ | (simp only [World.size_alloc, World.size_drew]; omega) | omega) : P := h
theorem Uk {P : Prop} (h : P := by show w.heap.size + 1 + 1 ≠ w.heap.size + 1; omega) : P := h
theorem Ul {P : Prop} (h : P := by rw [hr.len]; exact hc) : P := h
theorem Um {P : Prop} (h : P := by assumption) : P := h
theorem Un {P : Prop} (h : P := by first | omega | (simp; done) | (simp; omega)) : P := h
theorem Uo {P : Prop} (h : P := by show w.heap.size ≤ w.heap.size + 1; omega) : P := h
theorem Uq {P : Prop} (h : P := by rw [vE.out.len]; exact hb) : P := h
theorem Ur {P : Prop} (h : P := by simpa using h) : P := h
theorem Us {P : Prop} (h : P := by simp only; omega) : P := h
theorem Ut {P : Prop} (h : P := by simp [results, Tryz.results19, go_sem, *]) : P := h
theorem Uu {P : Prop} (h : P := by have := DD.out; have := SV.out; omega) : P := h
theorem Uv {P : Prop} (h : P := by unfold aK; omega) : P := h
theorem Uw {P : Prop} (h : P := by simp [results, Tryz.results62, go_sem, *]) : P := h
theorem Ux {P : Prop} (h : P := by have h := st.out; simp [qJ] at h; first | omega | exact h.symm) : P := h
theorem Uy {P : Prop} (h : P := by rw [h] at hr; cases hr) : P := h
theorem Uz {P : Prop} (h : P := by rw [HZ.out]; exact hlt) : P := h
theorem UA {P : Prop} (h : P := by simp [Value.ownBlock]; omega) : P := h
theorem UB {P : Prop} (h : P := by have := bV.size; have := x0.h.size; have := hb.size; omega) : P := h
theorem UC {P : Prop} (h : P := by first | exact Nat.le_refl _ | (simp; done) | (simp; omega)) : P := h
theorem UD {P : Prop} (h : P := by have := S0.out; omega) : P := h
theorem UE {P : Prop} (h : P := by simp only [World.size_alloc]; omega) : P := h
theorem UF {P : Prop} (h : P := by symm; simp; intro h; subst h; have h1 := Le.out; rw [Ld.out] at h1; exact HQ.out (Option.some.inj h1).symm) : P := h
theorem UG {P : Prop} (h : P := by have := HA.out.lt; have := L5.out; unfold A6; omega) : P := h
theorem UH {P : Prop} (h : P := by rw [hl] at h0; exact h0) : P := h
theorem UI {P : Prop} (h : P := by rw [e]; rfl) : P := h
theorem UJ {P : Prop} (h : P := by simp only [World.size_alloc]) : P := h
theorem UK {P : Prop} (h : P := by rw [List.length_take]; omega) : P := h
theorem UL {P : Prop} (h : P := by simp only [List.length_cons] at hk; omega) : P := h
theorem UM {P : Prop} (h : P := by have := h.lt; omega) : P := h
theorem UN {P : Prop} (h : P := by have := h.2; rw [rS.out] at this; simp only [Prod.mk.injEq] at this; exact this) : P := h
theorem UO {P : Prop} (h : P := by simp [Act.eval, Act.put]) : P := h
theorem UQ {P : Prop} (h : P := by rw [HR.out]; exact hlt) : P := h
theorem UR {P : Prop} (h : P := by have := Li.out; omega) : P := h
theorem UT {P : Prop} (h : P := by (try split) <;> omega) : P := h
theorem UU {P : Prop} (h : P := by simpa using hi) : P := h
theorem UW {P : Prop} (h : P := by (repeat (first | exact Below.refl _ _ | refine Below.setCell ?_ ?_ _ | refine Ext.below ?_ ?_ _ | refine Below.alloc ?_ ?_ _)) <;> (first | (simp; done) | (simp; omega) | omega)) : P := h
theorem UX {P : Prop} (h : P := by (repeat (first | exact Below.refl _ _ | refine Below.setCell ?_ ?_ _ | refine Ext.below ?_ ?_ _ | refine Below.alloc ?_ ?_ _)) <;> (first | (simp; done) | (simp; omega) | omega | (simp only [World.size_setCell, World.size_alloc]; refine Nat.le_trans ?_ (Below.size (Ext.h _)); simp only [World.size_setCell, World.size_alloc]; omega))) : P := h
theorem UY {P : Prop} (h : P := by (repeat (first | assumption | refine Below.setCell ?_ ?_ _ | refine Ext.below ?_ ?_ _ | refine Below.alloc ?_ ?_ _)) <;> (first | (simp; done) | (simp; omega) | omega)) : P := h
theorem UZ {p : Prop} (h : p) : Hid p := Lib.hid h
theorem U0 {α : Type _} {xs : List α} {i : Nat} (h : i < xs.toArray.size) : xs.toArray[i] = xs[i]'(by simpa using h) := rfl
theorem U3 {α : Type _} {a : α} {ys : List α} (h : 0 < (a :: ys).length) : (a :: ys)[0] = a := rfl
theorem U4 {α : Type _} {a : α} {ys : List α} {i : Nat} (h : i + 1 < (a :: ys).length) : (a :: ys)[i + 1] = ys[i]'(by simpa using h) := rfl
theorem U5 {α : Type _} (l : List α) (i : Nat) (a : α) : l.toArray.setIfInBounds i a = (l.set i a).toArray := List.setIfInBounds_toArray ..
theorem U6 {α : Type _} (x : α) (xs : List α) (a : α) : (x :: xs).set 0 a = a :: xs := rfl
theorem U7 {α : Type _} (x : α) (xs : List α) (i : Nat) (a : α) : (x :: xs).set (i + 1) a = x :: xs.set i a := rfl
theorem U8 {α : Type _} (a : α) (ys : List α) (i : Nat) : (a :: ys).take (i + 1) = a :: ys.take i := rfl
theorem U9 {α : Type _} (a : α) (ys : List α) (i : Nat) : (a :: ys).drop (i + 1) = ys.drop i := rfl
abbrev Va : List Value := [.int .i32 0, .int .i32 0, .int .i32 0, .int .i32 0, .int .i32 0, .int .i32 0, .int .i32 0, .int .i32 0, .int .i32 0, .int .i32 0, .int .i32 0, .int .i32 0, .int .i32 0, .int .i32 0, .int .i32 0, .int .i32 0, .int .i32 0, .int .i32 0, .int .i32 0, .int .i32 0, .int .i32 0, .int .i32 0, .int .i32 0, .int .i32 0, .int .i32 0, .int .i32 0, .int .i32 0, .int .i32 0, .int .i32 0, .int .i32 0, .int .i32 0, .int .i32 0]
end Go.Proofs.YtebklpnkcicpjaaGreatDoor
