/-
  What is proved here: abbreviations: proofs that come often, as auto-parameters; short names of lemmas.
-/
import Derived.WalkKit
import Derived.WalkSpells
import Derived.WalkLawsBesides
import Derived.Deep.QuietTactic
import Derived.BigQuiet
import Derived.Lib.Hide
import Derived.StillTail
import Derived.Deep.RegionHeld3
import Derived.Deep.RegionLaw
import Derived.Maps.AppendAt
import Derived.WideKeyEntry
import Derived.Maps.RangeRun
import Derived.Maps.Keyed
import Derived.Carry
import Derived.ProofKit
import Derived.OpenShut
import Derived.Below
import Derived.Lib.SmallJoins
import Derived.Deep.Slices
import Derived.Deep.MidRow
import Derived.Lib.Bytealg
import Derived.Lib.Strings
import Derived.MapViews
import Derived.Laws.OwnMore
import Derived.WalkSmall
import Derived.Deep.CutBlock
import Derived.Deep.DeepCutAuto
import Derived.IntWalk
import Derived.Laws.MakeOwn
import Derived.RangeFuncBox
import Derived.OneCell
import Derived.ChangeSame
import Derived.ChangeVars
import Derived.JoinedOf
import Derived.RowKit
import Derived.Deep.Strs
import Derived.Laws.EntriesVeiled
import Derived.Shelf.SlIterI.Nil
import Derived.Shelf.SlIterI.Sorted
import Derived.Shelf.SortM.Plain
import Derived.Shelf.SortM.SortNone
import Derived.Ground.GgzProg
import Derived.Ground.SlgmProg
import Derived.Laws.AppendOwnNone
import Derived.Shelf.Small.Bits
import Derived.Deep.WholeRow
import Derived.Laws.CopyOwn
import Derived.BigRegion
import Derived.Deep.Upon
namespace Go.Proofs.YtlmgkipmfgijiaaGreatDoor
set_option linter.unusedVariables false
set_option linter.unusedSimpArgs false
set_option maxRecDepth 100000
set_option maxHeartbeats 8000000
open Go.RowKit
theorem ahU {P : Prop} (h : P := by omega) : P := h
theorem ahV {P : Prop} (h : P := by kernel_rfl) : P := h
theorem ahW {P : Prop} (h : P := by decide) : P := h
theorem ahX {P : Prop} (h : P := by simp [Value.oneCell']) : P := h
theorem ahY {P : Prop} (h : P := by unfold maxLen; omega) : P := h
theorem ahZ {P : Prop} (h : P := by simp) : P := h
theorem ah0 {P : Prop} (h : P := by first | (simp; done) | (simp [World.drew]; done) | (simp [World.drew]; omega)) : P := h
theorem ah1 {P : Prop} (h : P := by first | exact Nat.le_refl _ | exact vY.size | (simp; done) | (simp; omega) | omega) : P := h
theorem ah2 {P : Prop} (h : P := by first | rfl | (simp [Act.eval, Act.put]; done)) : P := h
theorem ah3 {P : Prop} (h : P := by simp; omega) : P := h
theorem ah4 {P : Prop} (h : P := by simp only [Int.toNat_natCast]; rintro ⟨q1, q2⟩; rw [dy, hat] at q1; omega) : P := h
theorem ah5 {P : Prop} (h : P := by simp only [Int.toNat_natCast]; rintro ⟨q1, q2⟩; rw [bI, hat] at q2; omega) : P := h
theorem ah6 {P : Prop} (h : P := by rw [World.size_alloc]; omega) : P := h
theorem ah7 {P : Prop} (h : P := by first | rfl | kernel_rfl) : P := h
theorem ah8 {P : Prop} (h : P := by simp [go_sem, *]) : P := h
theorem ah9 {P : Prop} (h : P := by rw [HN.out]; exact htn) : P := h
theorem aia {P : Prop} (h : P := by simp <;> omega) : P := h
theorem aib {P : Prop} (h : P := by rw [eP.out]; omega) : P := h
theorem aic {P : Prop} (h : P := by show w.heap.size + 1 + 1 ≠ w.heap.size + 1; omega) : P := h
theorem aid {P : Prop} (h : P := by first | exact vY.size | (rw [World.size_alloc]; exact Nat.le_succ_of_le vY.size)) : P := h
theorem aie {P : Prop} (h : P := by first | exact Nat.le_refl _ | (simp; done) | (simp; omega)) : P := h
theorem aif {P : Prop} (h : P := by show w.heap.size ≤ w.heap.size + 1; omega) : P := h
theorem aih {P : Prop} (h : P := by first | exact BX.out | exact BQ.out) : P := h
theorem aii {P : Prop} (h : P := by rw [eP.out]; exact hn) : P := h
theorem aij {P : Prop} (h : P := by simp only [World.size_alloc]; omega) : P := h
theorem aik {P : Prop} (h : P := by first | exact hq ▸ BX.out.size | exact BX.out.size | omega) : P := h
theorem ail {P : Prop} (h : P := by simpa using h) : P := h
theorem aim {P : Prop} (h : P := by simp [results, Tryz.results12, go_sem, *]) : P := h
theorem ain {P : Prop} (h : P := by rw [e]; rfl) : P := h
theorem aio {P : Prop} (h : P := by simp only [World.size_alloc]) : P := h
theorem aip {P : Prop} (h : P := by first | exact Nat.le_refl _ | (simp; done) | (simp; omega) | omega) : P := h
theorem aiq {P : Prop} (h : P := by simp [Act.eval, Act.put]) : P := h
theorem air {P : Prop} (h : P := by show X.heap.size ≤ (World.alloc _ _).heap.size; rw [World.size_alloc]; have := Ms.out; show X.heap.size ≤ U.heap.size + 1; omega) : P := h
theorem ais {P : Prop} (h : P := by simp [results, Tryz.results22, go_sem, *]) : P := h
theorem ait {P : Prop} (h : P := by rw [HM.out]; exact hlt) : P := h
theorem aiu {P : Prop} (h : P := by simp [Value.ownBlock]; omega) : P := h
theorem aiv {P : Prop} (h : P := by have := SV.out; omega) : P := h
theorem aiw {P : Prop} (h : P := by have := S1.out; omega) : P := h
theorem aix {P : Prop} (h : P := by have := S0.out; omega) : P := h
theorem aiy {P : Prop} (h : P := by first | rfl | trivial) : P := h
theorem aiz {P : Prop} (h : P := by simp only; omega) : P := h
theorem aiA {P : Prop} (h : P := by symm; simp; intro h; subst h; have h1 := NY.out; rw [FB.out] at h1; exact HQ.out (Option.some.inj h1).symm) : P := h
theorem aiB {P : Prop} (h : P := by have := HA.out.lt; have := L5.out; unfold Fg; omega) : P := h
theorem aiC {P : Prop} (h : P := by rw [hl] at h0; exact h0) : P := h
theorem aiD {P : Prop} (h : P := by simp [Value.ownBlock]) : P := h
theorem aiE {P : Prop} (h : P := by rw [hr.len]; exact ha) : P := h
theorem aiF {P : Prop} (h : P := by first | omega | (simp; done) | (simp; omega)) : P := h
theorem aiG {P : Prop} (h : P := by rw [List.length_take]; omega) : P := h
theorem aiH {P : Prop} (h : P := by rw [hs2]; omega) : P := h
theorem aiI {P : Prop} (h : P := by have := h.lt; omega) : P := h
theorem aiJ {P : Prop} (h : P := by simpa using hi) : P := h
theorem aiK {P : Prop} (h : P := by rw [h] at hr; cases hr) : P := h
theorem aiL {P : Prop} (h : P := by simp [hx]) : P := h
theorem aiM {P : Prop} (h : P := by have := HM.out; omega) : P := h
theorem aiN {P : Prop} (h : P := by (try split) <;> omega) : P := h
theorem aiO {P : Prop} (h : P := by simpa using hl) : P := h
theorem aiP {P : Prop} (h : P := by simpa using e') : P := h
theorem aiQ {P : Prop} (h : P := by rw [ox]; omega) : P := h
theorem aiR {P : Prop} (h : P := by (repeat (first | exact Below.refl _ _ | refine Below.setCell ?_ ?_ _ | refine Ext.below ?_ ?_ _ | refine Below.alloc ?_ ?_ _)) <;> (first | (simp; done) | (simp; omega) | omega)) : P := h
theorem aiS {P : Prop} (h : P := by (repeat (first | exact Below.refl _ _ | refine Below.setCell ?_ ?_ _ | refine Ext.below ?_ ?_ _ | refine Below.alloc ?_ ?_ _)) <;> (first | (simp; done) | (simp; omega) | omega | (simp only [World.size_setCell, World.size_alloc]; refine Nat.le_trans ?_ (Below.size (Ext.h _)); simp only [World.size_setCell, World.size_alloc]; omega))) : P := h
theorem aiT {P : Prop} (h : P := by (repeat (first | assumption | refine Below.setCell ?_ ?_ _ | refine Ext.below ?_ ?_ _ | refine Below.alloc ?_ ?_ _)) <;> (first | (simp; done) | (simp; omega) | omega)) : P := h
theorem aiU {p : Prop} (h : p) : Hid p := Lib.hid h
theorem aiV {α : Type _} {xs : List α} {i : Nat} (h : i < xs.toArray.size) : xs.toArray[i] = xs[i]'(by simpa using h) := rfl
theorem aiW {α : Type _} {a : α} {ys : List α} (h : 0 < (a :: ys).length) : (a :: ys)[0] = a := rfl
theorem aiX {α : Type _} {a : α} {ys : List α} {i : Nat} (h : i + 1 < (a :: ys).length) : (a :: ys)[i + 1] = ys[i]'(by simpa using h) := rfl
theorem aiY {α : Type _} (l : List α) (i : Nat) (a : α) : l.toArray.setIfInBounds i a = (l.set i a).toArray := List.setIfInBounds_toArray ..
theorem aiZ {α : Type _} (x : α) (xs : List α) (a : α) : (x :: xs).set 0 a = a :: xs := rfl
theorem ai0 {α : Type _} (x : α) (xs : List α) (i : Nat) (a : α) : (x :: xs).set (i + 1) a = x :: xs.set i a := rfl
theorem ai1 {α : Type _} (a : α) (ys : List α) (i : Nat) : (a :: ys).take (i + 1) = a :: ys.take i := rfl
theorem ai2 {α : Type _} (a : α) (ys : List α) (i : Nat) : (a :: ys).drop (i + 1) = ys.drop i := rfl
abbrev ai3 : List Value := [.int .i32 0, .int .i32 0, .int .i32 0, .int .i32 0, .int .i32 0, .int .i32 0, .int .i32 0, .int .i32 0, .int .i32 0, .int .i32 0, .int .i32 0, .int .i32 0, .int .i32 0, .int .i32 0, .int .i32 0, .int .i32 0, .int .i32 0, .int .i32 0, .int .i32 0, .int .i32 0, .int .i32 0, .int .i32 0, .int .i32 0, .int .i32 0, .int .i32 0, .int .i32 0, .int .i32 0, .int .i32 0, .int .i32 0, .int .i32 0, .int .i32 0, .int .i32 0]
end Go.Proofs.YtlmgkipmfgijiaaGreatDoor
