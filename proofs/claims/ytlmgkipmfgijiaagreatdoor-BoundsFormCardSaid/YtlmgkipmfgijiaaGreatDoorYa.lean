/-
  What is proved here: abbreviations: proofs that come often, as auto-parameters; short names of lemmas.
-/
import Derived.WalkKit
import Derived.WalkSpells
import Derived.WalkLawsBesides
import Derived.Deep.QuietTactic
import Derived.BigQuiet
import Derived.Lib.Hide
import Derived.StillTail
import Derived.Deep.RegionHeld3
import Derived.Deep.RegionLaw
import Derived.Maps.AppendAt
import Derived.WideKeyEntry
import Derived.Maps.RangeRun
import Derived.Maps.Keyed
import Derived.Carry
import Derived.ProofKit
import Derived.OpenShut
import Derived.Below
import Derived.Lib.SmallJoins
import Derived.Deep.Slices
import Derived.Deep.MidRow
import Derived.Lib.Bytealg
import Derived.Lib.Strings
import Derived.MapViews
import Derived.Laws.OwnMore
import Derived.WalkSmall
import Derived.Deep.CutBlock
import Derived.Deep.DeepCutAuto
import Derived.IntWalk
import Derived.Laws.MakeOwn
import Derived.RangeFuncBox
import Derived.OneCell
import Derived.ChangeSame
import Derived.ChangeVars
import Derived.JoinedOf
import Derived.RowKit
import Derived.Deep.Strs
import Derived.Laws.EntriesVeiled
import Derived.Shelf.SlIterI.Nil
import Derived.Shelf.SlIterI.Sorted
import Derived.Shelf.SortM.Plain
import Derived.Shelf.SortM.SortNone
import Derived.Ground.GgzProg
import Derived.Ground.SlgmProg
import Derived.Shelf.Small.Bits
import Derived.Deep.WholeRow
import Derived.Laws.CopyOwn
import Derived.BigRegion
import Derived.Deep.Upon
namespace Go.Proofs.YtlmgkipmfgijiaaGreatDoor
set_option linter.unusedVariables false
set_option linter.unusedSimpArgs false
set_option maxRecDepth 100000
set_option maxHeartbeats 8000000
open Go.RowKit
theorem agO {P : Prop} (h : P := by omega) : P := h
theorem agP {P : Prop} (h : P := by kernel_rfl) : P := h
theorem agQ {P : Prop} (h : P := by decide) : P := h
theorem agR {P : Prop} (h : P := by simp [Value.oneCell']) : P := h
theorem agS {P : Prop} (h : P := by unfold maxLen; omega) : P := h
theorem agT {P : Prop} (h : P := by simp) : P := h
theorem agU {P : Prop} (h : P := by first | (simp; done) | (simp [World.drew]; done) | (simp [World.drew]; omega)) : P := h
theorem agV {P : Prop} (h : P := by first | exact Nat.le_refl _ | exact vH.size | (simp; done) | (simp; omega) | omega) : P := h
theorem agW {P : Prop} (h : P := by first | rfl | (simp [Act.eval, Act.put]; done)) : P := h
theorem agX {P : Prop} (h : P := by simp; omega) : P := h
theorem agY {P : Prop} (h : P := by simp only [Int.toNat_natCast]; rintro ⟨q1, q2⟩; rw [cZ, hat] at q1; omega) : P := h
theorem agZ {P : Prop} (h : P := by simp only [Int.toNat_natCast]; rintro ⟨q1, q2⟩; rw [bE, hat] at q2; omega) : P := h
theorem ag0 {P : Prop} (h : P := by rw [World.size_alloc]; omega) : P := h
theorem ag1 {P : Prop} (h : P := by first | rfl | kernel_rfl) : P := h
theorem ag2 {P : Prop} (h : P := by simp [go_sem, *]) : P := h
theorem ag3 {P : Prop} (h : P := by rw [HN.out]; exact htn) : P := h
theorem ag4 {P : Prop} (h : P := by simp <;> omega) : P := h
theorem ag5 {P : Prop} (h : P := by rw [eM.out]; omega) : P := h
theorem ag6 {P : Prop} (h : P := by show w.heap.size + 1 + 1 ≠ w.heap.size + 1; omega) : P := h
theorem ag7 {P : Prop} (h : P := by first | exact vH.size | (rw [World.size_alloc]; exact Nat.le_succ_of_le vH.size)) : P := h
theorem ag8 {P : Prop} (h : P := by first | exact Nat.le_refl _ | (simp; done) | (simp; omega)) : P := h
theorem ag9 {P : Prop} (h : P := by show w.heap.size ≤ w.heap.size + 1; omega) : P := h
theorem aha {P : Prop} (h : P := by first | exact BX.out | exact BQ.out) : P := h
theorem ahb {P : Prop} (h : P := by rw [eM.out]; exact hn) : P := h
theorem ahc {P : Prop} (h : P := by simp only [World.size_alloc]; omega) : P := h
theorem ahd {P : Prop} (h : P := by first | exact hq ▸ BX.out.size | exact BX.out.size | omega) : P := h
theorem ahe {P : Prop} (h : P := by simpa using h) : P := h
theorem ahf {P : Prop} (h : P := by simp [results, Tryz.results12, go_sem, *]) : P := h
theorem ahg {P : Prop} (h : P := by rw [e]; rfl) : P := h
theorem ahh {P : Prop} (h : P := by simp only [World.size_alloc]) : P := h
theorem ahi {P : Prop} (h : P := by first | exact Nat.le_refl _ | (simp; done) | (simp; omega) | omega) : P := h
theorem ahj {P : Prop} (h : P := by simp [Act.eval, Act.put]) : P := h
theorem ahk {P : Prop} (h : P := by show X.heap.size ≤ (World.alloc _ _).heap.size; rw [World.size_alloc]; have := Lh.out; show X.heap.size ≤ U.heap.size + 1; omega) : P := h
theorem ahl {P : Prop} (h : P := by simp [results, Tryz.results22, go_sem, *]) : P := h
theorem ahm {P : Prop} (h : P := by rw [HM.out]; exact hlt) : P := h
theorem ahn {P : Prop} (h : P := by simp [Value.ownBlock]; omega) : P := h
theorem aho {P : Prop} (h : P := by have := SV.out; omega) : P := h
theorem ahp {P : Prop} (h : P := by have := S1.out; omega) : P := h
theorem ahq {P : Prop} (h : P := by have := S0.out; omega) : P := h
theorem ahr {P : Prop} (h : P := by first | rfl | trivial) : P := h
theorem ahs {P : Prop} (h : P := by simp only; omega) : P := h
theorem aht {P : Prop} (h : P := by symm; simp; intro h; subst h; have h1 := MU.out; rw [EU.out] at h1; exact HQ.out (Option.some.inj h1).symm) : P := h
theorem ahu {P : Prop} (h : P := by have := HA.out.lt; have := L5.out; unfold EF; omega) : P := h
theorem ahv {P : Prop} (h : P := by rw [hl] at h0; exact h0) : P := h
theorem ahw {P : Prop} (h : P := by simp [Value.ownBlock]) : P := h
theorem ahx {P : Prop} (h : P := by rw [hr.len]; exact ha) : P := h
theorem ahy {P : Prop} (h : P := by first | omega | (simp; done) | (simp; omega)) : P := h
theorem ahz {P : Prop} (h : P := by rw [List.length_take]; omega) : P := h
theorem ahA {P : Prop} (h : P := by rw [hs2]; omega) : P := h
theorem ahB {P : Prop} (h : P := by have := h.lt; omega) : P := h
theorem ahC {P : Prop} (h : P := by simpa using hi) : P := h
theorem ahD {P : Prop} (h : P := by rw [h] at hr; cases hr) : P := h
theorem ahE {P : Prop} (h : P := by have := HM.out; omega) : P := h
theorem ahF {P : Prop} (h : P := by (try split) <;> omega) : P := h
theorem ahG {P : Prop} (h : P := by simpa using hl) : P := h
theorem ahH {P : Prop} (h : P := by simpa using e') : P := h
theorem ahI {P : Prop} (h : P := by rw [nQ]; omega) : P := h
theorem ahJ {P : Prop} (h : P := by (repeat (first | exact Below.refl _ _ | refine Below.setCell ?_ ?_ _ | refine Ext.below ?_ ?_ _ | refine Below.alloc ?_ ?_ _)) <;> (first | (simp; done) | (simp; omega) | omega)) : P := h
theorem ahK {P : Prop} (h : P := by (repeat (first | exact Below.refl _ _ | refine Below.setCell ?_ ?_ _ | refine Ext.below ?_ ?_ _ | refine Below.alloc ?_ ?_ _)) <;> (first | (simp; done) | (simp; omega) | omega | (simp only [World.size_setCell, World.size_alloc]; refine Nat.le_trans ?_ (Below.size (Ext.h _)); simp only [World.size_setCell, World.size_alloc]; omega))) : P := h
theorem ahL {P : Prop} (h : P := by (repeat (first | assumption | refine Below.setCell ?_ ?_ _ | refine Ext.below ?_ ?_ _ | refine Below.alloc ?_ ?_ _)) <;> (first | (simp; done) | (simp; omega) | omega)) : P := h
theorem ahM {p : Prop} (h : p) : Hid p := Lib.hid h
theorem ahN {α : Type _} {xs : List α} {i : Nat} (h : i < xs.toArray.size) : xs.toArray[i] = xs[i]'(by simpa using h) := rfl
theorem ahO {α : Type _} {a : α} {ys : List α} (h : 0 < (a :: ys).length) : (a :: ys)[0] = a := rfl
theorem ahP {α : Type _} {a : α} {ys : List α} {i : Nat} (h : i + 1 < (a :: ys).length) : (a :: ys)[i + 1] = ys[i]'(by simpa using h) := rfl
theorem ahQ {α : Type _} (l : List α) (i : Nat) (a : α) : l.toArray.setIfInBounds i a = (l.set i a).toArray := List.setIfInBounds_toArray ..
theorem ahR {α : Type _} (x : α) (xs : List α) (a : α) : (x :: xs).set 0 a = a :: xs := rfl
theorem ahS {α : Type _} (x : α) (xs : List α) (i : Nat) (a : α) : (x :: xs).set (i + 1) a = x :: xs.set i a := rfl
theorem ahT {α : Type _} (a : α) (ys : List α) (i : Nat) : (a :: ys).take (i + 1) = a :: ys.take i := rfl
theorem ahU {α : Type _} (a : α) (ys : List α) (i : Nat) : (a :: ys).drop (i + 1) = ys.drop i := rfl
abbrev ahV : List Value := [.int .i32 0, .int .i32 0, .int .i32 0, .int .i32 0, .int .i32 0, .int .i32 0, .int .i32 0, .int .i32 0, .int .i32 0, .int .i32 0, .int .i32 0, .int .i32 0, .int .i32 0, .int .i32 0, .int .i32 0, .int .i32 0, .int .i32 0, .int .i32 0, .int .i32 0, .int .i32 0, .int .i32 0, .int .i32 0, .int .i32 0, .int .i32 0, .int .i32 0, .int .i32 0, .int .i32 0, .int .i32 0, .int .i32 0, .int .i32 0, .int .i32 0, .int .i32 0]
end Go.Proofs.YtlmgkipmfgijiaaGreatDoor
