/-
  What is proved here: abbreviations: proofs that come often, as auto-parameters; short names of lemmas.
-/
import Derived.WalkKit
import Derived.WalkSpells
import Derived.WalkLawsBesides
import Derived.Deep.QuietTactic
import Derived.BigQuiet
import Derived.Lib.Hide
import Derived.StillTail
import Derived.Deep.RegionHeld3
import Derived.Deep.RegionLaw
import Derived.Maps.AppendAt
import Derived.WideKeyEntry
import Derived.Maps.RangeRun
import Derived.Maps.Keyed
import Derived.Carry
import Derived.ProofKit
import Derived.OpenShut
import Derived.Below
import Derived.Lib.SmallJoins
import Derived.Deep.Slices
import Derived.Deep.MidRow
import Derived.Lib.Bytealg
import Derived.Lib.Strings
import Derived.MapViews
import Derived.Laws.OwnMore
import Derived.WalkSmall
import Derived.Deep.CutBlock
import Derived.Deep.DeepCutAuto
import Derived.IntWalk
import Derived.Laws.MakeOwn
import Derived.RangeFuncBox
import Derived.OneCell
import Derived.ChangeSame
import Derived.ChangeVars
import Derived.JoinedOf
import Derived.RowKit
import Derived.Deep.Strs
import Derived.Shelf.Small.Bits
import Derived.Deep.WholeRow
import Derived.Laws.CopyOwn
import Derived.BigRegion
import Derived.WalkKit      -- the walk's tactics, all law files, 'go_outline', the laws for what the call itself makes, 'Below': one name for all (Derived/WalkKit.lean lists them)
import Derived.WalkSpells   -- 'cell_one_new', 'cell_later', 'run_slice_of_slice' ..: small facts that a walk wants (HOWTO 8b)
import Derived.WalkLawsBesides   -- eleven texts of laws that WalkKit does not bring: floats, complex numbers, '<=' on strings, a slice against nil, Go's own panics, small laws for a world that is a variable (HOWTO 8b's head; howto/COVERAGE-ROWS.tsv)
import Derived.Laws.StructEq
namespace Go.Proofs.YtebklpnkcicpjaaGreatDoor
set_option linter.unusedVariables false
set_option linter.unusedSimpArgs false
set_option maxRecDepth 100000
set_option maxHeartbeats 8000000
open Go.RowKit
theorem abo {P : Prop} (h : P := by omega) : P := h
theorem abp {P : Prop} (h : P := by kernel_rfl) : P := h
theorem abq {P : Prop} (h : P := by first | exact Nat.le_refl _ | omega | (simp; done) | (simp; omega)) : P := h
theorem abr {P : Prop} (h : P := by decide) : P := h
theorem abt {P : Prop} (h : P := by simp [Value.oneCell']) : P := h
theorem abu {P : Prop} (h : P := by decide +kernel) : P := h
theorem abv {P : Prop} (h : P := by unfold maxLen; omega) : P := h
theorem abx {P : Prop} (h : P := by first | rfl | kernel_rfl) : P := h
theorem aby {P : Prop} (h : P := by simp) : P := h
theorem abz {P : Prop} (h : P := by first | exact Nat.le_refl _ | (simp; done) | (simp; omega) | omega) : P := h
theorem abA {P : Prop} (h : P := by simp; omega) : P := h
theorem abB {P : Prop} (h : P := by simp only [Int.toNat_natCast]; rintro ⟨q1, q2⟩; rw [dM, hat] at q1; omega) : P := h
theorem abC {P : Prop} (h : P := by simp only [Int.toNat_natCast]; rintro ⟨q1, q2⟩; rw [cg, hat] at q2; omega) : P := h
theorem abD {P : Prop} (h : P := by rw [World.size_alloc]; omega) : P := h
theorem abE {P : Prop} (h : P := by rw [hr.len]; exact ha) : P := h
theorem abF {P : Prop} (h : P := by simp [go_sem, *]) : P := h
theorem abG {P : Prop} (h : P := by rw [HN.out]; exact htn) : P := h
theorem abH {P : Prop} (h : P := by simp <;> omega) : P := h
theorem abI {P : Prop} (h : P := by first | exact Nat.le_refl _ | (simp only [World.size_alloc, World.size_drew]; omega) | omega) : P := h
theorem abJ {P : Prop} (h : P := by rw [HZ.out]; exact hlt) : P := h
theorem abK {P : Prop} (h : P := by show w.heap.size + 1 + 1 ≠ w.heap.size + 1; omega) : P := h
theorem abL {P : Prop} (h : P := by rw [hr.len]; exact hc) : P := h
theorem abM {P : Prop} (h : P := by rw [hr.len]; exact hb) : P := h
theorem abN {P : Prop} (h : P := by assumption) : P := h
theorem abO {P : Prop} (h : P := by first | omega | (simp; done) | (simp; omega)) : P := h
theorem abP {P : Prop} (h : P := by show w.heap.size ≤ w.heap.size + 1; omega) : P := h
theorem abQ {P : Prop} (h : P := by simp only; omega) : P := h
theorem abR {P : Prop} (h : P := by rw [HY.out]; exact hlt) : P := h
theorem abS {P : Prop} (h : P := by simpa using h) : P := h
theorem abT {P : Prop} (h : P := by show w.heap.size ≠ w.heap.size + 1; omega) : P := h
theorem abU {P : Prop} (h : P := by simp [results, Tryz.results19, go_sem, *]) : P := h
theorem abV {P : Prop} (h : P := by rw [HL.out]; exact hlt) : P := h
theorem abW {P : Prop} (h : P := by have := Iz.out; have := SV.out; omega) : P := h
theorem abX {P : Prop} (h : P := by simp [Act.eval, Act.put]) : P := h
theorem abY {P : Prop} (h : P := by unfold aP; omega) : P := h
theorem abZ {P : Prop} (h : P := by simp [results, Tryz.results62, go_sem, *]) : P := h
theorem ab0 {P : Prop} (h : P := by simp [results, Tryz.results31, go_sem, *]) : P := h
theorem ab1 {P : Prop} (h : P := by have h := st.out; simp [tX] at h; first | omega | exact h.symm) : P := h
theorem ab2 {P : Prop} (h : P := by rw [h] at hr; cases hr) : P := h
theorem ab3 {P : Prop} (h : P := by simp [Value.ownBlock]; omega) : P := h
theorem ab4 {P : Prop} (h : P := by have := bV.size; have := x0.h.size; have := hb.size; omega) : P := h
theorem ab5 {P : Prop} (h : P := by first | exact Nat.le_refl _ | (simp; done) | (simp; omega)) : P := h
theorem ab6 {P : Prop} (h : P := by have := S0.out; omega) : P := h
theorem ab7 {P : Prop} (h : P := by first | rfl | trivial) : P := h
theorem ab8 {P : Prop} (h : P := by simp only [World.size_alloc]; omega) : P := h
theorem ab9 {P : Prop} (h : P := by symm; simp; intro h; subst h; have h1 := QI.out; rw [QH.out] at h1; exact HQ.out (Option.some.inj h1).symm) : P := h
theorem acd {P : Prop} (h : P := by have := HA.out.lt; have := L5.out; unfold uh; omega) : P := h
theorem ace {P : Prop} (h : P := by rw [hl] at h0; exact h0) : P := h
theorem acf {P : Prop} (h : P := by show w.heap.size + 1 + 1 ≠ w.heap.size; omega) : P := h
theorem acg {P : Prop} (h : P := by rw [e]; rfl) : P := h
theorem ach {P : Prop} (h : P := by have := SV.out; omega) : P := h
theorem aci {P : Prop} (h : P := by simp only [World.size_alloc]) : P := h
theorem acj {P : Prop} (h : P := by rw [List.length_take]; omega) : P := h
theorem ack {P : Prop} (h : P := by simp only [List.length_cons] at hk; omega) : P := h
theorem acm {P : Prop} (h : P := by have := h.lt; omega) : P := h
theorem acn {P : Prop} (h : P := by rw [hr.len]; omega) : P := h
theorem aco {P : Prop} (h : P := by have h9 := Bk; rw [ak] at h9; rw [List.size_toArray, ax, RE.out.1.len]; exact h9) : P := h
theorem acp {P : Prop} (h : P := by have := h.2; rw [oM.out] at this; simp only [Prod.mk.injEq] at this; exact this) : P := h
theorem acr {P : Prop} (h : P := by rfl) : P := h
theorem acs {P : Prop} (h : P := by rw [oL.out]; exact hlt) : P := h
theorem acu {P : Prop} (h : P := by rw [HR.out]; exact hlt) : P := h
theorem acv {P : Prop} (h : P := by have := EO.out; omega) : P := h
theorem acw {P : Prop} (h : P := by (try split) <;> omega) : P := h
theorem acy {P : Prop} (h : P := by rw [nC.out]; exact h) : P := h
theorem acz {P : Prop} (h : P := by simpa using hi) : P := h
theorem acA {P : Prop} (h : P := by (repeat (first | exact Below.refl _ _ | refine Below.setCell ?_ ?_ _ | refine Ext.below ?_ ?_ _ | refine Below.alloc ?_ ?_ _)) <;> (first | (simp; done) | (simp; omega) | omega)) : P := h
theorem acB {P : Prop} (h : P := by (repeat (first | exact Below.refl _ _ | refine Below.setCell ?_ ?_ _ | refine Ext.below ?_ ?_ _ | refine Below.alloc ?_ ?_ _)) <;> (first | (simp; done) | (simp; omega) | omega | (simp only [World.size_setCell, World.size_alloc]; refine Nat.le_trans ?_ (Below.size (Ext.h _)); simp only [World.size_setCell, World.size_alloc]; omega))) : P := h
theorem acC {P : Prop} (h : P := by (repeat (first | assumption | refine Below.setCell ?_ ?_ _ | refine Ext.below ?_ ?_ _ | refine Below.alloc ?_ ?_ _)) <;> (first | (simp; done) | (simp; omega) | omega)) : P := h
theorem acD {p : Prop} (h : p) : Hid p := Lib.hid h
theorem acE {α : Type _} {xs : List α} {i : Nat} (h : i < xs.toArray.size) : xs.toArray[i] = xs[i]'(by simpa using h) := rfl
theorem acF {α : Type _} {a : α} {ys : List α} (h : 0 < (a :: ys).length) : (a :: ys)[0] = a := rfl
theorem acG {α : Type _} {a : α} {ys : List α} {i : Nat} (h : i + 1 < (a :: ys).length) : (a :: ys)[i + 1] = ys[i]'(by simpa using h) := rfl
theorem acH {α : Type _} (l : List α) (i : Nat) (a : α) : l.toArray.setIfInBounds i a = (l.set i a).toArray := List.setIfInBounds_toArray ..
theorem acI {α : Type _} (x : α) (xs : List α) (a : α) : (x :: xs).set 0 a = a :: xs := rfl
theorem acJ {α : Type _} (x : α) (xs : List α) (i : Nat) (a : α) : (x :: xs).set (i + 1) a = x :: xs.set i a := rfl
theorem acK {α : Type _} (a : α) (ys : List α) (i : Nat) : (a :: ys).take (i + 1) = a :: ys.take i := rfl
theorem acL {α : Type _} (a : α) (ys : List α) (i : Nat) : (a :: ys).drop (i + 1) = ys.drop i := rfl
abbrev acM : List Value := [.int .i32 0, .int .i32 0, .int .i32 0, .int .i32 0, .int .i32 0, .int .i32 0, .int .i32 0, .int .i32 0, .int .i32 0, .int .i32 0, .int .i32 0, .int .i32 0, .int .i32 0, .int .i32 0, .int .i32 0, .int .i32 0, .int .i32 0, .int .i32 0, .int .i32 0, .int .i32 0, .int .i32 0, .int .i32 0, .int .i32 0, .int .i32 0, .int .i32 0, .int .i32 0, .int .i32 0, .int .i32 0, .int .i32 0, .int .i32 0, .int .i32 0, .int .i32 0]
end Go.Proofs.YtebklpnkcicpjaaGreatDoor
