/-
  What is proved here: what isa.Valid returns.
-/
import Derived.Test.YtfceodpdipniaaaDoorCgLaid
namespace Go.Proofs.YtfceodpdipniaaaDoor
open Go.RowKit
set_option linter.unusedVariables false
set_option linter.unusedSimpArgs false

theorem lt_ge2 (a b : Int) : a < b ∨ b ≤ a := by omega
def fm (k : Nat) : Fm := fms.getD k default
/-- The table of formats lies in memory. -/
structure Tab (w : World) : Prop where
  pos : 0 < w.heap.size
  cells : ∀ k, k < 30 → ∀ j v, (fm k).cells[j]? = some v → w.cell? ⟨0, k * 6 + j, none⟩ = some v
theorem Tab.below {w w' : World} (h : Tab w) (b : Below w.heap.size w w') : Tab w' :=
  ⟨by have := b.size; have := h.pos; omega, fun k hk j v hv => by rw [b.cell (p := ⟨0, _, none⟩) h.pos]; exact h.cells k hk j v hv⟩

def lettersN : List Nat := [65, 66, 67, 73]
def Ins.at_ (i : Ins) (k : Nat) : Int := [i.a, i.b, i.c, i.imm].getD k 0
def lowOf (f : Fm) (k : Nat) : Int := if 0 ≤ Lib.indexByte f.ops ((lettersN.getD k 0)).toUInt8 then (if k = 3 then f.lo else 0) else 0
def highOf (f : Fm) (k : Nat) : Int := if 0 ≤ Lib.indexByte f.ops ((lettersN.getD k 0)).toUInt8 then (if k = 3 then f.hi else 15) else 0
def okAt (f : Fm) (i : Ins) (k : Nat) : Prop := lowOf f k ≤ i.at_ k ∧ i.at_ k ≤ highOf f k
instance (f : Fm) (i : Ins) (k : Nat) : Decidable (okAt f i k) := by unfold okAt; infer_instance
def validI (i : Ins) : Bool := decide (i.op < 30) && (decide (okAt (fm i.op.toNat) i 0) && decide (okAt (fm i.op.toNat) i 1) && decide (okAt (fm i.op.toNat) i 2) && decide (okAt (fm i.op.toNat) i 3))
theorem validI_no {i : Ins} {j : Nat} (hj : j < 4) (h : ¬ okAt (fm i.op.toNat) i j) : validI i = false := by
  unfold validI
  obtain rfl | rfl | rfl | rfl : j = 0 ∨ j = 1 ∨ j = 2 ∨ j = 3 := by omega
  all_goals simp [h]
theorem validI_yes {i : Ins} (ho : i.op < 30) (h : ∀ j, j < 4 → okAt (fm i.op.toNat) i j) : validI i = true := by
  unfold validI
  simp [ho, h 0, h 1, h 2, h 3]

structure VL (w wr : World) (i : Ins) (f : Fm) : Prop where
  sz : w.heap.size + 2 ≤ wr.heap.size
  bel : Below w.heap.size w wr
  i1 : wr.cell? ⟨w.heap.size, 1, none⟩ = some (.int .i64 i.a)
  i2 : wr.cell? ⟨w.heap.size, 2, none⟩ = some (.int .i64 i.b)
  i3 : wr.cell? ⟨w.heap.size, 3, none⟩ = some (.int .i64 i.c)
  i4 : wr.cell? ⟨w.heap.size, 4, none⟩ = some (.int .i64 i.imm)
  f1 : wr.cell? ⟨w.heap.size + 1, 1, none⟩ = some (.string ⟨f.ops.toArray⟩)
  f4 : wr.cell? ⟨w.heap.size + 1, 4, none⟩ = some (.int .i64 f.lo)
  f5 : wr.cell? ⟨w.heap.size + 1, 5, none⟩ = some (.int .i64 f.hi)
theorem VL.ext {w wr : World} {i : Ins} {f : Fm} (h : VL w wr i f) (x : Ext wr) : VL w x.w i f := by
  have hs := h.sz
  have b0 : w.heap.size < wr.heap.size := by omega
  have b1 : w.heap.size + 1 < wr.heap.size := by omega
  exact ⟨by have := x.h.size; omega, Ext.below h.bel (by omega) x, by rw [x.cell _ _ b0]; exact h.i1, by rw [x.cell _ _ b0]; exact h.i2, by rw [x.cell _ _ b0]; exact h.i3, by rw [x.cell _ _ b0]; exact h.i4, by rw [x.cell _ _ b1]; exact h.f1, by rw [x.cell _ _ b1]; exact h.f4, by rw [x.cell _ _ b1]; exact h.f5⟩

set_option maxHeartbeats 1000000 in
theorem valid_far (i : Ins) (h : ¬ i.op < 30) (w : World) :
    Calls Tryd.prog 55 #[.agg #[.int .u8 i.op, .int .i64 i.a, .int .i64 i.b, .int .i64 i.c, .int .i64 i.imm]] w fun e w' => e = .returned (.bool (validI i)) ∧ Below w.heap.size w w' := by
  have d : decide (30 ≤ i.op) = true := by simp; omega
  have HV := Lib.hid (show validI i = false by unfold validI; simp [h])
  go_enter Tryd.func55, Tryd.ntmps55
  go_wp2_with fail
  go_ret
  refine ⟨ret_bool HV.out.symm, ?_⟩
  (repeat (first | exact Below.refl _ _ | refine Below.setCell ?_ ?_ _ | refine Ext.below ?_ ?_ _ | refine Below.alloc ?_ ?_ _)) <;> (first | (simp; done) | (simp; omega) | omega)

set_option maxHeartbeats 2000000 in
theorem valid_near (i : Ins) (k : Nat) (hop : i.op = (k : Int)) (h : k < 30) (w : World) (T : Tab w) :
    Calls Tryd.prog 55 #[.agg #[.int .u8 i.op, .int .i64 i.a, .int .i64 i.b, .int .i64 i.c, .int .i64 i.imm]] w fun e w' => e = .returned (.bool (validI i)) ∧ Below w.heap.size w w' := by
  have d : decide (30 ≤ i.op) = false := by simp; omega
  have hpos := T.pos
  have hT := T.cells k h
  have c0 := hT 0 _ rfl
  have c1 := hT 1 _ rfl
  have c2 := hT 2 _ rfl
  have c3 := hT 3 _ rfl
  have c4 := hT 4 _ rfl
  have c5 := hT 5 _ rfl
  rw [Nat.add_zero] at c0
  obtain ⟨op, a, b, c, imm⟩ := i
  simp only at hop d ⊢
  subst hop
  clear hT T
  go_enter Tryd.func55, Tryd.ntmps55
  go_wp2_with fail
  go_loopw [4, 5, 6, 7, 8, 16] (fun a4 a5 a6 a7 a8 q wr => ∃ j : Nat, j ≤ 4 ∧ q = .int .i64 (j : Int) ∧ (∀ m, m < j → okAt (fm k) ⟨(k : Int), a, b, c, imm⟩ m) ∧ VL w wr ⟨(k : Int), a, b, c, imm⟩ (fm k)) (fun _ _ _ _ _ q _ => 4 - (intOf q).toNat)
  case atStart =>
    refine ⟨0, by omega, rfl, fun m hm => by omega, ?_⟩
    refine ⟨?_, ?_, ?_, ?_, ?_, ?_, ?_, ?_, ?_⟩
    all_goals first | (simp [go_sem]; done) | skip
    exact ((Below.refl _ _).alloc (Nat.le_refl _) _).alloc (by simp) _
  case round =>
    obtain ⟨j, hj, rfl, hok, hV⟩ := hrel
    have HO := Lib.hid hok
    have HVL := Lib.hid hV
    obtain ⟨sz, bel, i1, i2, i3, i4, f1, f4, f5⟩ := hV
    have b0 : w.heap.size < wr.heap.size := by omega
    have b1 : w.heap.size + 1 < wr.heap.size := by omega
    have HB := Lib.hid bel
    clear hok bel d c0 c1 c2 c3 c4 c5
    have z0 : ((({ data := #[65, 66, 67, 73] } : ByteArray)[0]'(by decide)).toNat : Int) = 65 := rfl
    have z1 : ((({ data := #[65, 66, 67, 73] } : ByteArray)[1]'(by decide)).toNat : Int) = 66 := rfl
    have z2 : ((({ data := #[65, 66, 67, 73] } : ByteArray)[2]'(by decide)).toNat : Int) = 67 := rfl
    have z3 : ((({ data := #[65, 66, 67, 73] } : ByteArray)[3]'(by decide)).toNat : Int) = 73 := rfl
    by_cases hlt : j < 4
    · obtain ⟨X, hX⟩ : ∃ X, Lib.indexByte (fm k).ops ((lettersN.getD j 0)).toUInt8 = X := ⟨_, rfl⟩
      obtain rfl | rfl | rfl | rfl : j = 0 ∨ j = 1 ∨ j = 2 ∨ j = 3 := by omega
      · have HI : ∀ w : World, Calls Tryd.prog 62 #[.string ⟨(fm k).ops.toArray⟩, .int .u8 65] w fun e w' => e = .returned (.int .i64 X) ∧ w = w' := fun w => by
          have := idx_any ⟨(fm k).ops.toArray⟩ 65 w
          rw [show Lib.indexByte (⟨(fm k).ops.toArray⟩ : ByteArray).data.toList (65 : Int).toNat.toUInt8 = X from hX] at this
          exact this
        have HF : ∀ W : World, Calls Tryd.prog 54 #[.pointer (some ⟨(w).heap.size, 0, none⟩), .int .u8 65] W fun e w' => e = .returned (.pointer (some ⟨(w).heap.size, 1, none⟩)) ∧ W = w' := fun w' => field_any _ 65 w'
        by_cases hh : 0 ≤ X
        · have dh : decide (0 ≤ X) = true := decide_eq_true hh
          have hlow : lowOf (fm k) 0 = 0 := by unfold lowOf; rw [hX]; simp [hh]
          have hhigh : highOf (fm k) 0 = 15 := by unfold highOf; rw [hX]; simp [hh]
          have hat : Ins.at_ ⟨(k : Int), a, b, c, imm⟩ 0 = a := rfl
          rcases lt_ge2 a 0 with g1 | g1
          · have d1 : decide (a < 0) = true := decide_eq_true g1
            have HN := Lib.hid (validI_no (i := ⟨(k : Int), a, b, c, imm⟩) (j := 0) (by omega) (by simp only [Int.toNat_natCast]; rintro ⟨q1, q2⟩; rw [hlow, hat] at q1; omega))
            clear hlow hhigh hat
            go_wp2_with (first | (go_at_call 62; with_reducible refine (HI _).mono ?_; rintro e w' ⟨rfl, rfl⟩) | (go_at_call 54; with_reducible refine (HF _).mono ?_; rintro e w' ⟨rfl, rfl⟩))
            go_ret
            exact ⟨ret_bool HN.out.symm, HVL.out.bel⟩
          · have d1 : decide (a < 0) = false := decide_eq_false (by omega)
            rcases lt_ge2 15 a with g2 | g2
            · have d2 : decide (15 < a) = true := decide_eq_true g2
              have HN := Lib.hid (validI_no (i := ⟨(k : Int), a, b, c, imm⟩) (j := 0) (by omega) (by simp only [Int.toNat_natCast]; rintro ⟨q1, q2⟩; rw [hhigh, hat] at q2; omega))
              clear hlow hhigh hat
              go_wp2_with (first | (go_at_call 62; with_reducible refine (HI _).mono ?_; rintro e w' ⟨rfl, rfl⟩) | (go_at_call 54; with_reducible refine (HF _).mono ?_; rintro e w' ⟨rfl, rfl⟩))
              go_ret
              exact ⟨ret_bool HN.out.symm, HVL.out.bel⟩
            · have d2 : decide (15 < a) = false := decide_eq_false (by omega)
              have HY := Lib.hid (show okAt (fm k) ⟨(k : Int), a, b, c, imm⟩ 0 from ⟨by rw [hlow, hat]; omega, by rw [hhigh, hat]; omega⟩)
              clear hlow hhigh hat
              go_wp2_with (first | (go_at_call 62; with_reducible refine (HI _).mono ?_; rintro e w' ⟨rfl, rfl⟩) | (go_at_call 54; with_reducible refine (HF _).mono ?_; rintro e w' ⟨rfl, rfl⟩))
              go_roundw
              case rel => exact ⟨0 + 1, by omega, by go_num, fun m hm => by
                rcases Nat.lt_or_ge m 0 with q | q
                · exact HO.out m q
                · obtain rfl : m = 0 := by omega
                  exact HY.out, HVL.out⟩
              case measure => simp [intOf]
        · have dh : decide (0 ≤ X) = false := decide_eq_false hh
          have hlow : lowOf (fm k) 0 = 0 := by unfold lowOf; rw [hX]; simp [hh]
          have hhigh : highOf (fm k) 0 = 0 := by unfold highOf; rw [hX]; simp [hh]
          have hat : Ins.at_ ⟨(k : Int), a, b, c, imm⟩ 0 = a := rfl
          rcases lt_ge2 a 0 with g1 | g1
          · have d1 : decide (a < 0) = true := decide_eq_true g1
            have HN := Lib.hid (validI_no (i := ⟨(k : Int), a, b, c, imm⟩) (j := 0) (by omega) (by simp only [Int.toNat_natCast]; rintro ⟨q1, q2⟩; rw [hlow, hat] at q1; omega))
            clear hlow hhigh hat
            go_wp2_with (first | (go_at_call 62; with_reducible refine (HI _).mono ?_; rintro e w' ⟨rfl, rfl⟩) | (go_at_call 54; with_reducible refine (HF _).mono ?_; rintro e w' ⟨rfl, rfl⟩))
            go_ret
            exact ⟨ret_bool HN.out.symm, HVL.out.bel⟩
          · have d1 : decide (a < 0) = false := decide_eq_false (by omega)
            rcases lt_ge2 0 a with g2 | g2
            · have d2 : decide (0 < a) = true := decide_eq_true g2
              have HN := Lib.hid (validI_no (i := ⟨(k : Int), a, b, c, imm⟩) (j := 0) (by omega) (by simp only [Int.toNat_natCast]; rintro ⟨q1, q2⟩; rw [hhigh, hat] at q2; omega))
              clear hlow hhigh hat
              go_wp2_with (first | (go_at_call 62; with_reducible refine (HI _).mono ?_; rintro e w' ⟨rfl, rfl⟩) | (go_at_call 54; with_reducible refine (HF _).mono ?_; rintro e w' ⟨rfl, rfl⟩))
              go_ret
              exact ⟨ret_bool HN.out.symm, HVL.out.bel⟩
            · have d2 : decide (0 < a) = false := decide_eq_false (by omega)
              have HY := Lib.hid (show okAt (fm k) ⟨(k : Int), a, b, c, imm⟩ 0 from ⟨by rw [hlow, hat]; omega, by rw [hhigh, hat]; omega⟩)
              clear hlow hhigh hat
              go_wp2_with (first | (go_at_call 62; with_reducible refine (HI _).mono ?_; rintro e w' ⟨rfl, rfl⟩) | (go_at_call 54; with_reducible refine (HF _).mono ?_; rintro e w' ⟨rfl, rfl⟩))
              go_roundw
              case rel => exact ⟨0 + 1, by omega, by go_num, fun m hm => by
                rcases Nat.lt_or_ge m 0 with q | q
                · exact HO.out m q
                · obtain rfl : m = 0 := by omega
                  exact HY.out, HVL.out⟩
              case measure => simp [intOf]
      · have HI : ∀ w : World, Calls Tryd.prog 62 #[.string ⟨(fm k).ops.toArray⟩, .int .u8 66] w fun e w' => e = .returned (.int .i64 X) ∧ w = w' := fun w => by
          have := idx_any ⟨(fm k).ops.toArray⟩ 66 w
          rw [show Lib.indexByte (⟨(fm k).ops.toArray⟩ : ByteArray).data.toList (66 : Int).toNat.toUInt8 = X from hX] at this
          exact this
        have HF : ∀ W : World, Calls Tryd.prog 54 #[.pointer (some ⟨(w).heap.size, 0, none⟩), .int .u8 66] W fun e w' => e = .returned (.pointer (some ⟨(w).heap.size, 2, none⟩)) ∧ W = w' := fun w' => field_any _ 66 w'
        by_cases hh : 0 ≤ X
        · have dh : decide (0 ≤ X) = true := decide_eq_true hh
          have hlow : lowOf (fm k) 1 = 0 := by unfold lowOf; rw [hX]; simp [hh]
          have hhigh : highOf (fm k) 1 = 15 := by unfold highOf; rw [hX]; simp [hh]
          have hat : Ins.at_ ⟨(k : Int), a, b, c, imm⟩ 1 = b := rfl
          rcases lt_ge2 b 0 with g1 | g1
          · have d1 : decide (b < 0) = true := decide_eq_true g1
            have HN := Lib.hid (validI_no (i := ⟨(k : Int), a, b, c, imm⟩) (j := 1) (by omega) (by simp only [Int.toNat_natCast]; rintro ⟨q1, q2⟩; rw [hlow, hat] at q1; omega))
            clear hlow hhigh hat
            go_wp2_with (first | (go_at_call 62; with_reducible refine (HI _).mono ?_; rintro e w' ⟨rfl, rfl⟩) | (go_at_call 54; with_reducible refine (HF _).mono ?_; rintro e w' ⟨rfl, rfl⟩))
            go_ret
            exact ⟨ret_bool HN.out.symm, HVL.out.bel⟩
          · have d1 : decide (b < 0) = false := decide_eq_false (by omega)
            rcases lt_ge2 15 b with g2 | g2
            · have d2 : decide (15 < b) = true := decide_eq_true g2
              have HN := Lib.hid (validI_no (i := ⟨(k : Int), a, b, c, imm⟩) (j := 1) (by omega) (by simp only [Int.toNat_natCast]; rintro ⟨q1, q2⟩; rw [hhigh, hat] at q2; omega))
              clear hlow hhigh hat
              go_wp2_with (first | (go_at_call 62; with_reducible refine (HI _).mono ?_; rintro e w' ⟨rfl, rfl⟩) | (go_at_call 54; with_reducible refine (HF _).mono ?_; rintro e w' ⟨rfl, rfl⟩))
              go_ret
              exact ⟨ret_bool HN.out.symm, HVL.out.bel⟩
            · have d2 : decide (15 < b) = false := decide_eq_false (by omega)
              have HY := Lib.hid (show okAt (fm k) ⟨(k : Int), a, b, c, imm⟩ 1 from ⟨by rw [hlow, hat]; omega, by rw [hhigh, hat]; omega⟩)
              clear hlow hhigh hat
              go_wp2_with (first | (go_at_call 62; with_reducible refine (HI _).mono ?_; rintro e w' ⟨rfl, rfl⟩) | (go_at_call 54; with_reducible refine (HF _).mono ?_; rintro e w' ⟨rfl, rfl⟩))
              go_roundw
              case rel => exact ⟨1 + 1, by omega, by go_num, fun m hm => by
                rcases Nat.lt_or_ge m 1 with q | q
                · exact HO.out m q
                · obtain rfl : m = 1 := by omega
                  exact HY.out, HVL.out⟩
              case measure => simp [intOf]
        · have dh : decide (0 ≤ X) = false := decide_eq_false hh
          have hlow : lowOf (fm k) 1 = 0 := by unfold lowOf; rw [hX]; simp [hh]
          have hhigh : highOf (fm k) 1 = 0 := by unfold highOf; rw [hX]; simp [hh]
          have hat : Ins.at_ ⟨(k : Int), a, b, c, imm⟩ 1 = b := rfl
          rcases lt_ge2 b 0 with g1 | g1
          · have d1 : decide (b < 0) = true := decide_eq_true g1
            have HN := Lib.hid (validI_no (i := ⟨(k : Int), a, b, c, imm⟩) (j := 1) (by omega) (by simp only [Int.toNat_natCast]; rintro ⟨q1, q2⟩; rw [hlow, hat] at q1; omega))
            clear hlow hhigh hat
            go_wp2_with (first | (go_at_call 62; with_reducible refine (HI _).mono ?_; rintro e w' ⟨rfl, rfl⟩) | (go_at_call 54; with_reducible refine (HF _).mono ?_; rintro e w' ⟨rfl, rfl⟩))
            go_ret
            exact ⟨ret_bool HN.out.symm, HVL.out.bel⟩
          · have d1 : decide (b < 0) = false := decide_eq_false (by omega)
            rcases lt_ge2 0 b with g2 | g2
            · have d2 : decide (0 < b) = true := decide_eq_true g2
              have HN := Lib.hid (validI_no (i := ⟨(k : Int), a, b, c, imm⟩) (j := 1) (by omega) (by simp only [Int.toNat_natCast]; rintro ⟨q1, q2⟩; rw [hhigh, hat] at q2; omega))
              clear hlow hhigh hat
              go_wp2_with (first | (go_at_call 62; with_reducible refine (HI _).mono ?_; rintro e w' ⟨rfl, rfl⟩) | (go_at_call 54; with_reducible refine (HF _).mono ?_; rintro e w' ⟨rfl, rfl⟩))
              go_ret
              exact ⟨ret_bool HN.out.symm, HVL.out.bel⟩
            · have d2 : decide (0 < b) = false := decide_eq_false (by omega)
              have HY := Lib.hid (show okAt (fm k) ⟨(k : Int), a, b, c, imm⟩ 1 from ⟨by rw [hlow, hat]; omega, by rw [hhigh, hat]; omega⟩)
              clear hlow hhigh hat
              go_wp2_with (first | (go_at_call 62; with_reducible refine (HI _).mono ?_; rintro e w' ⟨rfl, rfl⟩) | (go_at_call 54; with_reducible refine (HF _).mono ?_; rintro e w' ⟨rfl, rfl⟩))
              go_roundw
              case rel => exact ⟨1 + 1, by omega, by go_num, fun m hm => by
                rcases Nat.lt_or_ge m 1 with q | q
                · exact HO.out m q
                · obtain rfl : m = 1 := by omega
                  exact HY.out, HVL.out⟩
              case measure => simp [intOf]
      · have HI : ∀ w : World, Calls Tryd.prog 62 #[.string ⟨(fm k).ops.toArray⟩, .int .u8 67] w fun e w' => e = .returned (.int .i64 X) ∧ w = w' := fun w => by
          have := idx_any ⟨(fm k).ops.toArray⟩ 67 w
          rw [show Lib.indexByte (⟨(fm k).ops.toArray⟩ : ByteArray).data.toList (67 : Int).toNat.toUInt8 = X from hX] at this
          exact this
        have HF : ∀ W : World, Calls Tryd.prog 54 #[.pointer (some ⟨(w).heap.size, 0, none⟩), .int .u8 67] W fun e w' => e = .returned (.pointer (some ⟨(w).heap.size, 3, none⟩)) ∧ W = w' := fun w' => field_any _ 67 w'
        by_cases hh : 0 ≤ X
        · have dh : decide (0 ≤ X) = true := decide_eq_true hh
          have hlow : lowOf (fm k) 2 = 0 := by unfold lowOf; rw [hX]; simp [hh]
          have hhigh : highOf (fm k) 2 = 15 := by unfold highOf; rw [hX]; simp [hh]
          have hat : Ins.at_ ⟨(k : Int), a, b, c, imm⟩ 2 = c := rfl
          rcases lt_ge2 c 0 with g1 | g1
          · have d1 : decide (c < 0) = true := decide_eq_true g1
            have HN := Lib.hid (validI_no (i := ⟨(k : Int), a, b, c, imm⟩) (j := 2) (by omega) (by simp only [Int.toNat_natCast]; rintro ⟨q1, q2⟩; rw [hlow, hat] at q1; omega))
            clear hlow hhigh hat
            go_wp2_with (first | (go_at_call 62; with_reducible refine (HI _).mono ?_; rintro e w' ⟨rfl, rfl⟩) | (go_at_call 54; with_reducible refine (HF _).mono ?_; rintro e w' ⟨rfl, rfl⟩))
            go_ret
            exact ⟨ret_bool HN.out.symm, HVL.out.bel⟩
          · have d1 : decide (c < 0) = false := decide_eq_false (by omega)
            rcases lt_ge2 15 c with g2 | g2
            · have d2 : decide (15 < c) = true := decide_eq_true g2
              have HN := Lib.hid (validI_no (i := ⟨(k : Int), a, b, c, imm⟩) (j := 2) (by omega) (by simp only [Int.toNat_natCast]; rintro ⟨q1, q2⟩; rw [hhigh, hat] at q2; omega))
              clear hlow hhigh hat
              go_wp2_with (first | (go_at_call 62; with_reducible refine (HI _).mono ?_; rintro e w' ⟨rfl, rfl⟩) | (go_at_call 54; with_reducible refine (HF _).mono ?_; rintro e w' ⟨rfl, rfl⟩))
              go_ret
              exact ⟨ret_bool HN.out.symm, HVL.out.bel⟩
            · have d2 : decide (15 < c) = false := decide_eq_false (by omega)
              have HY := Lib.hid (show okAt (fm k) ⟨(k : Int), a, b, c, imm⟩ 2 from ⟨by rw [hlow, hat]; omega, by rw [hhigh, hat]; omega⟩)
              clear hlow hhigh hat
              go_wp2_with (first | (go_at_call 62; with_reducible refine (HI _).mono ?_; rintro e w' ⟨rfl, rfl⟩) | (go_at_call 54; with_reducible refine (HF _).mono ?_; rintro e w' ⟨rfl, rfl⟩))
              go_roundw
              case rel => exact ⟨2 + 1, by omega, by go_num, fun m hm => by
                rcases Nat.lt_or_ge m 2 with q | q
                · exact HO.out m q
                · obtain rfl : m = 2 := by omega
                  exact HY.out, HVL.out⟩
              case measure => simp [intOf]
        · have dh : decide (0 ≤ X) = false := decide_eq_false hh
          have hlow : lowOf (fm k) 2 = 0 := by unfold lowOf; rw [hX]; simp [hh]
          have hhigh : highOf (fm k) 2 = 0 := by unfold highOf; rw [hX]; simp [hh]
          have hat : Ins.at_ ⟨(k : Int), a, b, c, imm⟩ 2 = c := rfl
          rcases lt_ge2 c 0 with g1 | g1
          · have d1 : decide (c < 0) = true := decide_eq_true g1
            have HN := Lib.hid (validI_no (i := ⟨(k : Int), a, b, c, imm⟩) (j := 2) (by omega) (by simp only [Int.toNat_natCast]; rintro ⟨q1, q2⟩; rw [hlow, hat] at q1; omega))
            clear hlow hhigh hat
            go_wp2_with (first | (go_at_call 62; with_reducible refine (HI _).mono ?_; rintro e w' ⟨rfl, rfl⟩) | (go_at_call 54; with_reducible refine (HF _).mono ?_; rintro e w' ⟨rfl, rfl⟩))
            go_ret
            exact ⟨ret_bool HN.out.symm, HVL.out.bel⟩
          · have d1 : decide (c < 0) = false := decide_eq_false (by omega)
            rcases lt_ge2 0 c with g2 | g2
            · have d2 : decide (0 < c) = true := decide_eq_true g2
              have HN := Lib.hid (validI_no (i := ⟨(k : Int), a, b, c, imm⟩) (j := 2) (by omega) (by simp only [Int.toNat_natCast]; rintro ⟨q1, q2⟩; rw [hhigh, hat] at q2; omega))
              clear hlow hhigh hat
              go_wp2_with (first | (go_at_call 62; with_reducible refine (HI _).mono ?_; rintro e w' ⟨rfl, rfl⟩) | (go_at_call 54; with_reducible refine (HF _).mono ?_; rintro e w' ⟨rfl, rfl⟩))
              go_ret
              exact ⟨ret_bool HN.out.symm, HVL.out.bel⟩
            · have d2 : decide (0 < c) = false := decide_eq_false (by omega)
              have HY := Lib.hid (show okAt (fm k) ⟨(k : Int), a, b, c, imm⟩ 2 from ⟨by rw [hlow, hat]; omega, by rw [hhigh, hat]; omega⟩)
              clear hlow hhigh hat
              go_wp2_with (first | (go_at_call 62; with_reducible refine (HI _).mono ?_; rintro e w' ⟨rfl, rfl⟩) | (go_at_call 54; with_reducible refine (HF _).mono ?_; rintro e w' ⟨rfl, rfl⟩))
              go_roundw
              case rel => exact ⟨2 + 1, by omega, by go_num, fun m hm => by
                rcases Nat.lt_or_ge m 2 with q | q
                · exact HO.out m q
                · obtain rfl : m = 2 := by omega
                  exact HY.out, HVL.out⟩
              case measure => simp [intOf]
      · have HI : ∀ w : World, Calls Tryd.prog 62 #[.string ⟨(fm k).ops.toArray⟩, .int .u8 73] w fun e w' => e = .returned (.int .i64 X) ∧ w = w' := fun w => by
          have := idx_any ⟨(fm k).ops.toArray⟩ 73 w
          rw [show Lib.indexByte (⟨(fm k).ops.toArray⟩ : ByteArray).data.toList (73 : Int).toNat.toUInt8 = X from hX] at this
          exact this
        have HF : ∀ W : World, Calls Tryd.prog 54 #[.pointer (some ⟨(w).heap.size, 0, none⟩), .int .u8 73] W fun e w' => e = .returned (.pointer (some ⟨(w).heap.size, 4, none⟩)) ∧ W = w' := fun w' => field_any _ 73 w'
        by_cases hh : 0 ≤ X
        · have dh : decide (0 ≤ X) = true := decide_eq_true hh
          have hlow : lowOf (fm k) 3 = (fm k).lo := by unfold lowOf; rw [hX]; simp [hh]
          have hhigh : highOf (fm k) 3 = (fm k).hi := by unfold highOf; rw [hX]; simp [hh]
          have hat : Ins.at_ ⟨(k : Int), a, b, c, imm⟩ 3 = imm := rfl
          rcases lt_ge2 imm (fm k).lo with g1 | g1
          · have d1 : decide (imm < (fm k).lo) = true := decide_eq_true g1
            have HN := Lib.hid (validI_no (i := ⟨(k : Int), a, b, c, imm⟩) (j := 3) (by omega) (by simp only [Int.toNat_natCast]; rintro ⟨q1, q2⟩; rw [hlow, hat] at q1; omega))
            clear hlow hhigh hat
            go_wp2_with (first | (go_at_call 62; with_reducible refine (HI _).mono ?_; rintro e w' ⟨rfl, rfl⟩) | (go_at_call 54; with_reducible refine (HF _).mono ?_; rintro e w' ⟨rfl, rfl⟩))
            refine wp_region_ext (by kernel_rfl) (by kernel_rfl) ?_
            repeat (go_big_quiet_step (fail))
            refine wpQuiet_nil ?_
            rintro _ ⟨y, rfl⟩
            go_wp2_with (go_at_call 54; with_reducible refine (HF _).mono ?_; rintro e w' ⟨rfl, rfl⟩)
            go_ret
            exact ⟨ret_bool HN.out.symm, (HVL.out.ext y).bel⟩
          · have d1 : decide (imm < (fm k).lo) = false := decide_eq_false (by omega)
            rcases lt_ge2 (fm k).hi imm with g2 | g2
            · have d2 : decide ((fm k).hi < imm) = true := decide_eq_true g2
              have HN := Lib.hid (validI_no (i := ⟨(k : Int), a, b, c, imm⟩) (j := 3) (by omega) (by simp only [Int.toNat_natCast]; rintro ⟨q1, q2⟩; rw [hhigh, hat] at q2; omega))
              clear hlow hhigh hat
              go_wp2_with (first | (go_at_call 62; with_reducible refine (HI _).mono ?_; rintro e w' ⟨rfl, rfl⟩) | (go_at_call 54; with_reducible refine (HF _).mono ?_; rintro e w' ⟨rfl, rfl⟩))
              refine wp_region_ext (by kernel_rfl) (by kernel_rfl) ?_
              repeat (go_big_quiet_step (fail))
              refine wpQuiet_nil ?_
              rintro _ ⟨y, rfl⟩
              go_wp2_with (go_at_call 54; with_reducible refine (HF _).mono ?_; rintro e w' ⟨rfl, rfl⟩)
              go_ret
              exact ⟨ret_bool HN.out.symm, (HVL.out.ext y).bel⟩
            · have d2 : decide ((fm k).hi < imm) = false := decide_eq_false (by omega)
              have HY := Lib.hid (show okAt (fm k) ⟨(k : Int), a, b, c, imm⟩ 3 from ⟨by rw [hlow, hat]; omega, by rw [hhigh, hat]; omega⟩)
              clear hlow hhigh hat
              go_wp2_with (first | (go_at_call 62; with_reducible refine (HI _).mono ?_; rintro e w' ⟨rfl, rfl⟩) | (go_at_call 54; with_reducible refine (HF _).mono ?_; rintro e w' ⟨rfl, rfl⟩))
              refine wp_region_ext (by kernel_rfl) (by kernel_rfl) ?_
              repeat (go_big_quiet_step (fail))
              refine wpQuiet_nil ?_
              rintro _ ⟨y, rfl⟩
              go_wp2_with (go_at_call 54; with_reducible refine (HF _).mono ?_; rintro e w' ⟨rfl, rfl⟩)
              go_roundw
              case rel => exact ⟨3 + 1, by omega, by go_num, fun m hm => by
                rcases Nat.lt_or_ge m 3 with q | q
                · exact HO.out m q
                · obtain rfl : m = 3 := by omega
                  exact HY.out, HVL.out.ext y⟩
              case measure => simp [intOf]
        · have dh : decide (0 ≤ X) = false := decide_eq_false hh
          have hlow : lowOf (fm k) 3 = 0 := by unfold lowOf; rw [hX]; simp [hh]
          have hhigh : highOf (fm k) 3 = 0 := by unfold highOf; rw [hX]; simp [hh]
          have hat : Ins.at_ ⟨(k : Int), a, b, c, imm⟩ 3 = imm := rfl
          rcases lt_ge2 imm 0 with g1 | g1
          · have d1 : decide (imm < 0) = true := decide_eq_true g1
            have HN := Lib.hid (validI_no (i := ⟨(k : Int), a, b, c, imm⟩) (j := 3) (by omega) (by simp only [Int.toNat_natCast]; rintro ⟨q1, q2⟩; rw [hlow, hat] at q1; omega))
            clear hlow hhigh hat
            go_wp2_with (first | (go_at_call 62; with_reducible refine (HI _).mono ?_; rintro e w' ⟨rfl, rfl⟩) | (go_at_call 54; with_reducible refine (HF _).mono ?_; rintro e w' ⟨rfl, rfl⟩))
            go_ret
            exact ⟨ret_bool HN.out.symm, HVL.out.bel⟩
          · have d1 : decide (imm < 0) = false := decide_eq_false (by omega)
            rcases lt_ge2 0 imm with g2 | g2
            · have d2 : decide (0 < imm) = true := decide_eq_true g2
              have HN := Lib.hid (validI_no (i := ⟨(k : Int), a, b, c, imm⟩) (j := 3) (by omega) (by simp only [Int.toNat_natCast]; rintro ⟨q1, q2⟩; rw [hhigh, hat] at q2; omega))
              clear hlow hhigh hat
              go_wp2_with (first | (go_at_call 62; with_reducible refine (HI _).mono ?_; rintro e w' ⟨rfl, rfl⟩) | (go_at_call 54; with_reducible refine (HF _).mono ?_; rintro e w' ⟨rfl, rfl⟩))
              go_ret
              exact ⟨ret_bool HN.out.symm, HVL.out.bel⟩
            · have d2 : decide (0 < imm) = false := decide_eq_false (by omega)
              have HY := Lib.hid (show okAt (fm k) ⟨(k : Int), a, b, c, imm⟩ 3 from ⟨by rw [hlow, hat]; omega, by rw [hhigh, hat]; omega⟩)
              clear hlow hhigh hat
              go_wp2_with (first | (go_at_call 62; with_reducible refine (HI _).mono ?_; rintro e w' ⟨rfl, rfl⟩) | (go_at_call 54; with_reducible refine (HF _).mono ?_; rintro e w' ⟨rfl, rfl⟩))
              go_roundw
              case rel => exact ⟨3 + 1, by omega, by go_num, fun m hm => by
                rcases Nat.lt_or_ge m 3 with q | q
                · exact HO.out m q
                · obtain rfl : m = 3 := by omega
                  exact HY.out, HVL.out⟩
              case measure => simp [intOf]
    · obtain rfl : j = 4 := by omega
      go_wp2_with fail
      go_ret
      exact ⟨ret_bool (validI_yes (by simp; omega) (by simpa using HO.out)).symm, HB.out⟩

end Go.Proofs.YtfceodpdipniaaaDoor
