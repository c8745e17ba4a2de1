/-
  What is proved here: what isa.Encode returns.
-/
import Derived.Test.YtfceodpdipniaaaDoorCgValid
namespace Go.Proofs.YtfceodpdipniaaaDoor
open Go.RowKit
set_option linter.unusedVariables false
set_option linter.unusedSimpArgs false

theorem valid_any (i : Ins) (h0 : 0 ≤ i.op) (w : World) (T : Tab w) :
    Calls Tryd.prog 55 #[.agg #[.int .u8 i.op, .int .i64 i.a, .int .i64 i.b, .int .i64 i.c, .int .i64 i.imm]] w fun e w' => e = .returned (.bool (validI i)) ∧ Below w.heap.size w w' := by
  by_cases h : i.op < 30
  · exact valid_near i i.op.toNat (by omega) (by omega) w T
  · exact valid_far i h w

def posLo (c : Int) : Nat := if c = 65 then 22 else if c = 66 then 18 else if c = 67 then 14 else 0
def posSz (c : Int) : Nat := if c = 65 then 4 else if c = 66 then 4 else if c = 67 then 4 else 18
theorem position_at (c : Int) (w : World) : Calls Tryd.prog 53 #[.int .u8 c] w fun e w' => e = .returned (.tuple #[.int .i64 (posLo c : Int), .int .i64 (posSz c : Int)]) ∧ w = w' := by
  refine (position_any c w).mono fun e w' ⟨h1, h2⟩ => ⟨?_, h2⟩
  rw [h1]
  unfold posLo posSz
  by_cases q1 : c = 65
  · simp [q1]
  · by_cases q2 : c = 66
    · simp [q2]
    · by_cases q3 : c = 67
      · simp [q3]
      · simp [q1, q2, q3]
def letVal (i : Ins) (c : Int) : Int := if c = 65 then i.a else if c = 66 then i.b else if c = 67 then i.c else i.imm

def encStep (i : Ins) (x : Int) (c : Int) : Int := bits .or .u32 x (bits .and .u32 (letVal i c % 4294967296) ((2 ^ min (posSz c) 32 - 1) % 4294967296) * 2 ^ min (posLo c) 32 % 4294967296)
def encF (i : Ins) (l : List UInt8) : Int := l.foldl (fun x ch => encStep i x (ch.toNat : Int)) (i.op * 67108864)
/-- What Encode returns. -/
def encI (i : Ins) : Int × Int := if validI i = true then (encF i (fm i.op.toNat).ops, 0) else (0, 3)
theorem encF_take (i : Ins) (l : List UInt8) (j : Nat) (h : j < l.length) : encF i (l.take (j + 1)) = encStep i (encF i (l.take j)) ((l[j]'h).toNat : Int) := by
  unfold encF
  rw [List.take_add_one, List.foldl_append, List.getElem?_eq_getElem h]
  rfl

/-- The memory in the loop of Encode: the instruction in its box. -/
structure EL (w wr : World) (i : Ins) : Prop where
  sz : w.heap.size + 1 ≤ wr.heap.size
  bel : Below w.heap.size w wr
  i0 : wr.cell? ⟨w.heap.size, 0, none⟩ = some (.int .u8 i.op)
  i1 : wr.cell? ⟨w.heap.size, 1, none⟩ = some (.int .i64 i.a)
  i2 : wr.cell? ⟨w.heap.size, 2, none⟩ = some (.int .i64 i.b)
  i3 : wr.cell? ⟨w.heap.size, 3, none⟩ = some (.int .i64 i.c)
  i4 : wr.cell? ⟨w.heap.size, 4, none⟩ = some (.int .i64 i.imm)
theorem EL.ext {w wr : World} {i : Ins} (h : EL w wr i) (x : Ext wr) : EL w x.w i := by
  have hs := h.sz
  have b0 : w.heap.size < wr.heap.size := by omega
  exact ⟨by have := x.h.size; omega, Ext.below h.bel (by omega) x, by rw [x.cell _ _ b0]; exact h.i0, by rw [x.cell _ _ b0]; exact h.i1, by rw [x.cell _ _ b0]; exact h.i2, by rw [x.cell _ _ b0]; exact h.i3, by rw [x.cell _ _ b0]; exact h.i4⟩
theorem EL.at_ {w wr : World} {i : Ins} (h : EL w wr i) (c : Int) : wr.cell? ⟨w.heap.size, fieldNo c, none⟩ = some (.int .i64 (letVal i c)) := by
  unfold fieldNo letVal
  by_cases q1 : c = 65
  · simp [q1, h.i1]
  · by_cases q2 : c = 66
    · simp [q2, h.i2]
    · by_cases q3 : c = 67
      · simp [q3, h.i3]
      · simp [q1, q2, q3, h.i4]

theorem fm_len : ∀ k, k < 30 → (fm k).ops.length ≤ 3 := by decide

set_option maxHeartbeats 2000000 in
theorem encode_yes (i : Ins) (k : Nat) (hop : i.op = (k : Int)) (h : k < 30) (hv : validI i = true) (w : World) (T : Tab w) :
    Calls Tryd.prog 25 #[.agg #[.int .u8 i.op, .int .i64 i.a, .int .i64 i.b, .int .i64 i.c, .int .i64 i.imm]] w fun e w' => e = .returned (.tuple #[.int .u32 (encF i (fm i.op.toNat).ops), .int .i64 0]) ∧ Below w.heap.size w w' := by
  have hpos := T.pos
  have c1 := T.cells k h 1 _ rfl
  have HC : ∀ W : World, Tab W → Calls Tryd.prog 55 #[.agg #[.int .u8 i.op, .int .i64 i.a, .int .i64 i.b, .int .i64 i.c, .int .i64 i.imm]] W fun e w' => e = .returned (.bool true) ∧ Below W.heap.size W w' := fun W hT => by
    have := valid_any i (by omega) W hT
    rwa [hv] at this
  have HT := Lib.hid T
  have HL := Lib.hid (fm_len k h)
  obtain ⟨op, a, b, c, imm⟩ := i
  simp only at hop HC ⊢
  subst hop
  have HCc := Lib.hid HC
  clear HC T hv
  go_enter Tryd.func25, Tryd.ntmps25
  go_wp2_with (go_at_call 55; refine (Calls.ext (HCc.out _ (HT.out.below ((Below.refl _ _).alloc (Nat.le_refl _) _)))).mono ?_; rintro e w' ⟨rfl, y, rfl⟩)
  go_loopw [5, 6, 7, 8, 23] (fun a5 a6 a7 a8 q wr => ∃ j : Nat, j ≤ (fm k).ops.length ∧ q = .int .i64 (j : Int) ∧ a5 = .int .u32 (encF ⟨(k : Int), a, b, c, imm⟩ ((fm k).ops.take j)) ∧ EL w wr ⟨(k : Int), a, b, c, imm⟩) (fun _ _ _ _ q _ => (fm k).ops.length - (intOf q).toNat)
  case atStart =>
    refine ⟨0, by omega, rfl, ?_, ?_⟩
    · rfl
    · refine EL.ext (wr := w.alloc _) ⟨?_, ?_, ?_, ?_, ?_, ?_, ?_⟩ y
      all_goals first | (simp [go_sem]; done) | skip
      exact (Below.refl _ _).alloc (Nat.le_refl _) _
  case round =>
    obtain ⟨j, hj, rfl, rfl, hV⟩ := hrel
    have HVL := Lib.hid hV
    obtain ⟨sz, bel, i0, i1, i2, i3, i4⟩ := hV
    have b0 : w.heap.size < wr.heap.size := by omega
    have hl3 := HL.out
    clear bel c1
    by_cases hlt : j < (fm k).ops.length
    · obtain ⟨C, hC⟩ : ∃ C : Int, ((((fm k).ops[j]'hlt).toNat : Nat) : Int) = C := ⟨_, rfl⟩
      have z0 : ((({ data := (fm k).ops.toArray } : ByteArray)[j]'(by simpa [ByteArray.size] using hlt)).toNat : Int) = C := hC
      have HF : ∀ W : World, Calls Tryd.prog 54 #[.pointer (some ⟨w.heap.size, 0, none⟩), .int .u8 C] W fun e w' => e = .returned (.pointer (some ⟨w.heap.size, fieldNo C, none⟩)) ∧ W = w' := fun w' => field_any _ C w'
      have HP := position_at C
      have hf := HVL.out.at_ C
      have hsz : ByteArray.size { data := (fm k).ops.toArray } = (fm k).ops.length := by simp [ByteArray.size]
      have dl : decide ((j : Int) < ((fm k).ops.length : Int)) = true := by simpa using hlt
      obtain ⟨lo, hlo⟩ : ∃ lo, posLo C = lo := ⟨_, rfl⟩
      obtain ⟨sz', hsz'⟩ : ∃ s, posSz C = s := ⟨_, rfl⟩
      rw [hlo, hsz'] at HP
      go_wp2_with (go_at_call 53; with_reducible refine (HP _).mono ?_; rintro e w' ⟨rfl, rfl⟩)
      refine wp_region_ext (by kernel_rfl) (by kernel_rfl) ?_
      repeat (go_big_quiet_step (exact Calls.extq_same (HF _)))
      refine wpQuiet_nil ?_
      rintro _ ⟨y2, rfl⟩
      go_wp2_with fail
      go_roundw
      case rel =>
        refine ⟨j + 1, by omega, by go_num, ?_, HVL.out.ext y2⟩
        rw [encF_take _ _ _ hlt, hC]
        unfold encStep
        rw [hlo, hsz']
      case measure =>
        simp [intOf]
        omega
    · obtain rfl : j = (fm k).ops.length := by omega
      go_wp2_with fail
      go_ret2
      exact ⟨rfl, HVL.out.bel⟩

set_option maxHeartbeats 1000000 in
theorem encode_no (i : Ins) (h0 : 0 ≤ i.op) (hv : validI i = false) (w : World) (T : Tab w) :
    Calls Tryd.prog 25 #[.agg #[.int .u8 i.op, .int .i64 i.a, .int .i64 i.b, .int .i64 i.c, .int .i64 i.imm]] w fun e w' => e = .returned (.tuple #[.int .u32 0, .int .i64 3]) ∧ Below w.heap.size w w' := by
  have HC : ∀ W : World, Tab W → Calls Tryd.prog 55 #[.agg #[.int .u8 i.op, .int .i64 i.a, .int .i64 i.b, .int .i64 i.c, .int .i64 i.imm]] W fun e w' => e = .returned (.bool false) ∧ Below W.heap.size W w' := fun W hT => by
    have := valid_any i h0 W hT
    rwa [hv] at this
  have HT := Lib.hid T
  have HCc := Lib.hid HC
  clear HC T hv
  go_enter Tryd.func25, Tryd.ntmps25
  go_wp2_with (go_at_call 55; refine (Calls.ext (HCc.out _ (HT.out.below ((Below.refl _ _).alloc (Nat.le_refl _) _)))).mono ?_; rintro e w' ⟨rfl, y, rfl⟩)
  go_ret2
  refine ⟨rfl, Ext.below ((Below.refl _ _).alloc (Nat.le_refl _) _) (by simp) y⟩

theorem encode_any (i : Ins) (h0 : 0 ≤ i.op) (w : World) (T : Tab w) :
    Calls Tryd.prog 25 #[.agg #[.int .u8 i.op, .int .i64 i.a, .int .i64 i.b, .int .i64 i.c, .int .i64 i.imm]] w fun e w' => e = .returned (.tuple #[.int .u32 (encI i).1, .int .i64 (encI i).2]) ∧ Below w.heap.size w w' := by
  unfold encI
  by_cases hv : validI i = true
  · rw [if_pos hv]
    have ho : i.op < 30 := by
      unfold validI at hv
      simp at hv
      exact hv.1
    exact encode_yes i i.op.toNat (by omega) (by omega) hv w T
  · rw [if_neg hv]
    exact encode_no i h0 (by simpa using hv) w T

end Go.Proofs.YtfceodpdipniaaaDoor
