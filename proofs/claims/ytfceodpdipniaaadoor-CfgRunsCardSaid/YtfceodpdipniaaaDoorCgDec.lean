/-
  What is proved here: what isa.Decode returns.
-/
import Derived.Test.YtfceodpdipniaaaDoorCgEnc
namespace Go.Proofs.YtfceodpdipniaaaDoor
open Go.RowKit
set_option linter.unusedVariables false
set_option linter.unusedSimpArgs false

theorem fm_letters : ∀ k, k < 30 → ∀ c ∈ (fm k).ops, c = 65 ∨ c = 66 ∨ c = 67 ∨ c = 73 := by decide

def rawVal (x c : Int) : Int := if c = 65 then wrap64 (bits .and .u32 (x / 4194304) 15) else if c = 66 then wrap64 (bits .and .u32 (x / 262144) 15) else if c = 67 then wrap64 (bits .and .u32 (x / 16384) 15) else if 131072 ≤ wrap64 (bits .and .u32 x 262143) then wrap64 (wrap64 (bits .and .u32 x 262143) - 262144) else wrap64 (bits .and .u32 x 262143)
def setLet (i : Ins) (c v : Int) : Ins := if c = 65 then { i with a := v } else if c = 66 then { i with b := v } else if c = 67 then { i with c := v } else { i with imm := v }
def decF (x : Int) (l : List UInt8) : Ins := l.foldl (fun i ch => setLet i (ch.toNat : Int) (rawVal x (ch.toNat : Int))) ⟨x / 67108864, 0, 0, 0, 0⟩
theorem decF_take (x : Int) (l : List UInt8) (j : Nat) (h : j < l.length) : decF x (l.take (j + 1)) = setLet (decF x (l.take j)) ((l[j]'h).toNat : Int) (rawVal x ((l[j]'h).toNat : Int)) := by
  unfold decF
  rw [List.take_add_one, List.foldl_append, List.getElem?_eq_getElem h]
  rfl

theorem decF_op (x : Int) (l : List UInt8) : (decF x l).op = x / 67108864 := by
  have : ∀ (l : List UInt8) (i : Ins), (l.foldl (fun i ch => setLet i (ch.toNat : Int) (rawVal x (ch.toNat : Int))) i).op = i.op := by
    intro l
    induction l with
    | nil => intro i; rfl
    | cons c l ih =>
      intro i
      rw [List.foldl_cons, ih]
      unfold setLet
      split
      · rfl
      · split
        · rfl
        · split <;> rfl
  exact this l _
def decOf (x : Int) : Ins := decF x (fm (x / 67108864).toNat).ops
/-- What Decode returns. -/
def decI (x : Int) : Ins × Int := if x / 67108864 < 30 ∧ encI (decOf x) = (x, 0) then (decOf x, 0) else (⟨0, 0, 0, 0, 0⟩, 3)

/-- The memory in the loop of Decode: the instruction. -/
structure DL (w wr : World) (i : Ins) : Prop where
  sz : w.heap.size + 2 ≤ wr.heap.size
  bel : Below w.heap.size w wr
  r : wr.heap[w.heap.size]? = some (.cells #[.int .u8 0, .int .i64 0, .int .i64 0, .int .i64 0, .int .i64 0] 53 (0, 0))
  o : wr.heap[w.heap.size + 1]? = some (.cells #[.int .u8 i.op, .int .i64 i.a, .int .i64 i.b, .int .i64 i.c, .int .i64 i.imm] 53 (0, 0))
theorem DL.ext {w wr : World} {i : Ins} (h : DL w wr i) (x : Ext wr) : DL w x.w i := by
  have hs := h.sz
  exact ⟨by have := x.h.size; omega, Ext.below h.bel (by omega) x, by rw [x.h.block _ (by omega)]; exact h.r, by rw [x.h.block _ (by omega)]; exact h.o⟩

theorem DL.cell {w wr : World} {i : Ins} (h : DL w wr i) (c : Int) : wr.cell? ⟨w.heap.size + 1, fieldNo c, none⟩ = some (.int .i64 (letVal i c)) ∧ wr.frozen? ⟨w.heap.size + 1, fieldNo c, none⟩ = false := by
  have ho := h.o
  unfold fieldNo letVal
  refine ⟨?_, ?_⟩
  all_goals
    by_cases q1 : c = 65
    · simp [q1, World.cell?, World.frozen?, ho]
    · by_cases q2 : c = 66
      · simp [q2, World.cell?, World.frozen?, ho]
      · by_cases q3 : c = 67
        · simp [q3, World.cell?, World.frozen?, ho]
        · simp [q1, q2, q3, World.cell?, World.frozen?, ho]
theorem DL.put {w wr : World} {i : Ins} (h : DL w wr i) (c v : Int) : DL w (wr.setCell ⟨w.heap.size + 1, fieldNo c, none⟩ (.int .i64 v)) (setLet i c v) := by
  have hs := h.sz
  refine ⟨by simpa using hs, h.bel.setCell (by show _ ≤ _ + 1; omega) _, ?_, ?_⟩
  · rw [Below.heap_setCell _ _ _ _ (by show _ ≠ _ + 1; omega)]; exact h.r
  · rw [heap_setCell_same _ _ _ _ _ _ h.o]
    unfold fieldNo setLet
    by_cases q1 : c = 65
    · simp [q1]
    · by_cases q2 : c = 66
      · simp [q2]
      · by_cases q3 : c = 67
        · simp [q3]
        · simp [q1, q2, q3]

set_option maxHeartbeats 2000000 in
theorem decode_near (x : Int) (k : Nat) (h : k < 30) (hx : x / 67108864 = (k : Int)) (hx0 : 0 ≤ x) (hx1 : x < 4294967296) (w : World) (T : Tab w) :
    Calls Tryd.prog 23 #[.int .u32 x] w fun e w' => e = .returned (.tuple #[(decI x).1.val, .int .i64 (decI x).2]) ∧ Below w.heap.size w w' := by
  have hpos := T.pos
  have c1 := T.cells k h 1 _ rfl
  have HT := Lib.hid T
  have HL := Lib.hid (fm_len k h)
  have d : decide (30 ≤ (k : Int)) = false := by simp; omega
  have hk : (k : Int) % 256 = k := by omega
  clear T
  go_enter Tryd.func23, Tryd.ntmps23
  go_wp2_with fail
  go_loopw [6, 7, 8, 9, 27] (fun a6 a7 a8 a9 q wr => ∃ j : Nat, j ≤ (fm k).ops.length ∧ q = .int .i64 (j : Int) ∧ DL w wr (decF x ((fm k).ops.take j))) (fun _ _ _ _ q _ => (fm k).ops.length - (intOf q).toNat)
  case atStart =>
    refine ⟨0, by omega, rfl, ?_⟩
    refine ⟨?_, ?_, ?_, ?_⟩
    all_goals first | (simp [go_sem]; done) | skip
    · exact ((Below.refl _ _).alloc (Nat.le_refl _) _).alloc (by simp) _
    · exact heap_alloc2_old _ _ _
    · rw [heap_alloc2_new]
      simp [decF, hx]
  case round =>
    obtain ⟨j, hj, rfl, hV⟩ := hrel
    have HVL := Lib.hid hV
    obtain ⟨sz, bel, rr, oo⟩ := hV
    have b0 : w.heap.size < wr.heap.size := by omega
    have b1 : w.heap.size + 1 < wr.heap.size := by omega
    have hl3 := HL.out
    clear bel c1
    by_cases hlt : j < (fm k).ops.length
    · obtain ⟨i, hi⟩ : ∃ i, decF x ((fm k).ops.take j) = i := ⟨_, rfl⟩
      rw [hi] at oo
      have hcs := fm_letters k h ((fm k).ops[j]'hlt) (List.getElem_mem hlt)
      obtain ⟨C, hC⟩ : ∃ C : Int, ((((fm k).ops[j]'hlt).toNat : Nat) : Int) = C := ⟨_, rfl⟩
      have z0 : ((({ data := (fm k).ops.toArray } : ByteArray)[j]'(by simpa [ByteArray.size] using hlt)).toNat : Int) = C := hC
      have hC4 : C = 65 ∨ C = 66 ∨ C = 67 ∨ C = 73 := by
        rw [← hC]
        rcases hcs with q | q | q | q <;> rw [q] <;> decide
      have hsz : ByteArray.size { data := (fm k).ops.toArray } = (fm k).ops.length := by simp [ByteArray.size]
      have dl : decide ((j : Int) < ((fm k).ops.length : Int)) = true := by simpa using hlt
      clear hcs
      rcases hC4 with rfl | rfl | rfl | rfl
      · have HF : ∀ W : World, Calls Tryd.prog 54 #[.pointer (some ⟨w.heap.size + 1, 0, none⟩), .int .u8 65] W fun e w' => e = .returned (.pointer (some ⟨w.heap.size + 1, 1, none⟩)) ∧ W = w' := fun w' => field_any _ 65 w'
        have HP : ∀ W : World, Calls Tryd.prog 53 #[.int .u8 65] W fun e w' => e = .returned (.tuple #[.int .i64 22, .int .i64 4]) ∧ W = w' := fun W => position_at 65 W
        have cc : wr.cell? ⟨w.heap.size + 1, 1, none⟩ = some (.int .i64 (letVal i 65)) := by have := (HVL.out.cell 65).1; rw [hi] at this; exact this
        have cf : wr.frozen? ⟨w.heap.size + 1, 1, none⟩ = false := (HVL.out.cell 65).2
        go_wp2_with (go_at_call 53; with_reducible refine (HP _).mono ?_; rintro e w' ⟨rfl, rfl⟩)
        refine wp_region_ext (by kernel_rfl) (by kernel_rfl) ?_
        repeat (go_big_quiet_step (fail))
        refine wpQuiet_nil ?_
        rintro _ ⟨y2, rfl⟩
        go_wp2_with (go_at_call 54; with_reducible refine (HF _).mono ?_; rintro e w' ⟨rfl, rfl⟩)
        go_roundw
        case rel =>
          refine ⟨j + 1, by omega, by go_num, ?_⟩
          rw [decF_take _ _ _ hlt, hC]
          have hr : rawVal x 65 = wrap64 (bits .and .u32 (x / 4194304) 15) := by unfold rawVal; rw [if_pos rfl]
          rw [hr]
          exact (HVL.out.ext y2).put 65 _
        case measure =>
          simp [intOf]
          omega
      · have HF : ∀ W : World, Calls Tryd.prog 54 #[.pointer (some ⟨w.heap.size + 1, 0, none⟩), .int .u8 66] W fun e w' => e = .returned (.pointer (some ⟨w.heap.size + 1, 2, none⟩)) ∧ W = w' := fun w' => field_any _ 66 w'
        have HP : ∀ W : World, Calls Tryd.prog 53 #[.int .u8 66] W fun e w' => e = .returned (.tuple #[.int .i64 18, .int .i64 4]) ∧ W = w' := fun W => position_at 66 W
        have cc : wr.cell? ⟨w.heap.size + 1, 2, none⟩ = some (.int .i64 (letVal i 66)) := by have := (HVL.out.cell 66).1; rw [hi] at this; exact this
        have cf : wr.frozen? ⟨w.heap.size + 1, 2, none⟩ = false := (HVL.out.cell 66).2
        go_wp2_with (go_at_call 53; with_reducible refine (HP _).mono ?_; rintro e w' ⟨rfl, rfl⟩)
        refine wp_region_ext (by kernel_rfl) (by kernel_rfl) ?_
        repeat (go_big_quiet_step (fail))
        refine wpQuiet_nil ?_
        rintro _ ⟨y2, rfl⟩
        go_wp2_with (go_at_call 54; with_reducible refine (HF _).mono ?_; rintro e w' ⟨rfl, rfl⟩)
        go_roundw
        case rel =>
          refine ⟨j + 1, by omega, by go_num, ?_⟩
          rw [decF_take _ _ _ hlt, hC]
          have hr : rawVal x 66 = wrap64 (bits .and .u32 (x / 262144) 15) := by unfold rawVal; rw [if_neg (by decide), if_pos rfl]
          rw [hr]
          exact (HVL.out.ext y2).put 66 _
        case measure =>
          simp [intOf]
          omega
      · have HF : ∀ W : World, Calls Tryd.prog 54 #[.pointer (some ⟨w.heap.size + 1, 0, none⟩), .int .u8 67] W fun e w' => e = .returned (.pointer (some ⟨w.heap.size + 1, 3, none⟩)) ∧ W = w' := fun w' => field_any _ 67 w'
        have HP : ∀ W : World, Calls Tryd.prog 53 #[.int .u8 67] W fun e w' => e = .returned (.tuple #[.int .i64 14, .int .i64 4]) ∧ W = w' := fun W => position_at 67 W
        have cc : wr.cell? ⟨w.heap.size + 1, 3, none⟩ = some (.int .i64 (letVal i 67)) := by have := (HVL.out.cell 67).1; rw [hi] at this; exact this
        have cf : wr.frozen? ⟨w.heap.size + 1, 3, none⟩ = false := (HVL.out.cell 67).2
        go_wp2_with (go_at_call 53; with_reducible refine (HP _).mono ?_; rintro e w' ⟨rfl, rfl⟩)
        refine wp_region_ext (by kernel_rfl) (by kernel_rfl) ?_
        repeat (go_big_quiet_step (fail))
        refine wpQuiet_nil ?_
        rintro _ ⟨y2, rfl⟩
        go_wp2_with (go_at_call 54; with_reducible refine (HF _).mono ?_; rintro e w' ⟨rfl, rfl⟩)
        go_roundw
        case rel =>
          refine ⟨j + 1, by omega, by go_num, ?_⟩
          rw [decF_take _ _ _ hlt, hC]
          have hr : rawVal x 67 = wrap64 (bits .and .u32 (x / 16384) 15) := by unfold rawVal; rw [if_neg (by decide), if_neg (by decide), if_pos rfl]
          rw [hr]
          exact (HVL.out.ext y2).put 67 _
        case measure =>
          simp [intOf]
          omega
      · have HF : ∀ W : World, Calls Tryd.prog 54 #[.pointer (some ⟨w.heap.size + 1, 0, none⟩), .int .u8 73] W fun e w' => e = .returned (.pointer (some ⟨w.heap.size + 1, 4, none⟩)) ∧ W = w' := fun w' => field_any _ 73 w'
        have HP : ∀ W : World, Calls Tryd.prog 53 #[.int .u8 73] W fun e w' => e = .returned (.tuple #[.int .i64 0, .int .i64 18]) ∧ W = w' := fun W => position_at 73 W
        have cc : wr.cell? ⟨w.heap.size + 1, 4, none⟩ = some (.int .i64 (letVal i 73)) := by have := (HVL.out.cell 73).1; rw [hi] at this; exact this
        have cf : wr.frozen? ⟨w.heap.size + 1, 4, none⟩ = false := (HVL.out.cell 73).2
        by_cases hg : 131072 ≤ wrap64 (bits .and .u32 x 262143)
        · have dg : decide (131072 ≤ wrap64 (bits .and .u32 x 262143)) = true := decide_eq_true hg
          go_wp2_with (go_at_call 53; with_reducible refine (HP _).mono ?_; rintro e w' ⟨rfl, rfl⟩)
          refine wp_region_ext (by kernel_rfl) (by kernel_rfl) ?_
          repeat (go_big_quiet_step (fail))
          refine wpQuiet_nil ?_
          rintro _ ⟨y2, rfl⟩
          go_wp2_with (go_at_call 54; with_reducible refine (HF _).mono ?_; rintro e w' ⟨rfl, rfl⟩)
          go_roundw
          case rel =>
            refine ⟨j + 1, by omega, by go_num, ?_⟩
            rw [decF_take _ _ _ hlt, hC]
            have hr : rawVal x 73 = wrap64 (wrap64 (bits .and .u32 x 262143) - 262144) := by unfold rawVal; rw [if_neg (by decide), if_neg (by decide), if_neg (by decide), if_pos hg]
            rw [hr]
            exact (HVL.out.ext y2).put 73 _
          case measure =>
            simp [intOf]
            omega
        · have dg : decide (131072 ≤ wrap64 (bits .and .u32 x 262143)) = false := decide_eq_false hg
          go_wp2_with (go_at_call 53; with_reducible refine (HP _).mono ?_; rintro e w' ⟨rfl, rfl⟩)
          refine wp_region_ext (by kernel_rfl) (by kernel_rfl) ?_
          repeat (go_big_quiet_step (fail))
          refine wpQuiet_nil ?_
          rintro _ ⟨y2, rfl⟩
          go_wp2_with (go_at_call 54; with_reducible refine (HF _).mono ?_; rintro e w' ⟨rfl, rfl⟩)
          go_roundw
          case rel =>
            refine ⟨j + 1, by omega, by go_num, ?_⟩
            rw [decF_take _ _ _ hlt, hC]
            have hr : rawVal x 73 = wrap64 (bits .and .u32 x 262143) := by unfold rawVal; rw [if_neg (by decide), if_neg (by decide), if_neg (by decide), if_neg (Int.not_le.mpr hg)]
            rw [hr]
            exact (HVL.out.ext y2).put 73 _
          case measure =>
            simp [intOf]
            omega
    · obtain rfl : j = (fm k).ops.length := by omega
      rw [List.take_length] at oo
      obtain ⟨i, hi⟩ : ∃ i, decF x (fm k).ops = i := ⟨_, rfl⟩
      have hio : decOf x = i := by unfold decOf; rw [hx]; exact hi
      have hop : i.op = (k : Int) := by rw [← hi, decF_op, hx]
      rw [hi] at oo
      have HTr := Lib.hid (HT.out.below HVL.out.bel)
      have HE := Lib.hid (encode_any i (by omega) wr HTr.out)
      have hx30 : x / 67108864 < 30 := by omega
      obtain ⟨E1, E2, hE⟩ : ∃ E1 E2, encI i = (E1, E2) := ⟨_, _, rfl⟩
      rw [hE] at HE
      have HD := Lib.hid (show decI x = if E1 = x ∧ E2 = 0 then (i, 0) else (⟨0, 0, 0, 0, 0⟩, 3) by
        unfold decI
        rw [hio, hE]
        simp [hx30])
      obtain ⟨op, a, b, c, imm⟩ := i
      simp only at HE oo
      have o0 : wr.cell? ⟨w.heap.size + 1, 0, none⟩ = some (.int .u8 op) := by simp [World.cell?, oo]
      have r0 : wr.cell? ⟨w.heap.size, 0, none⟩ = some (.int .u8 0) := by simp [World.cell?, rr]
      have rf0 : wr.frozen? ⟨w.heap.size, 0, none⟩ = false := by simp [World.frozen?, rr]
      have o1 : wr.cell? ⟨w.heap.size + 1, 1, none⟩ = some (.int .i64 a) := by simp [World.cell?, oo]
      have r1 : wr.cell? ⟨w.heap.size, 1, none⟩ = some (.int .i64 0) := by simp [World.cell?, rr]
      have rf1 : wr.frozen? ⟨w.heap.size, 1, none⟩ = false := by simp [World.frozen?, rr]
      have o2 : wr.cell? ⟨w.heap.size + 1, 2, none⟩ = some (.int .i64 b) := by simp [World.cell?, oo]
      have r2 : wr.cell? ⟨w.heap.size, 2, none⟩ = some (.int .i64 0) := by simp [World.cell?, rr]
      have rf2 : wr.frozen? ⟨w.heap.size, 2, none⟩ = false := by simp [World.frozen?, rr]
      have o3 : wr.cell? ⟨w.heap.size + 1, 3, none⟩ = some (.int .i64 c) := by simp [World.cell?, oo]
      have r3 : wr.cell? ⟨w.heap.size, 3, none⟩ = some (.int .i64 0) := by simp [World.cell?, rr]
      have rf3 : wr.frozen? ⟨w.heap.size, 3, none⟩ = false := by simp [World.frozen?, rr]
      have o4 : wr.cell? ⟨w.heap.size + 1, 4, none⟩ = some (.int .i64 imm) := by simp [World.cell?, oo]
      have r4 : wr.cell? ⟨w.heap.size, 4, none⟩ = some (.int .i64 0) := by simp [World.cell?, rr]
      have rf4 : wr.frozen? ⟨w.heap.size, 4, none⟩ = false := by simp [World.frozen?, rr]
      go_wp2_with (go_at_call 25; refine (Calls.ext HE.out).mono ?_; rintro e w' ⟨rfl, y, rfl⟩)
      · rename_i q1 q2
        have hne : ¬ (E1 = x ∧ E2 = 0) := by rintro ⟨p1, p2⟩; simp [p1] at q2
        refine bodyPost_ret (v := .tuple #[.agg #[.int .u8 0, .int .i64 0, .int .i64 0, .int .i64 0, .int .i64 0], .int .i64 3]) (by simp [results, Tryd.results23, go_sem, *]) rfl ⟨?_, ?_⟩
        · rw [HD.out, if_neg hne]; rfl
        · refine Below.setCell (Below.setCell (Below.setCell (Below.setCell (Below.setCell (Ext.below HVL.out.bel (by omega) y) ?_ _) ?_ _) ?_ _) ?_ _) ?_ _ <;> exact Nat.le_refl _
      · rename_i q1 q2
        have hyes : E1 = x ∧ E2 = 0 := ⟨by simpa using q2, q1⟩
        refine bodyPost_ret (v := .tuple #[.agg #[.int .u8 op, .int .i64 a, .int .i64 b, .int .i64 c, .int .i64 imm], .int .i64 0]) (by simp [results, Tryd.results23, go_sem, *]) rfl ⟨?_, ?_⟩
        · rw [HD.out, if_pos hyes]; rfl
        · refine Below.setCell (Below.setCell (Below.setCell (Below.setCell (Below.setCell (Ext.below HVL.out.bel (by omega) y) ?_ _) ?_ _) ?_ _) ?_ _) ?_ _ <;> exact Nat.le_refl _
      · rename_i q1
        have hne : ¬ (E1 = x ∧ E2 = 0) := by rintro ⟨p1, p2⟩; exact q1 p2
        refine bodyPost_ret (v := .tuple #[.agg #[.int .u8 0, .int .i64 0, .int .i64 0, .int .i64 0, .int .i64 0], .int .i64 3]) (by simp [results, Tryd.results23, go_sem, *]) rfl ⟨?_, ?_⟩
        · rw [HD.out, if_neg hne]; rfl
        · refine Below.setCell (Below.setCell (Below.setCell (Below.setCell (Below.setCell (Ext.below HVL.out.bel (by omega) y) ?_ _) ?_ _) ?_ _) ?_ _) ?_ _ <;> exact Nat.le_refl _

set_option maxHeartbeats 1000000 in
theorem decode_far (x : Int) (h : ¬ x / 67108864 < 30) (hx0 : 0 ≤ x) (hx1 : x < 4294967296) (w : World) :
    Calls Tryd.prog 23 #[.int .u32 x] w fun e w' => e = .returned (.tuple #[(decI x).1.val, .int .i64 (decI x).2]) ∧ Below w.heap.size w w' := by
  obtain ⟨q, hq⟩ : ∃ q, x / 67108864 = q := ⟨_, rfl⟩
  have HD := Lib.hid (show decI x = (⟨0, 0, 0, 0, 0⟩, 3) by unfold decI; simp [h])
  have d : decide (30 ≤ q) = true := by simp; omega
  have hk : q % 256 = q := by omega
  go_enter Tryd.func23, Tryd.ntmps23
  go_wp2_with fail
  refine bodyPost_ret (v := .tuple #[.agg #[.int .u8 0, .int .i64 0, .int .i64 0, .int .i64 0, .int .i64 0], .int .i64 3]) (by simp [results, Tryd.results23, go_sem, *]) rfl ⟨?_, ?_⟩
  · rw [HD.out]; rfl
  · (repeat (first | exact Below.refl _ _ | refine Below.setCell ?_ ?_ _ | refine Below.alloc ?_ ?_ _)) <;> (first | (simp; done) | (simp; omega) | omega)

theorem decode_any (x : Int) (hx0 : 0 ≤ x) (hx1 : x < 4294967296) (w : World) (T : Tab w) :
    Calls Tryd.prog 23 #[.int .u32 x] w fun e w' => e = .returned (.tuple #[(decI x).1.val, .int .i64 (decI x).2]) ∧ Below w.heap.size w w' := by
  by_cases h : x / 67108864 < 30
  · exact decode_near x (x / 67108864).toNat (by omega) (by omega) hx0 hx1 w T
  · exact decode_far x h hx0 hx1 w

end Go.Proofs.YtfceodpdipniaaaDoor
