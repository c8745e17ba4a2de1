/-
  What is proved here: the law IntervalWidens returns true for every input.
-/
import Derived.Test.YtjkjcnamlankoaaIvApply1
import Derived.Test.YtjkjcnamlankoaaIvOpen
import Derived.Test.YtjkjcnamlankoaaIvWidenPlain
import Derived.Deep.Slices
namespace Go.Proofs.Ytjkjcnamlankoaa
open Go.ChangeShapes Go.WideShapes Go.ChangeAt Go.RowKit

theorem isEmpty_is (xl xh : Int) (b : Bool) (w : World) (h : decide (xh < xl) = b) : Calls Try.prog 19 #[.agg #[.int .i32 xl, .int .i32 xh]] w fun e w' => e = .returned (.bool b) ∧ Below w.heap.size w w' :=
  (isEmpty_any xl xh w).mono fun _ _ ⟨h1, k⟩ => ⟨by rw [h1, h], k⟩

set_option maxRecDepth 100000 in
set_option maxHeartbeats 4000000 in
theorem widens_some (xl xh : Int) (b off len cap : Nat) (lo hi : Nat → Int) (w : World) (hx1 : -2147483648 ≤ xl) (hx2 : xl ≤ 2147483647) (hx3 : -2147483648 ≤ xh) (hx4 : xh ≤ 2147483647) (hlen : len ≤ 60) (hb : b < w.heap.size)
    (hc0 : ∀ i, i < len → w.cell? ⟨b, off + i * 2, none⟩ = some (.int .i32 (lo i))) (hc1 : ∀ i, i < len → w.cell? ⟨b, off + i * 2 + 1, none⟩ = some (.int .i32 (hi i)))
    (hbd : ∀ i, i < len → -2147483648 ≤ lo i ∧ lo i ≤ 2147483647 ∧ -2147483648 ≤ hi i ∧ hi i ≤ 2147483647) :
    Calls Try.prog 10 #[.agg #[.int .i32 xl, .int .i32 xh], .slice (some ⟨b, off, none⟩) len cap] w fun e w' => e = .returned (.bool true) ∧ Below w.heap.size w w' := by
  have d60 : decide (60 < (len : Int)) = false := by simp; omega
  have HC0 := Lib.hid hc0
  have HC1 := Lib.hid hc1
  have HB := Lib.hid hbd
  clear hc0 hc1 hbd
  have hne := ne_iv
  go_enter Try.func10, Try.ntmps10
  go_wp2_with fail
  refine (Calls.ext (awake_any _)).mono ?_
  rintro e _ ⟨rfl, y0, rfl⟩
  go_wp2_with fail
  obtain ⟨W1, hW1, cx0, cx1, fx0, fx1, sz1, bel1, hxb⟩ : ∃ W1 : World, y0.w.alloc (Obj.cells #[Value.int IntKind.i32 xl, Value.int IntKind.i32 xh] 23) = W1 ∧ W1.cell? ⟨y0.w.heap.size, 0, none⟩ = some (.int .i32 xl) ∧ W1.cell? ⟨y0.w.heap.size, 1, none⟩ = some (.int .i32 xh) ∧ W1.frozen? ⟨y0.w.heap.size, 0, none⟩ = false ∧ W1.frozen? ⟨y0.w.heap.size, 1, none⟩ = false ∧ y0.w.heap.size < W1.heap.size ∧ Below w.heap.size w W1 ∧ w.heap.size ≤ y0.w.heap.size :=
    ⟨_, rfl, by simp [go_sem], by simp [go_sem], by simp [go_sem], by simp [go_sem], by simp, ((Below.refl _ _).alloc (Nat.le_refl _) _).trans (y0.h.mono (by simp)) |>.alloc (by simp) _, by simp⟩
  rw [hW1]
  clear hW1
  generalize y0.w.heap.size = XB at *
  go_loopw [6, 23] (fun c i wr => ∃ (k : Nat) (cl ch cc : Int), k ≤ len ∧ i = .int .i64 k ∧ c = .int .i64 cc ∧ 0 ≤ cc ∧ cc + phi (cl, ch) ≤ 3 ∧ (-2147483648 ≤ cl ∧ cl ≤ 2147483647 ∧ -2147483648 ≤ ch ∧ ch ≤ 2147483647) ∧ wr.cell? ⟨XB, 0, none⟩ = some (.int .i32 cl) ∧ wr.cell? ⟨XB, 1, none⟩ = some (.int .i32 ch) ∧ wr.frozen? ⟨XB, 0, none⟩ = false ∧ wr.frozen? ⟨XB, 1, none⟩ = false ∧ XB < wr.heap.size ∧ Below w.heap.size w wr) (fun _ i _ => len - (intOf i).toNat)
  case atStart => exact ⟨0, xl, xh, 0, by omega, rfl, rfl, by omega, by have := (phi_bd (xl, xh)).2; omega, ⟨hx1, hx2, hx3, hx4⟩, cx0, cx1, fx0, fx1, sz1, bel1⟩
  case round =>
    obtain ⟨k, cl, ch, cc, hk, rfl, rfl, hcc, hphi, ⟨hc1, hc2, hc3, hc4⟩, kx0, kx1, gx0, gx1, szr, belr⟩ := hrel
    clear cx0 cx1 fx0 fx1 sz1 bel1
    have hph := phi_bd (cl, ch)
    by_cases hlt : k < len
    · have e0 := (belr.cell (p := ⟨b, off + k * 2, none⟩) hb).trans (HC0.out k hlt)
      have e1 := (belr.cell (p := ⟨b, off + k * 2 + 1, none⟩) hb).trans (HC1.out k hlt)
      obtain ⟨hy1, hy2, hy3, hy4⟩ := HB.out k hlt
      have hlt' : (k : Int) < (len : Int) := by omega
      generalize lo k = yl at *
      generalize hi k = yh at *
      by_cases hx : ch < cl
      · by_cases hy : yh < yl
        · have d1 : decide (ch < cl) = true := by simpa using hx
          have d2 : decide (yh < yl) = true := by simpa using hy
          have hZ : widenI (cl, ch) (yl, yh) = (1, 0) := by simp [widenI, emp, hx, hy]
          obtain ⟨P1, P1'⟩ := widen_in (xl := cl) (xh := ch) (yl := yl) (yh := yh) hc1 hc4 hy1 hy4
          obtain ⟨P2, P2'⟩ := phi_step (xl := cl) (xh := ch) (yl := yl) (yh := yh) hy1 hy4
          obtain ⟨P3, P4, P5, P6⟩ := widen_bd hc1 hc2 hc3 hc4 hy1 hy2 hy3 hy4
          rw [hZ] at P1 P1' P2 P2' P3 P4 P5 P6
          have HZ := Lib.hid hZ
          have HP2 := Lib.hid P2
          have HP3 := Lib.hid P2'
          clear hZ P2 P2'
          go_wp2_with fail
          refine (Calls.ext ((widen_any _ _ _ _ _).mono fun _ _ ⟨h, k⟩ => ⟨h.trans (ret_pair (p := (1, 0)) HZ.out), k⟩)).mono ?_
          rintro e _ ⟨rfl, y1, rfl⟩
          have hs1 : wr.heap.size < y1.w.heap.size := Nat.lt_of_lt_of_le (by simp) y1.h.size
          have hs2 : XB < y1.w.heap.size := by omega
          have hs3 : XB < wr.heap.size + 1 := by omega
          go_wp2_with fail
          obtain ⟨W2, hW2, cx0, cx1, cy0, cy1, cz0, cz1, fx0, fx1, sz2, bel2⟩ : ∃ W2 : World, y1.w.alloc (Obj.cells #[Value.int IntKind.i32 1, Value.int IntKind.i32 0] 23) = W2 ∧ W2.cell? ⟨XB, 0, none⟩ = some (.int .i32 cl) ∧ W2.cell? ⟨XB, 1, none⟩ = some (.int .i32 ch) ∧ W2.cell? ⟨wr.heap.size, 0, none⟩ = some (.int .i32 yl) ∧ W2.cell? ⟨wr.heap.size, 1, none⟩ = some (.int .i32 yh) ∧ W2.cell? ⟨y1.w.heap.size, 0, none⟩ = some (.int .i32 1) ∧ W2.cell? ⟨y1.w.heap.size, 1, none⟩ = some (.int .i32 0) ∧ W2.frozen? ⟨XB, 0, none⟩ = false ∧ W2.frozen? ⟨XB, 1, none⟩ = false ∧ y1.w.heap.size < W2.heap.size ∧ Below w.heap.size w W2 := by
            have hX : XB < y1.w.heap.size := by omega
            have hX' : XB < (wr.alloc (Obj.cells #[Value.int IntKind.i32 yl, Value.int IntKind.i32 yh] 23)).heap.size := by simp; omega
            have hY' : wr.heap.size < (wr.alloc (Obj.cells #[Value.int IntKind.i32 yl, Value.int IntKind.i32 yh] 23)).heap.size := by simp
            have hwr := belr.size
            refine ⟨_, rfl, ?_, ?_, ?_, ?_, by simp [go_sem], by simp [go_sem], ?_, ?_, by simp, ?_⟩
            · rw [World.cell?_alloc_past _ _ _ hX, y1.h.cell (p := ⟨XB, 0, none⟩) hX', World.cell?_alloc_past _ _ _ szr]; exact kx0
            · rw [World.cell?_alloc_past _ _ _ hX, y1.h.cell (p := ⟨XB, 1, none⟩) hX', World.cell?_alloc_past _ _ _ szr]; exact kx1
            · rw [World.cell?_alloc_past _ _ _ hs1, y1.h.cell (p := ⟨wr.heap.size, 0, none⟩) hY']; simp [go_sem]
            · rw [World.cell?_alloc_past _ _ _ hs1, y1.h.cell (p := ⟨wr.heap.size, 1, none⟩) hY']; simp [go_sem]
            · rw [World.frozen?_alloc_past _ _ _ hX, y1.h.frozen (p := ⟨XB, 0, none⟩) hX', World.frozen?_alloc_past _ _ _ szr]; exact gx0
            · rw [World.frozen?_alloc_past _ _ _ hX, y1.h.frozen (p := ⟨XB, 1, none⟩) hX', World.frozen?_alloc_past _ _ _ szr]; exact gx1
            · exact ((belr.alloc hwr _).trans (y1.h.mono (by simp; omega))).alloc (Nat.le_trans hwr (by omega)) _
          rw [hW2]
          have hX2 : XB < W2.heap.size := by omega
          have hY2 : wr.heap.size < W2.heap.size := by omega
          have hwr := belr.size
          clear hW2 kx0 kx1 gx0 gx1 e0 e1
          refine (Calls.ext (within_any _ _ _ _ _)).mono ?_
          rintro e _ ⟨rfl, y2, rfl⟩
          go_wp2_with fail
          refine (Calls.extq (within_any _ _ _ _ _)).mono ?_
          rintro e _ ⟨rfl, y3, rfl⟩
          go_wp2_with fail
          refine (Calls.extq (isEmpty_any _ _ _)).mono ?_
          rintro e _ ⟨rfl, y4, rfl⟩
          go_wp2_with fail
          refine wp_region_extq (by kernel_rfl) (by kernel_rfl) ?_
          repeat (go_big_quiet_step (first | (go_at_call 22; exact Calls.extq (empty_any _)) | (with_reducible exact Calls.extq (isEmpty_is cl ch _ _ d1)) | (with_reducible exact Calls.extq (isEmpty_is yl yh _ _ d2))))
          refine wpQuiet_nil ?_
          rintro _ ⟨x1, rfl⟩
          go_wp2_with fail
          refine (Calls.extq (within_any _ _ _ _ _)).mono ?_
          rintro e _ ⟨rfl, y5, rfl⟩
          by_cases hB : withinI (1, 0) (cl, ch) = true
          · have hp := HP3.out hB
            have hpz := phi_bd (1, 0)
            go_wp2
            go_roundw
            case rel =>
              refine ⟨k + 1, 1, 0, cc, by omega, by go_num, rfl, by omega, by omega, ⟨P3, P4, P5, P6⟩, ?_, ?_, ?_, ?_, ?_, ?_⟩
              · simp [go_sem, hX2, cx0]
              · simp [go_sem, hX2, cx1]
              · simp [go_sem, hX2, fx0]
              · simp [go_sem, hX2, fx1]
              · simp [go_sem, hX2]
              · exact ((Ext.below bel2 (by omega) y5).setCell hxb _).setCell hxb _
            case measure => simp [intOf]; omega
          · exact absurd (by simp [withinI, emp]) hB
        · have d1 : decide (ch < cl) = true := by simpa using hx
          have d2 : decide (yh < yl) = false := by simpa using hy
          have hZ : widenI (cl, ch) (yl, yh) = (yl, yh) := by simp [widenI, emp, hx, hy]
          obtain ⟨P1, P1'⟩ := widen_in (xl := cl) (xh := ch) (yl := yl) (yh := yh) hc1 hc4 hy1 hy4
          obtain ⟨P2, P2'⟩ := phi_step (xl := cl) (xh := ch) (yl := yl) (yh := yh) hy1 hy4
          obtain ⟨P3, P4, P5, P6⟩ := widen_bd hc1 hc2 hc3 hc4 hy1 hy2 hy3 hy4
          rw [hZ] at P1 P1' P2 P2' P3 P4 P5 P6
          have HZ := Lib.hid hZ
          have HP2 := Lib.hid P2
          have HP3 := Lib.hid P2'
          clear hZ P2 P2'
          go_wp2_with fail
          refine (Calls.ext ((widen_any _ _ _ _ _).mono fun _ _ ⟨h, k⟩ => ⟨h.trans (ret_pair (p := (yl, yh)) HZ.out), k⟩)).mono ?_
          rintro e _ ⟨rfl, y1, rfl⟩
          have hs1 : wr.heap.size < y1.w.heap.size := Nat.lt_of_lt_of_le (by simp) y1.h.size
          have hs2 : XB < y1.w.heap.size := by omega
          have hs3 : XB < wr.heap.size + 1 := by omega
          go_wp2_with fail
          obtain ⟨W2, hW2, cx0, cx1, cy0, cy1, cz0, cz1, fx0, fx1, sz2, bel2⟩ : ∃ W2 : World, y1.w.alloc (Obj.cells #[Value.int IntKind.i32 yl, Value.int IntKind.i32 yh] 23) = W2 ∧ W2.cell? ⟨XB, 0, none⟩ = some (.int .i32 cl) ∧ W2.cell? ⟨XB, 1, none⟩ = some (.int .i32 ch) ∧ W2.cell? ⟨wr.heap.size, 0, none⟩ = some (.int .i32 yl) ∧ W2.cell? ⟨wr.heap.size, 1, none⟩ = some (.int .i32 yh) ∧ W2.cell? ⟨y1.w.heap.size, 0, none⟩ = some (.int .i32 yl) ∧ W2.cell? ⟨y1.w.heap.size, 1, none⟩ = some (.int .i32 yh) ∧ W2.frozen? ⟨XB, 0, none⟩ = false ∧ W2.frozen? ⟨XB, 1, none⟩ = false ∧ y1.w.heap.size < W2.heap.size ∧ Below w.heap.size w W2 := by
            have hX : XB < y1.w.heap.size := by omega
            have hX' : XB < (wr.alloc (Obj.cells #[Value.int IntKind.i32 yl, Value.int IntKind.i32 yh] 23)).heap.size := by simp; omega
            have hY' : wr.heap.size < (wr.alloc (Obj.cells #[Value.int IntKind.i32 yl, Value.int IntKind.i32 yh] 23)).heap.size := by simp
            have hwr := belr.size
            refine ⟨_, rfl, ?_, ?_, ?_, ?_, by simp [go_sem], by simp [go_sem], ?_, ?_, by simp, ?_⟩
            · rw [World.cell?_alloc_past _ _ _ hX, y1.h.cell (p := ⟨XB, 0, none⟩) hX', World.cell?_alloc_past _ _ _ szr]; exact kx0
            · rw [World.cell?_alloc_past _ _ _ hX, y1.h.cell (p := ⟨XB, 1, none⟩) hX', World.cell?_alloc_past _ _ _ szr]; exact kx1
            · rw [World.cell?_alloc_past _ _ _ hs1, y1.h.cell (p := ⟨wr.heap.size, 0, none⟩) hY']; simp [go_sem]
            · rw [World.cell?_alloc_past _ _ _ hs1, y1.h.cell (p := ⟨wr.heap.size, 1, none⟩) hY']; simp [go_sem]
            · rw [World.frozen?_alloc_past _ _ _ hX, y1.h.frozen (p := ⟨XB, 0, none⟩) hX', World.frozen?_alloc_past _ _ _ szr]; exact gx0
            · rw [World.frozen?_alloc_past _ _ _ hX, y1.h.frozen (p := ⟨XB, 1, none⟩) hX', World.frozen?_alloc_past _ _ _ szr]; exact gx1
            · exact ((belr.alloc hwr _).trans (y1.h.mono (by simp; omega))).alloc (Nat.le_trans hwr (by omega)) _
          rw [hW2]
          have hX2 : XB < W2.heap.size := by omega
          have hY2 : wr.heap.size < W2.heap.size := by omega
          have hwr := belr.size
          clear hW2 kx0 kx1 gx0 gx1 e0 e1
          refine (Calls.ext (within_any _ _ _ _ _)).mono ?_
          rintro e _ ⟨rfl, y2, rfl⟩
          go_wp2_with fail
          refine (Calls.extq (within_any _ _ _ _ _)).mono ?_
          rintro e _ ⟨rfl, y3, rfl⟩
          go_wp2_with fail
          refine (Calls.extq (isEmpty_any _ _ _)).mono ?_
          rintro e _ ⟨rfl, y4, rfl⟩
          go_wp2_with fail
          refine wp_region_extq (by kernel_rfl) (by kernel_rfl) ?_
          repeat (go_big_quiet_step (first | (go_at_call 22; exact Calls.extq (empty_any _)) | (with_reducible exact Calls.extq (isEmpty_is cl ch _ _ d1)) | (with_reducible exact Calls.extq (isEmpty_is yl yh _ _ d2))))
          refine wpQuiet_nil ?_
          rintro _ ⟨x1, rfl⟩
          go_wp2_with fail
          refine (Calls.extq (within_any _ _ _ _ _)).mono ?_
          rintro e _ ⟨rfl, y5, rfl⟩
          by_cases hB : withinI (yl, yh) (cl, ch) = true
          · have hp := HP3.out hB
            have hpz := phi_bd (yl, yh)
            go_wp2
            go_roundw
            case rel =>
              refine ⟨k + 1, yl, yh, cc, by omega, by go_num, rfl, by omega, by omega, ⟨P3, P4, P5, P6⟩, ?_, ?_, ?_, ?_, ?_, ?_⟩
              · simp [go_sem, hX2, cx0]
              · simp [go_sem, hX2, cx1]
              · simp [go_sem, hX2, fx0]
              · simp [go_sem, hX2, fx1]
              · simp [go_sem, hX2]
              · exact ((Ext.below bel2 (by omega) y5).setCell hxb _).setCell hxb _
            case measure => simp [intOf]; omega
          · have hB' : withinI (yl, yh) (cl, ch) = false := by simpa using hB
            clear hB
            have hp := HP2.out hB'
            have hpz := phi_bd (yl, yh)
            go_wp2
            go_roundw
            case rel =>
              refine ⟨k + 1, yl, yh, cc + 1, by omega, by go_num, rfl, by omega, by omega, ⟨P3, P4, P5, P6⟩, ?_, ?_, ?_, ?_, ?_, ?_⟩
              · simp [go_sem, hX2, cx0]
              · simp [go_sem, hX2, cx1]
              · simp [go_sem, hX2, fx0]
              · simp [go_sem, hX2, fx1]
              · simp [go_sem, hX2]
              · exact ((Ext.below bel2 (by omega) y5).setCell hxb _).setCell hxb _
            case measure => simp [intOf]; omega
      · by_cases hy : yh < yl
        · have d1 : decide (ch < cl) = false := by simpa using hx
          have d2 : decide (yh < yl) = true := by simpa using hy
          have hZ : widenI (cl, ch) (yl, yh) = (cl, ch) := by simp [widenI, emp, hx, hy]
          obtain ⟨P1, P1'⟩ := widen_in (xl := cl) (xh := ch) (yl := yl) (yh := yh) hc1 hc4 hy1 hy4
          obtain ⟨P2, P2'⟩ := phi_step (xl := cl) (xh := ch) (yl := yl) (yh := yh) hy1 hy4
          obtain ⟨P3, P4, P5, P6⟩ := widen_bd hc1 hc2 hc3 hc4 hy1 hy2 hy3 hy4
          rw [hZ] at P1 P1' P2 P2' P3 P4 P5 P6
          have HZ := Lib.hid hZ
          have HP2 := Lib.hid P2
          have HP3 := Lib.hid P2'
          clear hZ P2 P2'
          go_wp2_with fail
          refine (Calls.ext ((widen_any _ _ _ _ _).mono fun _ _ ⟨h, k⟩ => ⟨h.trans (ret_pair (p := (cl, ch)) HZ.out), k⟩)).mono ?_
          rintro e _ ⟨rfl, y1, rfl⟩
          have hs1 : wr.heap.size < y1.w.heap.size := Nat.lt_of_lt_of_le (by simp) y1.h.size
          have hs2 : XB < y1.w.heap.size := by omega
          have hs3 : XB < wr.heap.size + 1 := by omega
          go_wp2_with fail
          obtain ⟨W2, hW2, cx0, cx1, cy0, cy1, cz0, cz1, fx0, fx1, sz2, bel2⟩ : ∃ W2 : World, y1.w.alloc (Obj.cells #[Value.int IntKind.i32 cl, Value.int IntKind.i32 ch] 23) = W2 ∧ W2.cell? ⟨XB, 0, none⟩ = some (.int .i32 cl) ∧ W2.cell? ⟨XB, 1, none⟩ = some (.int .i32 ch) ∧ W2.cell? ⟨wr.heap.size, 0, none⟩ = some (.int .i32 yl) ∧ W2.cell? ⟨wr.heap.size, 1, none⟩ = some (.int .i32 yh) ∧ W2.cell? ⟨y1.w.heap.size, 0, none⟩ = some (.int .i32 cl) ∧ W2.cell? ⟨y1.w.heap.size, 1, none⟩ = some (.int .i32 ch) ∧ W2.frozen? ⟨XB, 0, none⟩ = false ∧ W2.frozen? ⟨XB, 1, none⟩ = false ∧ y1.w.heap.size < W2.heap.size ∧ Below w.heap.size w W2 := by
            have hX : XB < y1.w.heap.size := by omega
            have hX' : XB < (wr.alloc (Obj.cells #[Value.int IntKind.i32 yl, Value.int IntKind.i32 yh] 23)).heap.size := by simp; omega
            have hY' : wr.heap.size < (wr.alloc (Obj.cells #[Value.int IntKind.i32 yl, Value.int IntKind.i32 yh] 23)).heap.size := by simp
            have hwr := belr.size
            refine ⟨_, rfl, ?_, ?_, ?_, ?_, by simp [go_sem], by simp [go_sem], ?_, ?_, by simp, ?_⟩
            · rw [World.cell?_alloc_past _ _ _ hX, y1.h.cell (p := ⟨XB, 0, none⟩) hX', World.cell?_alloc_past _ _ _ szr]; exact kx0
            · rw [World.cell?_alloc_past _ _ _ hX, y1.h.cell (p := ⟨XB, 1, none⟩) hX', World.cell?_alloc_past _ _ _ szr]; exact kx1
            · rw [World.cell?_alloc_past _ _ _ hs1, y1.h.cell (p := ⟨wr.heap.size, 0, none⟩) hY']; simp [go_sem]
            · rw [World.cell?_alloc_past _ _ _ hs1, y1.h.cell (p := ⟨wr.heap.size, 1, none⟩) hY']; simp [go_sem]
            · rw [World.frozen?_alloc_past _ _ _ hX, y1.h.frozen (p := ⟨XB, 0, none⟩) hX', World.frozen?_alloc_past _ _ _ szr]; exact gx0
            · rw [World.frozen?_alloc_past _ _ _ hX, y1.h.frozen (p := ⟨XB, 1, none⟩) hX', World.frozen?_alloc_past _ _ _ szr]; exact gx1
            · exact ((belr.alloc hwr _).trans (y1.h.mono (by simp; omega))).alloc (Nat.le_trans hwr (by omega)) _
          rw [hW2]
          have hX2 : XB < W2.heap.size := by omega
          have hY2 : wr.heap.size < W2.heap.size := by omega
          have hwr := belr.size
          clear hW2 kx0 kx1 gx0 gx1 e0 e1
          refine (Calls.ext (within_any _ _ _ _ _)).mono ?_
          rintro e _ ⟨rfl, y2, rfl⟩
          go_wp2_with fail
          refine (Calls.extq (within_any _ _ _ _ _)).mono ?_
          rintro e _ ⟨rfl, y3, rfl⟩
          go_wp2_with fail
          refine (Calls.extq (isEmpty_any _ _ _)).mono ?_
          rintro e _ ⟨rfl, y4, rfl⟩
          go_wp2_with fail
          refine (Calls.extq (isEmpty_any _ _ _)).mono ?_
          rintro e _ ⟨rfl, y4, rfl⟩
          go_wp2_with fail
          refine wp_region_extq (by kernel_rfl) (by kernel_rfl) ?_
          repeat (go_big_quiet_step (first | (go_at_call 22; exact Calls.extq (empty_any _)) | (with_reducible exact Calls.extq (isEmpty_is cl ch _ _ d1)) | (with_reducible exact Calls.extq (isEmpty_is yl yh _ _ d2))))
          refine wpQuiet_nil ?_
          rintro _ ⟨x1, rfl⟩
          go_wp2_with fail
          refine (Calls.extq (within_any _ _ _ _ _)).mono ?_
          rintro e _ ⟨rfl, y5, rfl⟩
          by_cases hB : withinI (cl, ch) (cl, ch) = true
          · have hp := HP3.out hB
            have hpz := phi_bd (cl, ch)
            go_wp2
            go_roundw
            case rel =>
              refine ⟨k + 1, cl, ch, cc, by omega, by go_num, rfl, by omega, by omega, ⟨P3, P4, P5, P6⟩, ?_, ?_, ?_, ?_, ?_, ?_⟩
              · simp [go_sem, hX2, cx0]
              · simp [go_sem, hX2, cx1]
              · simp [go_sem, hX2, fx0]
              · simp [go_sem, hX2, fx1]
              · simp [go_sem, hX2]
              · exact ((Ext.below bel2 (by omega) y5).setCell hxb _).setCell hxb _
            case measure => simp [intOf]; omega
          · exact absurd (by simp [withinI, emp]) hB
        · by_cases hl : yl < cl
          · by_cases hh : ch < yh
            · have d1 : decide (ch < cl) = false := by simpa using hx
              have d2 : decide (yh < yl) = false := by simpa using hy
              have hZ : widenI (cl, ch) (yl, yh) = (-2147483648, 2147483647) := by simp [widenI, emp, hx, hy, hl, hh]
              obtain ⟨P1, P1'⟩ := widen_in (xl := cl) (xh := ch) (yl := yl) (yh := yh) hc1 hc4 hy1 hy4
              obtain ⟨P2, P2'⟩ := phi_step (xl := cl) (xh := ch) (yl := yl) (yh := yh) hy1 hy4
              obtain ⟨P3, P4, P5, P6⟩ := widen_bd hc1 hc2 hc3 hc4 hy1 hy2 hy3 hy4
              rw [hZ] at P1 P1' P2 P2' P3 P4 P5 P6
              have HZ := Lib.hid hZ
              have HP2 := Lib.hid P2
              have HP3 := Lib.hid P2'
              clear hZ P2 P2'
              go_wp2_with fail
              refine (Calls.ext ((widen_any _ _ _ _ _).mono fun _ _ ⟨h, k⟩ => ⟨h.trans (ret_pair (p := (-2147483648, 2147483647)) HZ.out), k⟩)).mono ?_
              rintro e _ ⟨rfl, y1, rfl⟩
              have hs1 : wr.heap.size < y1.w.heap.size := Nat.lt_of_lt_of_le (by simp) y1.h.size
              have hs2 : XB < y1.w.heap.size := by omega
              have hs3 : XB < wr.heap.size + 1 := by omega
              go_wp2_with fail
              obtain ⟨W2, hW2, cx0, cx1, cy0, cy1, cz0, cz1, fx0, fx1, sz2, bel2⟩ : ∃ W2 : World, y1.w.alloc (Obj.cells #[Value.int IntKind.i32 (-2147483648), Value.int IntKind.i32 2147483647] 23) = W2 ∧ W2.cell? ⟨XB, 0, none⟩ = some (.int .i32 cl) ∧ W2.cell? ⟨XB, 1, none⟩ = some (.int .i32 ch) ∧ W2.cell? ⟨wr.heap.size, 0, none⟩ = some (.int .i32 yl) ∧ W2.cell? ⟨wr.heap.size, 1, none⟩ = some (.int .i32 yh) ∧ W2.cell? ⟨y1.w.heap.size, 0, none⟩ = some (.int .i32 (-2147483648)) ∧ W2.cell? ⟨y1.w.heap.size, 1, none⟩ = some (.int .i32 2147483647) ∧ W2.frozen? ⟨XB, 0, none⟩ = false ∧ W2.frozen? ⟨XB, 1, none⟩ = false ∧ y1.w.heap.size < W2.heap.size ∧ Below w.heap.size w W2 := by
                have hX : XB < y1.w.heap.size := by omega
                have hX' : XB < (wr.alloc (Obj.cells #[Value.int IntKind.i32 yl, Value.int IntKind.i32 yh] 23)).heap.size := by simp; omega
                have hY' : wr.heap.size < (wr.alloc (Obj.cells #[Value.int IntKind.i32 yl, Value.int IntKind.i32 yh] 23)).heap.size := by simp
                have hwr := belr.size
                refine ⟨_, rfl, ?_, ?_, ?_, ?_, by simp [go_sem], by simp [go_sem], ?_, ?_, by simp, ?_⟩
                · rw [World.cell?_alloc_past _ _ _ hX, y1.h.cell (p := ⟨XB, 0, none⟩) hX', World.cell?_alloc_past _ _ _ szr]; exact kx0
                · rw [World.cell?_alloc_past _ _ _ hX, y1.h.cell (p := ⟨XB, 1, none⟩) hX', World.cell?_alloc_past _ _ _ szr]; exact kx1
                · rw [World.cell?_alloc_past _ _ _ hs1, y1.h.cell (p := ⟨wr.heap.size, 0, none⟩) hY']; simp [go_sem]
                · rw [World.cell?_alloc_past _ _ _ hs1, y1.h.cell (p := ⟨wr.heap.size, 1, none⟩) hY']; simp [go_sem]
                · rw [World.frozen?_alloc_past _ _ _ hX, y1.h.frozen (p := ⟨XB, 0, none⟩) hX', World.frozen?_alloc_past _ _ _ szr]; exact gx0
                · rw [World.frozen?_alloc_past _ _ _ hX, y1.h.frozen (p := ⟨XB, 1, none⟩) hX', World.frozen?_alloc_past _ _ _ szr]; exact gx1
                · exact ((belr.alloc hwr _).trans (y1.h.mono (by simp; omega))).alloc (Nat.le_trans hwr (by omega)) _
              rw [hW2]
              have hX2 : XB < W2.heap.size := by omega
              have hY2 : wr.heap.size < W2.heap.size := by omega
              have hwr := belr.size
              clear hW2 kx0 kx1 gx0 gx1 e0 e1
              refine (Calls.ext (within_any _ _ _ _ _)).mono ?_
              rintro e _ ⟨rfl, y2, rfl⟩
              go_wp2_with fail
              refine (Calls.extq (within_any _ _ _ _ _)).mono ?_
              rintro e _ ⟨rfl, y3, rfl⟩
              go_wp2_with fail
              refine (Calls.extq (isEmpty_any _ _ _)).mono ?_
              rintro e _ ⟨rfl, y4, rfl⟩
              go_wp2_with fail
              refine (Calls.extq (isEmpty_any _ _ _)).mono ?_
              rintro e _ ⟨rfl, y4, rfl⟩
              go_wp2_with fail
              refine wp_region_extq (by kernel_rfl) (by kernel_rfl) ?_
              repeat (go_big_quiet_step (fail))
              refine wpQuiet_nil ?_
              rintro _ ⟨x1, rfl⟩
              go_wp2_with fail
              refine (Calls.extq (within_any _ _ _ _ _)).mono ?_
              rintro e _ ⟨rfl, y5, rfl⟩
              by_cases hB : withinI (-2147483648, 2147483647) (cl, ch) = true
              · have hp := HP3.out hB
                have hpz := phi_bd (-2147483648, 2147483647)
                go_wp2
                go_roundw
                case rel =>
                  refine ⟨k + 1, (-2147483648), 2147483647, cc, by omega, by go_num, rfl, by omega, by omega, ⟨P3, P4, P5, P6⟩, ?_, ?_, ?_, ?_, ?_, ?_⟩
                  · simp [go_sem, hX2, cx0]
                  · simp [go_sem, hX2, cx1]
                  · simp [go_sem, hX2, fx0]
                  · simp [go_sem, hX2, fx1]
                  · simp [go_sem, hX2]
                  · exact ((Ext.below bel2 (by omega) y5).setCell hxb _).setCell hxb _
                case measure => simp [intOf]; omega
              · have hB' : withinI (-2147483648, 2147483647) (cl, ch) = false := by simpa using hB
                clear hB
                have hp := HP2.out hB'
                have hpz := phi_bd (-2147483648, 2147483647)
                go_wp2
                go_roundw
                case rel =>
                  refine ⟨k + 1, (-2147483648), 2147483647, cc + 1, by omega, by go_num, rfl, by omega, by omega, ⟨P3, P4, P5, P6⟩, ?_, ?_, ?_, ?_, ?_, ?_⟩
                  · simp [go_sem, hX2, cx0]
                  · simp [go_sem, hX2, cx1]
                  · simp [go_sem, hX2, fx0]
                  · simp [go_sem, hX2, fx1]
                  · simp [go_sem, hX2]
                  · exact ((Ext.below bel2 (by omega) y5).setCell hxb _).setCell hxb _
                case measure => simp [intOf]; omega
            · have d1 : decide (ch < cl) = false := by simpa using hx
              have d2 : decide (yh < yl) = false := by simpa using hy
              have hZ : widenI (cl, ch) (yl, yh) = (-2147483648, ch) := by simp [widenI, emp, hx, hy, hl, hh]
              obtain ⟨P1, P1'⟩ := widen_in (xl := cl) (xh := ch) (yl := yl) (yh := yh) hc1 hc4 hy1 hy4
              obtain ⟨P2, P2'⟩ := phi_step (xl := cl) (xh := ch) (yl := yl) (yh := yh) hy1 hy4
              obtain ⟨P3, P4, P5, P6⟩ := widen_bd hc1 hc2 hc3 hc4 hy1 hy2 hy3 hy4
              rw [hZ] at P1 P1' P2 P2' P3 P4 P5 P6
              have HZ := Lib.hid hZ
              have HP2 := Lib.hid P2
              have HP3 := Lib.hid P2'
              clear hZ P2 P2'
              go_wp2_with fail
              refine (Calls.ext ((widen_any _ _ _ _ _).mono fun _ _ ⟨h, k⟩ => ⟨h.trans (ret_pair (p := (-2147483648, ch)) HZ.out), k⟩)).mono ?_
              rintro e _ ⟨rfl, y1, rfl⟩
              have hs1 : wr.heap.size < y1.w.heap.size := Nat.lt_of_lt_of_le (by simp) y1.h.size
              have hs2 : XB < y1.w.heap.size := by omega
              have hs3 : XB < wr.heap.size + 1 := by omega
              go_wp2_with fail
              obtain ⟨W2, hW2, cx0, cx1, cy0, cy1, cz0, cz1, fx0, fx1, sz2, bel2⟩ : ∃ W2 : World, y1.w.alloc (Obj.cells #[Value.int IntKind.i32 (-2147483648), Value.int IntKind.i32 ch] 23) = W2 ∧ W2.cell? ⟨XB, 0, none⟩ = some (.int .i32 cl) ∧ W2.cell? ⟨XB, 1, none⟩ = some (.int .i32 ch) ∧ W2.cell? ⟨wr.heap.size, 0, none⟩ = some (.int .i32 yl) ∧ W2.cell? ⟨wr.heap.size, 1, none⟩ = some (.int .i32 yh) ∧ W2.cell? ⟨y1.w.heap.size, 0, none⟩ = some (.int .i32 (-2147483648)) ∧ W2.cell? ⟨y1.w.heap.size, 1, none⟩ = some (.int .i32 ch) ∧ W2.frozen? ⟨XB, 0, none⟩ = false ∧ W2.frozen? ⟨XB, 1, none⟩ = false ∧ y1.w.heap.size < W2.heap.size ∧ Below w.heap.size w W2 := by
                have hX : XB < y1.w.heap.size := by omega
                have hX' : XB < (wr.alloc (Obj.cells #[Value.int IntKind.i32 yl, Value.int IntKind.i32 yh] 23)).heap.size := by simp; omega
                have hY' : wr.heap.size < (wr.alloc (Obj.cells #[Value.int IntKind.i32 yl, Value.int IntKind.i32 yh] 23)).heap.size := by simp
                have hwr := belr.size
                refine ⟨_, rfl, ?_, ?_, ?_, ?_, by simp [go_sem], by simp [go_sem], ?_, ?_, by simp, ?_⟩
                · rw [World.cell?_alloc_past _ _ _ hX, y1.h.cell (p := ⟨XB, 0, none⟩) hX', World.cell?_alloc_past _ _ _ szr]; exact kx0
                · rw [World.cell?_alloc_past _ _ _ hX, y1.h.cell (p := ⟨XB, 1, none⟩) hX', World.cell?_alloc_past _ _ _ szr]; exact kx1
                · rw [World.cell?_alloc_past _ _ _ hs1, y1.h.cell (p := ⟨wr.heap.size, 0, none⟩) hY']; simp [go_sem]
                · rw [World.cell?_alloc_past _ _ _ hs1, y1.h.cell (p := ⟨wr.heap.size, 1, none⟩) hY']; simp [go_sem]
                · rw [World.frozen?_alloc_past _ _ _ hX, y1.h.frozen (p := ⟨XB, 0, none⟩) hX', World.frozen?_alloc_past _ _ _ szr]; exact gx0
                · rw [World.frozen?_alloc_past _ _ _ hX, y1.h.frozen (p := ⟨XB, 1, none⟩) hX', World.frozen?_alloc_past _ _ _ szr]; exact gx1
                · exact ((belr.alloc hwr _).trans (y1.h.mono (by simp; omega))).alloc (Nat.le_trans hwr (by omega)) _
              rw [hW2]
              have hX2 : XB < W2.heap.size := by omega
              have hY2 : wr.heap.size < W2.heap.size := by omega
              have hwr := belr.size
              clear hW2 kx0 kx1 gx0 gx1 e0 e1
              refine (Calls.ext (within_any _ _ _ _ _)).mono ?_
              rintro e _ ⟨rfl, y2, rfl⟩
              go_wp2_with fail
              refine (Calls.extq (within_any _ _ _ _ _)).mono ?_
              rintro e _ ⟨rfl, y3, rfl⟩
              go_wp2_with fail
              refine (Calls.extq (isEmpty_any _ _ _)).mono ?_
              rintro e _ ⟨rfl, y4, rfl⟩
              go_wp2_with fail
              refine (Calls.extq (isEmpty_any _ _ _)).mono ?_
              rintro e _ ⟨rfl, y4, rfl⟩
              go_wp2_with fail
              refine wp_region_extq (by kernel_rfl) (by kernel_rfl) ?_
              repeat (go_big_quiet_step (fail))
              refine wpQuiet_nil ?_
              rintro _ ⟨x1, rfl⟩
              go_wp2_with fail
              refine (Calls.extq (within_any _ _ _ _ _)).mono ?_
              rintro e _ ⟨rfl, y5, rfl⟩
              by_cases hB : withinI (-2147483648, ch) (cl, ch) = true
              · have hp := HP3.out hB
                have hpz := phi_bd (-2147483648, ch)
                go_wp2
                go_roundw
                case rel =>
                  refine ⟨k + 1, (-2147483648), ch, cc, by omega, by go_num, rfl, by omega, by omega, ⟨P3, P4, P5, P6⟩, ?_, ?_, ?_, ?_, ?_, ?_⟩
                  · simp [go_sem, hX2, cx0]
                  · simp [go_sem, hX2, cx1]
                  · simp [go_sem, hX2, fx0]
                  · simp [go_sem, hX2, fx1]
                  · simp [go_sem, hX2]
                  · exact ((Ext.below bel2 (by omega) y5).setCell hxb _).setCell hxb _
                case measure => simp [intOf]; omega
              · have hB' : withinI (-2147483648, ch) (cl, ch) = false := by simpa using hB
                clear hB
                have hp := HP2.out hB'
                have hpz := phi_bd (-2147483648, ch)
                go_wp2
                go_roundw
                case rel =>
                  refine ⟨k + 1, (-2147483648), ch, cc + 1, by omega, by go_num, rfl, by omega, by omega, ⟨P3, P4, P5, P6⟩, ?_, ?_, ?_, ?_, ?_, ?_⟩
                  · simp [go_sem, hX2, cx0]
                  · simp [go_sem, hX2, cx1]
                  · simp [go_sem, hX2, fx0]
                  · simp [go_sem, hX2, fx1]
                  · simp [go_sem, hX2]
                  · exact ((Ext.below bel2 (by omega) y5).setCell hxb _).setCell hxb _
                case measure => simp [intOf]; omega
          · by_cases hh : ch < yh
            · have d1 : decide (ch < cl) = false := by simpa using hx
              have d2 : decide (yh < yl) = false := by simpa using hy
              have hZ : widenI (cl, ch) (yl, yh) = (cl, 2147483647) := by simp [widenI, emp, hx, hy, hl, hh]
              obtain ⟨P1, P1'⟩ := widen_in (xl := cl) (xh := ch) (yl := yl) (yh := yh) hc1 hc4 hy1 hy4
              obtain ⟨P2, P2'⟩ := phi_step (xl := cl) (xh := ch) (yl := yl) (yh := yh) hy1 hy4
              obtain ⟨P3, P4, P5, P6⟩ := widen_bd hc1 hc2 hc3 hc4 hy1 hy2 hy3 hy4
              rw [hZ] at P1 P1' P2 P2' P3 P4 P5 P6
              have HZ := Lib.hid hZ
              have HP2 := Lib.hid P2
              have HP3 := Lib.hid P2'
              clear hZ P2 P2'
              go_wp2_with fail
              refine (Calls.ext ((widen_any _ _ _ _ _).mono fun _ _ ⟨h, k⟩ => ⟨h.trans (ret_pair (p := (cl, 2147483647)) HZ.out), k⟩)).mono ?_
              rintro e _ ⟨rfl, y1, rfl⟩
              have hs1 : wr.heap.size < y1.w.heap.size := Nat.lt_of_lt_of_le (by simp) y1.h.size
              have hs2 : XB < y1.w.heap.size := by omega
              have hs3 : XB < wr.heap.size + 1 := by omega
              go_wp2_with fail
              obtain ⟨W2, hW2, cx0, cx1, cy0, cy1, cz0, cz1, fx0, fx1, sz2, bel2⟩ : ∃ W2 : World, y1.w.alloc (Obj.cells #[Value.int IntKind.i32 cl, Value.int IntKind.i32 2147483647] 23) = W2 ∧ W2.cell? ⟨XB, 0, none⟩ = some (.int .i32 cl) ∧ W2.cell? ⟨XB, 1, none⟩ = some (.int .i32 ch) ∧ W2.cell? ⟨wr.heap.size, 0, none⟩ = some (.int .i32 yl) ∧ W2.cell? ⟨wr.heap.size, 1, none⟩ = some (.int .i32 yh) ∧ W2.cell? ⟨y1.w.heap.size, 0, none⟩ = some (.int .i32 cl) ∧ W2.cell? ⟨y1.w.heap.size, 1, none⟩ = some (.int .i32 2147483647) ∧ W2.frozen? ⟨XB, 0, none⟩ = false ∧ W2.frozen? ⟨XB, 1, none⟩ = false ∧ y1.w.heap.size < W2.heap.size ∧ Below w.heap.size w W2 := by
                have hX : XB < y1.w.heap.size := by omega
                have hX' : XB < (wr.alloc (Obj.cells #[Value.int IntKind.i32 yl, Value.int IntKind.i32 yh] 23)).heap.size := by simp; omega
                have hY' : wr.heap.size < (wr.alloc (Obj.cells #[Value.int IntKind.i32 yl, Value.int IntKind.i32 yh] 23)).heap.size := by simp
                have hwr := belr.size
                refine ⟨_, rfl, ?_, ?_, ?_, ?_, by simp [go_sem], by simp [go_sem], ?_, ?_, by simp, ?_⟩
                · rw [World.cell?_alloc_past _ _ _ hX, y1.h.cell (p := ⟨XB, 0, none⟩) hX', World.cell?_alloc_past _ _ _ szr]; exact kx0
                · rw [World.cell?_alloc_past _ _ _ hX, y1.h.cell (p := ⟨XB, 1, none⟩) hX', World.cell?_alloc_past _ _ _ szr]; exact kx1
                · rw [World.cell?_alloc_past _ _ _ hs1, y1.h.cell (p := ⟨wr.heap.size, 0, none⟩) hY']; simp [go_sem]
                · rw [World.cell?_alloc_past _ _ _ hs1, y1.h.cell (p := ⟨wr.heap.size, 1, none⟩) hY']; simp [go_sem]
                · rw [World.frozen?_alloc_past _ _ _ hX, y1.h.frozen (p := ⟨XB, 0, none⟩) hX', World.frozen?_alloc_past _ _ _ szr]; exact gx0
                · rw [World.frozen?_alloc_past _ _ _ hX, y1.h.frozen (p := ⟨XB, 1, none⟩) hX', World.frozen?_alloc_past _ _ _ szr]; exact gx1
                · exact ((belr.alloc hwr _).trans (y1.h.mono (by simp; omega))).alloc (Nat.le_trans hwr (by omega)) _
              rw [hW2]
              have hX2 : XB < W2.heap.size := by omega
              have hY2 : wr.heap.size < W2.heap.size := by omega
              have hwr := belr.size
              clear hW2 kx0 kx1 gx0 gx1 e0 e1
              refine (Calls.ext (within_any _ _ _ _ _)).mono ?_
              rintro e _ ⟨rfl, y2, rfl⟩
              go_wp2_with fail
              refine (Calls.extq (within_any _ _ _ _ _)).mono ?_
              rintro e _ ⟨rfl, y3, rfl⟩
              go_wp2_with fail
              refine (Calls.extq (isEmpty_any _ _ _)).mono ?_
              rintro e _ ⟨rfl, y4, rfl⟩
              go_wp2_with fail
              refine (Calls.extq (isEmpty_any _ _ _)).mono ?_
              rintro e _ ⟨rfl, y4, rfl⟩
              go_wp2_with fail
              refine wp_region_extq (by kernel_rfl) (by kernel_rfl) ?_
              repeat (go_big_quiet_step (fail))
              refine wpQuiet_nil ?_
              rintro _ ⟨x1, rfl⟩
              go_wp2_with fail
              refine (Calls.extq (within_any _ _ _ _ _)).mono ?_
              rintro e _ ⟨rfl, y5, rfl⟩
              by_cases hB : withinI (cl, 2147483647) (cl, ch) = true
              · have hp := HP3.out hB
                have hpz := phi_bd (cl, 2147483647)
                go_wp2
                go_roundw
                case rel =>
                  refine ⟨k + 1, cl, 2147483647, cc, by omega, by go_num, rfl, by omega, by omega, ⟨P3, P4, P5, P6⟩, ?_, ?_, ?_, ?_, ?_, ?_⟩
                  · simp [go_sem, hX2, cx0]
                  · simp [go_sem, hX2, cx1]
                  · simp [go_sem, hX2, fx0]
                  · simp [go_sem, hX2, fx1]
                  · simp [go_sem, hX2]
                  · exact ((Ext.below bel2 (by omega) y5).setCell hxb _).setCell hxb _
                case measure => simp [intOf]; omega
              · have hB' : withinI (cl, 2147483647) (cl, ch) = false := by simpa using hB
                clear hB
                have hp := HP2.out hB'
                have hpz := phi_bd (cl, 2147483647)
                go_wp2
                go_roundw
                case rel =>
                  refine ⟨k + 1, cl, 2147483647, cc + 1, by omega, by go_num, rfl, by omega, by omega, ⟨P3, P4, P5, P6⟩, ?_, ?_, ?_, ?_, ?_, ?_⟩
                  · simp [go_sem, hX2, cx0]
                  · simp [go_sem, hX2, cx1]
                  · simp [go_sem, hX2, fx0]
                  · simp [go_sem, hX2, fx1]
                  · simp [go_sem, hX2]
                  · exact ((Ext.below bel2 (by omega) y5).setCell hxb _).setCell hxb _
                case measure => simp [intOf]; omega
            · have d1 : decide (ch < cl) = false := by simpa using hx
              have d2 : decide (yh < yl) = false := by simpa using hy
              have hZ : widenI (cl, ch) (yl, yh) = (cl, ch) := by simp [widenI, emp, hx, hy, hl, hh]
              obtain ⟨P1, P1'⟩ := widen_in (xl := cl) (xh := ch) (yl := yl) (yh := yh) hc1 hc4 hy1 hy4
              obtain ⟨P2, P2'⟩ := phi_step (xl := cl) (xh := ch) (yl := yl) (yh := yh) hy1 hy4
              obtain ⟨P3, P4, P5, P6⟩ := widen_bd hc1 hc2 hc3 hc4 hy1 hy2 hy3 hy4
              rw [hZ] at P1 P1' P2 P2' P3 P4 P5 P6
              have HZ := Lib.hid hZ
              have HP2 := Lib.hid P2
              have HP3 := Lib.hid P2'
              clear hZ P2 P2'
              go_wp2_with fail
              refine (Calls.ext ((widen_any _ _ _ _ _).mono fun _ _ ⟨h, k⟩ => ⟨h.trans (ret_pair (p := (cl, ch)) HZ.out), k⟩)).mono ?_
              rintro e _ ⟨rfl, y1, rfl⟩
              have hs1 : wr.heap.size < y1.w.heap.size := Nat.lt_of_lt_of_le (by simp) y1.h.size
              have hs2 : XB < y1.w.heap.size := by omega
              have hs3 : XB < wr.heap.size + 1 := by omega
              go_wp2_with fail
              obtain ⟨W2, hW2, cx0, cx1, cy0, cy1, cz0, cz1, fx0, fx1, sz2, bel2⟩ : ∃ W2 : World, y1.w.alloc (Obj.cells #[Value.int IntKind.i32 cl, Value.int IntKind.i32 ch] 23) = W2 ∧ W2.cell? ⟨XB, 0, none⟩ = some (.int .i32 cl) ∧ W2.cell? ⟨XB, 1, none⟩ = some (.int .i32 ch) ∧ W2.cell? ⟨wr.heap.size, 0, none⟩ = some (.int .i32 yl) ∧ W2.cell? ⟨wr.heap.size, 1, none⟩ = some (.int .i32 yh) ∧ W2.cell? ⟨y1.w.heap.size, 0, none⟩ = some (.int .i32 cl) ∧ W2.cell? ⟨y1.w.heap.size, 1, none⟩ = some (.int .i32 ch) ∧ W2.frozen? ⟨XB, 0, none⟩ = false ∧ W2.frozen? ⟨XB, 1, none⟩ = false ∧ y1.w.heap.size < W2.heap.size ∧ Below w.heap.size w W2 := by
                have hX : XB < y1.w.heap.size := by omega
                have hX' : XB < (wr.alloc (Obj.cells #[Value.int IntKind.i32 yl, Value.int IntKind.i32 yh] 23)).heap.size := by simp; omega
                have hY' : wr.heap.size < (wr.alloc (Obj.cells #[Value.int IntKind.i32 yl, Value.int IntKind.i32 yh] 23)).heap.size := by simp
                have hwr := belr.size
                refine ⟨_, rfl, ?_, ?_, ?_, ?_, by simp [go_sem], by simp [go_sem], ?_, ?_, by simp, ?_⟩
                · rw [World.cell?_alloc_past _ _ _ hX, y1.h.cell (p := ⟨XB, 0, none⟩) hX', World.cell?_alloc_past _ _ _ szr]; exact kx0
                · rw [World.cell?_alloc_past _ _ _ hX, y1.h.cell (p := ⟨XB, 1, none⟩) hX', World.cell?_alloc_past _ _ _ szr]; exact kx1
                · rw [World.cell?_alloc_past _ _ _ hs1, y1.h.cell (p := ⟨wr.heap.size, 0, none⟩) hY']; simp [go_sem]
                · rw [World.cell?_alloc_past _ _ _ hs1, y1.h.cell (p := ⟨wr.heap.size, 1, none⟩) hY']; simp [go_sem]
                · rw [World.frozen?_alloc_past _ _ _ hX, y1.h.frozen (p := ⟨XB, 0, none⟩) hX', World.frozen?_alloc_past _ _ _ szr]; exact gx0
                · rw [World.frozen?_alloc_past _ _ _ hX, y1.h.frozen (p := ⟨XB, 1, none⟩) hX', World.frozen?_alloc_past _ _ _ szr]; exact gx1
                · exact ((belr.alloc hwr _).trans (y1.h.mono (by simp; omega))).alloc (Nat.le_trans hwr (by omega)) _
              rw [hW2]
              have hX2 : XB < W2.heap.size := by omega
              have hY2 : wr.heap.size < W2.heap.size := by omega
              have hwr := belr.size
              clear hW2 kx0 kx1 gx0 gx1 e0 e1
              refine (Calls.ext (within_any _ _ _ _ _)).mono ?_
              rintro e _ ⟨rfl, y2, rfl⟩
              go_wp2_with fail
              refine (Calls.extq (within_any _ _ _ _ _)).mono ?_
              rintro e _ ⟨rfl, y3, rfl⟩
              go_wp2_with fail
              refine (Calls.extq (isEmpty_any _ _ _)).mono ?_
              rintro e _ ⟨rfl, y4, rfl⟩
              go_wp2_with fail
              refine (Calls.extq (isEmpty_any _ _ _)).mono ?_
              rintro e _ ⟨rfl, y4, rfl⟩
              go_wp2_with fail
              refine wp_region_extq (by kernel_rfl) (by kernel_rfl) ?_
              repeat (go_big_quiet_step (fail))
              refine wpQuiet_nil ?_
              rintro _ ⟨x1, rfl⟩
              go_wp2_with fail
              refine (Calls.extq (within_any _ _ _ _ _)).mono ?_
              rintro e _ ⟨rfl, y5, rfl⟩
              by_cases hB : withinI (cl, ch) (cl, ch) = true
              · have hp := HP3.out hB
                have hpz := phi_bd (cl, ch)
                go_wp2
                go_roundw
                case rel =>
                  refine ⟨k + 1, cl, ch, cc, by omega, by go_num, rfl, by omega, by omega, ⟨P3, P4, P5, P6⟩, ?_, ?_, ?_, ?_, ?_, ?_⟩
                  · simp [go_sem, hX2, cx0]
                  · simp [go_sem, hX2, cx1]
                  · simp [go_sem, hX2, fx0]
                  · simp [go_sem, hX2, fx1]
                  · simp [go_sem, hX2]
                  · exact ((Ext.below bel2 (by omega) y5).setCell hxb _).setCell hxb _
                case measure => simp [intOf]; omega
              · exact absurd (by simp [withinI, emp]) hB
    · go_wp2
      go_ret
      refine ⟨by simp; omega, belr⟩

set_option maxRecDepth 100000 in
set_option maxHeartbeats 1000000 in
theorem widens_long (xl xh : Int) (ao : Option Addr) (len cap : Nat) (w : World) (hlen : 60 < len) :
    Calls Try.prog 10 #[.agg #[.int .i32 xl, .int .i32 xh], .slice ao len cap] w fun e w' => e = .returned (.bool true) ∧ Below w.heap.size w w' := by
  have d60 : decide (60 < (len : Int)) = true := by simp; omega
  go_enter Try.func10, Try.ntmps10
  go_wp2_with fail
  refine (Calls.ext (awake_any _)).mono ?_
  rintro e _ ⟨rfl, y0, rfl⟩
  go_wp2_with fail
  refine (Calls.extq (awake_any _)).mono ?_
  rintro e _ ⟨rfl, y1, rfl⟩
  go_wp2
  all_goals
    go_ret
    refine ⟨rfl, ?_⟩
    (repeat (first | exact Below.refl _ _ | refine Below.setCell ?_ ?_ _ | refine Ext.below ?_ ?_ _ | refine Below.alloc ?_ ?_ _)) <;> (first | (simp; done) | (simp; omega) | omega)

set_option maxRecDepth 100000 in
set_option maxHeartbeats 1000000 in
theorem widens_zero (xl xh : Int) (ao : Option Addr) (cap : Nat) (w : World) :
    Calls Try.prog 10 #[.agg #[.int .i32 xl, .int .i32 xh], .slice ao 0 cap] w fun e w' => e = .returned (.bool true) ∧ Below w.heap.size w w' := by
  go_enter Try.func10, Try.ntmps10
  go_wp2_with fail
  refine (Calls.ext (awake_any _)).mono ?_
  rintro e _ ⟨rfl, y0, rfl⟩
  go_wp2_with fail
  refine wp_loop_rounds 1 ?_
  rw [rounds_succ]
  go_wp2
  all_goals
    go_ret
    refine ⟨rfl, ?_⟩
    (repeat (first | exact Below.refl _ _ | refine Below.setCell ?_ ?_ _ | refine Ext.below ?_ ?_ _ | refine Below.alloc ?_ ?_ _)) <;> (first | (simp; done) | (simp; omega) | omega)

section
variable {H : Type} {enc : TypeId × Value → H} {w : World} {base : Nat} {held : Bool}
/-- A slice of intervals. -/
theorem open_ivs {r : Reach} {b0 : Nat} {v : Value} {d : DataW H} {p : List MemPlace} (hv : Value.okWide Try.prog w r b0 46 v) (h : DataW.Trod enc Try.prog w base (fun _ => true) held 46 v d p) :
    ∃ (ao : Option Addr) (len cap : Nat), v = .slice ao len cap ∧ (len = 0 ∨ ∃ (b off : Nat) (lo hi : Nat → Int), ao = some ⟨b, off, none⟩ ∧ b < w.heap.size ∧ (∀ i, i < len → w.cell? ⟨b, off + i * 2, none⟩ = some (.int .i32 (lo i))) ∧ (∀ i, i < len → w.cell? ⟨b, off + i * 2 + 1, none⟩ = some (.int .i32 (hi i))) ∧
      ∀ i, i < len → -2147483648 ≤ lo i ∧ lo i ≤ 2147483647 ∧ -2147483648 ≤ hi i ∧ hi i ≤ 2147483647) := by
  obtain ⟨ao, len, cap, rfl⟩ := okWide_slice Try.underlying46 hv
  refine ⟨ao, len, cap, rfl, ?_⟩
  by_cases h0 : len = 0
  · exact .inl h0
  right
  obtain ⟨fuel, hf⟩ := h
  rcases Go.Deep.open_slice Try.underlying46 hf with ⟨hcs, _⟩ | ⟨a, len', cap', m, n, D, Pl, hcs, _, hl, _, hm, _, hi⟩
  · simp [Value.cells] at hcs; omega
  simp [Value.cells] at hcs
  obtain ⟨rfl, rfl, rfl⟩ := hcs
  simp only [if_true] at hm
  have hC : Try.prog.cellsOf 23 = 2 := by kernel_rfl
  have hC1 : Try.prog.cellsOf 21 = 1 := by kernel_rfl
  rw [hC] at hi
  have key : ∀ i, i < len → ∃ x y : Int, w.cell? (a.add (i * 2)) = some (.int .i32 x) ∧ w.cell? ((a.add (i * 2)).add 1) = some (.int .i32 y) ∧ (Lit.int .i32 x).wf = true ∧ (Lit.int .i32 y).wf = true := by
    intro i hlt
    obtain ⟨cs', hc, ht'⟩ := hi i (by omega)
    obtain ⟨_, hcl, hat⟩ := World.cells?_some hc
    match cs', hcl with
    | [c0, c1], _ =>
      obtain ⟨xs, n', _, _, _, hlen, hg⟩ := DataW.trod_struct Try.underlying23 ht'
      have hl2 : xs.length = 2 := hlen
      have g0 := hg 0 _ rfl
      have g1 := hg 1 _ rfl
      rw [List.getElem?_eq_getElem (by omega)] at g0 g1
      obtain ⟨x, e0, _, w0⟩ := DataW.trod_int Try.underlying21 g0
      obtain ⟨y, e1, _, w1⟩ := DataW.trod_int Try.underlying21 g1
      simp [hC1] at e0 e1
      subst e0 e1
      exact ⟨x, y, by simpa [Addr.add] using hat 0 (by omega), by simpa using hat 1 (by omega), w0, w1⟩
  obtain ⟨x0, y0, hx0, _⟩ := key 0 (by omega)
  have hsp : a.spot = none := by have := World.cell?_spot hx0; simpa [Addr.add] using this
  obtain ⟨b, off, sp⟩ := a
  simp only at hsp
  subst hsp
  have hb : b < w.heap.size := by have := World.block_lt_of_cell? w _ hx0; simpa [Addr.add] using this
  have ex : ∀ i, ∃ x y : Int, i < len → w.cell? ⟨b, off + i * 2, none⟩ = some (.int .i32 x) ∧ w.cell? ⟨b, off + i * 2 + 1, none⟩ = some (.int .i32 y) ∧ (Lit.int .i32 x).wf = true ∧ (Lit.int .i32 y).wf = true := by
    intro i
    by_cases hlt : i < len
    · obtain ⟨x, y, h1, h2, h3, h4⟩ := key i hlt
      refine ⟨x, y, fun _ => ⟨?_, ?_, h3, h4⟩⟩
      · unfold Addr.add at h1; split at h1
        · rename_i hz; rw [hz]; exact h1
        · exact h1
      · unfold Addr.add at h2; simp at h2; split at h2
        · rename_i hz; rw [hz]; simpa using h2
        · exact h2
    · exact ⟨0, 0, fun h => absurd h hlt⟩
  refine ⟨b, off, fun i => (ex i).choose, fun i => (ex i).choose_spec.choose, rfl, hb, fun i hlt => ((ex i).choose_spec.choose_spec hlt).1, fun i hlt => ((ex i).choose_spec.choose_spec hlt).2.1, fun i hlt => ?_⟩
  have h1 := bounds_i32 ((ex i).choose_spec.choose_spec hlt).2.2.1
  have h2 := bounds_i32 ((ex i).choose_spec.choose_spec hlt).2.2.2
  exact ⟨h1.1, h1.2, h2.1, h2.2⟩
end

theorem widens_any {H : Type} {enc : TypeId × Value → H} (xl xh : Int) (w : World) (hx1 : -2147483648 ≤ xl) (hx2 : xl ≤ 2147483647) (hx3 : -2147483648 ≤ xh) (hx4 : xh ≤ 2147483647) {r : Reach} {b0 : Nat} {v : Value} {d : DataW H} {p : List MemPlace} (hv : Value.okWide Try.prog w r b0 46 v) (h : DataW.Trod enc Try.prog w 0 (fun _ => true) true 46 v d p) :
    Calls Try.prog 10 #[.agg #[.int .i32 xl, .int .i32 xh], v] w fun e w' => e = .returned (.bool true) ∧ Below w.heap.size w w' := by
  obtain ⟨ao, len, cap, rfl, h0 | ⟨b, off, lo, hi, rfl, hb, hc0, hc1, hbd⟩⟩ := open_ivs hv h
  · subst h0
    exact widens_zero xl xh ao cap w
  · by_cases hl : 60 < len
    · exact widens_long xl xh _ len cap w hl
    · exact widens_some xl xh b off len cap lo hi w hx1 hx2 hx3 hx4 (by omega) hb hc0 hc1 hbd

set_option maxRecDepth 100000 in
theorem intervalWidens_lifted (os : Os) (started : os.Started) (H : Type) (enc : TypeId × Value → H) :
    ReturnsInHanded {} Try.checked os 10 .any (Rows.intervalWidensSpec.pre6 enc Try.prog Try.f10 Rows.intervalWidensRow.domain false) (Rows.intervalWidensSpec.post enc Try.prog Try.f10 false true false false) := by
  refine returnsInHanded_of_change (C := Try.checked) own started (by kernel_rfl) Try.func10
    (ChangeSpec.witness6 (enc := enc) (C := Try.checked) false ⟨#[], #[.agg #[.int .i32 0, .int .i32 0], .slice none 0 0], []⟩ 8 (by kernel_rfl) (by kernel_rfl) (by kernel_rfl) (by kernel_rfl)) ?_
  intro W base args ds gs before hval0 hW hcnd _
  have hval : ∀ (j : Nat) t v, Try.f10.params[j]? = some t → args[j]? = some v → Value.okWide Try.prog W .any base t v := hval0
  have hW' := hW
  obtain ⟨p, q, hA0, hV, rfl, hfz, hnd⟩ := hW
  have hA : DataW.TrodAll enc Try.prog W 0 (fun _ => true) true Try.f10.params.toList args.toList ds p := hA0
  rw [Try.params10] at hA hval
  obtain ⟨v0, vs0, d0, ds0, p0, q0, hargs, rfl, rfl, h0, r0⟩ := trodAll_cons hA
  obtain ⟨v1, vs1, d1, ds1, p1, q1, rfl, rfl, rfl, h1, r1⟩ := trodAll_cons r0
  obtain ⟨rfl, rfl, rfl⟩ := trodAll_nil r1
  obtain rfl : args = #[v0, v1] := by cases args; simp_all
  obtain ⟨rfl, rfl⟩ := trodVars_none hV
  have k0 := h0
  have lt0 : ∀ x ∈ p0, x.block < W.heap.size := by obtain ⟨m, hm⟩ := k0; exact DataW.trod_lt m _ _ _ hm
  have ok0 := hval 0 23 v0 rfl rfl
  have k1 := h1
  have lt1 : ∀ x ∈ p1, x.block < W.heap.size := by obtain ⟨m, hm⟩ := k1; exact DataW.trod_lt m _ _ _ hm
  have ok1 := hval 1 46 v1 rfl rfl
  obtain ⟨l0, u0, rfl, wl0, wu0⟩ := open_iv ok0 h0
  clear hA0 hval0
  refine (widens_any l0 u0 W (bounds_i32 wl0).1 (bounds_i32 wl0).2 (bounds_i32 wu0).1 (bounds_i32 wu0).2 ok1 h1).mono fun e W' ⟨he, bel⟩ => ?_
  subst he
  exact ⟨_, rfl, _, _, _, [], _, [], hW', trodAll_mk1 (shut_bool Try.underlying4 _), (trodAll_cons_mk (Below.trod laidOut (by kernel_rfl) (of_decide_eq_true (by kernel_rfl)) k0 bel lt0) (trodAll_cons_mk (Below.trod laidOut (by kernel_rfl) (of_decide_eq_true (by kernel_rfl)) k1 bel lt1) trodAll_mk0)), rfl, bel.frame _, fun h => by cases h⟩

/-- The statement. -/
theorem intervalWidens_holds : Rows.IntervalWidensSaid :=
  OpenClaim.holds_of_wide 10 Try.f10 rfl rfl rfl rfl rfl rfl rfl ⟨rfl, rfl, rfl, rfl, rfl⟩ rfl rfl rfl rfl rfl (by kernel_rfl) Try.func10 (by kernel_rfl)
    (of_decide_eq_true (by kernel_rfl)) (by unfold Func.isWrapper; first | (rw [if_pos (by decide +kernel)]; kernel_rfl) | (rw [if_neg (by decide +kernel)]; exact ⟨rfl, rfl⟩))
    (fun os started H enc _ => intervalWidens_lifted os started H enc)

end Go.Proofs.Ytjkjcnamlankoaa
