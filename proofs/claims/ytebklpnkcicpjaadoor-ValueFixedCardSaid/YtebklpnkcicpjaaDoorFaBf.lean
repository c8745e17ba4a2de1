/-
 What is proved here: what decode returns.
-/
import Derived.Test.YtebklpnkcicpjaaDoorFaAf
import Derived.Test.YtebklpnkcicpjaaDoorFbCd
import Derived.Test.YtebklpnkcicpjaaDoorFbCa
namespace Go.Proofs.YtebklpnkcicpjaaDoor
open Go.RowKit
set_option linter.unusedVariables false
set_option linter.unusedSimpArgs false

set_option maxRecDepth 100000 in
set_option maxHeartbeats 2000000 in
theorem vdecode_any (cv ev : Value) (sh lk : Int) (n : Nat) (cd : Nat → Int) (pc : Nat) (hpc : pc < n) (hd : (decI (cd pc)).2 = 0) (w : World) (T : Tab w) (HW : Words w cv n cd) :
  Calls Tryd.prog 42 #[.agg #[cv, ev, .int .i64 sh, .int .i64 lk], .int .i64 (pc : Int)] w fun e w' => e = .returned (.tuple #[(insAt cd (pc : Int)).val, .bool true]) ∧ Below w.heap.size w w' := by
 obtain ⟨A, cap, rfl, hc1, hc2, hc3⟩ := HW.at_
 obtain ⟨b, off, rfl, hb, hc⟩ := hc3 (by omega)
 have hwd := HW.wd pc hpc
 have hn6 := HW.le
 have hcell := hc pc hpc
 have hcap := max_63 hc2
 obtain ⟨x, hx⟩ : ∃ x, cd pc = x := ⟨_, rfl⟩
 rw [hx] at hwd hcell hd
 obtain ⟨V, hV, k0, k1, bV, sV⟩ : ∃ V, (w.alloc (.cells #[.slice (some ⟨b, off, none⟩) n cap, ev, .int .i64 sh, .int .i64 lk] 38)).alloc (.cells #[.int .u8 0, .int .i64 0, .int .i64 0, .int .i64 0, .int .i64 0] 23) = V ∧ V.heap[w.heap.size]? = some (.cells #[.slice (some ⟨b, off, none⟩) n cap, ev, .int .i64 sh, .int .i64 lk] 38 (0, 0)) ∧ V.heap[w.heap.size + 1]? = some (.cells #[.int .u8 0, .int .i64 0, .int .i64 0, .int .i64 0, .int .i64 0] 23 (0, 0)) ∧ Below w.heap.size w V ∧ V.heap.size = w.heap.size + 1 + 1 := by
  refine ⟨_, rfl, ?_, heap_alloc_at _ _ (by simp), ((Below.refl _ _).alloc (Nat.le_refl _) _).alloc (by simp) _, by simp⟩
  rw [heap_alloc_old _ _ (by simp)]; exact heap_alloc_new _ _
 have v0 : V.cell? ⟨w.heap.size, 0, none⟩ = some (.slice (some ⟨b, off, none⟩) n cap) := by simp [World.cell?, k0]
 have l0 : w.heap.size < V.heap.size := by omega
 have lb : b < V.heap.size := by omega
 have vx : V.cell? ⟨b, off + pc, none⟩ = some (.int .u32 x) := (bV.cell (p := ⟨b, off + pc, none⟩) hb).trans hcell
 have dp : decide ((pc : Int) < 0) = false := decide_eq_false (by omega)
 have dn : decide ((n : Int) ≤ (pc : Int)) = false := decide_eq_false (by omega)
 have dn2 : (pc : Int) < (n : Int) := by omega
 obtain ⟨op, a, b', c, im, hi⟩ : ∃ op a b c im, (decI x).1 = ⟨op, a, b, c, im⟩ := ⟨_, _, _, _, _, rfl⟩
 have HD := Lib.hid (show Calls Tryd.prog 19 #[.int .u32 x] V fun e w' => e = .returned (.tuple #[.agg #[.int .u8 op, .int .i64 a, .int .i64 b', .int .i64 c, .int .i64 im], .int .i64 0]) ∧ Below V.heap.size V w' from by
  have := decode_any x hwd.1 hwd.2 V (T.below bV)
  rw [hd, hi] at this
  exact this)
 have HI := Lib.hid (show insAt cd (pc : Int) = ⟨op, a, b', c, im⟩ by unfold insAt; rw [show ((pc : Int)).toNat = pc by omega, hx]; exact hi)
 have BV := Lib.hid bV
 have K1 := Lib.hid k1
 have SV := Lib.hid sV
 clear hc hc3 hx hd hi bV k0 k1 sV hcell HW hc2 hb
 go_enter Tryd.func42, Tryd.ntmps42
 go_upto_region 4 with (first | (go_at_call 19; refine HD.out.mono ?_; rintro e w1 ⟨rfl, hb1⟩))
 obtain ⟨Y, hY⟩ : ∃ Y, w1.alloc (.cells #[.int .u8 op, .int .i64 a, .int .i64 b', .int .i64 c, .int .i64 im] 23) = Y := ⟨_, rfl⟩
 rw [hY]
 have bY : Below w1.heap.size w1 Y := hY ▸ (Below.refl _ _).alloc (Nat.le_refl _) _
 obtain ⟨z0, z1, z2, z3, z4, lY⟩ := ins_block (show Y.heap[w1.heap.size]? = some (.cells #[.int .u8 op, .int .i64 a, .int .i64 b', .int .i64 c, .int .i64 im] 23 (0, 0)) from hY ▸ heap_alloc_new _ _)
 have bVY : Below V.heap.size V Y := hb1.trans (bY.mono hb1.size)
 have KY : Y.heap[w.heap.size + 1]? = some (.cells #[.int .u8 0, .int .i64 0, .int .i64 0, .int .i64 0, .int .i64 0] 23 (0, 0)) := (bVY.block _ (by have := SV.out; omega)).trans K1.out
 have lO : w.heap.size + 1 < Y.heap.size := (Array.getElem?_eq_some_iff.1 KY).1
 have KYH := Lib.hid KY
 have BY := Lib.hid (BV.out.trans (bVY.mono BV.out.size))
 clear hY bY bVY KY hb1 hV vx v0
 go_wp2_with (refine wpList_store_row rfl 23 (.tmp 4) (.tmp 27) rfl (w.heap.size + 1) #[.int .u8 op, .int .i64 a, .int .i64 b', .int .i64 c, .int .i64 im] rfl rfl 23 _ KYH.out (by kernel_rfl) rfl (by simp [Value.oneCell']) ?_)
 rw [HI.out]
 refine bodyPost_ret (results_cell_tmp (P := Tryd.prog) Tryd.results42 _ _ (w.heap.size + 1) [.int .u8 op, .int .i64 a, .int .i64 b', .int .i64 c, .int .i64 im] _ rfl (rangeAt_block (setRow_heap _ _ _ _ _ _ KYH.out)) Tryd.underlying23 rfl (by kernel_rfl)) rfl ⟨rfl, below_setRow BY.out (by omega) _⟩

end Go.Proofs.YtebklpnkcicpjaaDoor


