/-
  What is proved here: what control and branch return.
-/
import Derived.Test.YtfceodpdipniaaaDoorCoAcc
namespace Go.Proofs.YtfceodpdipniaaaDoor
open Go.RowKit
set_option linter.unusedVariables false
set_option linter.unusedSimpArgs false
theorem keepsX {W w' : World} {xb : Nat} (h : Below W.heap.size W w') (hx : xb < W.heap.size) : (∀ o, o < 10 → w'.cell? ⟨xb, o, none⟩ = W.cell? ⟨xb, o, none⟩) ∧ Fr (· = xb) W w' := ⟨fun o _ => h.cell (p := ⟨xb, o, none⟩) hx, Fr.of h⟩
theorem keepsX_set {W w' : World} {xb : Nat} (h : (∀ o, o < 10 → w'.cell? ⟨xb, o, none⟩ = W.cell? ⟨xb, o, none⟩) ∧ Fr (· = xb) W w') (v : Value) : (∀ o, o < 10 → (w'.setCell ⟨xb, 10, none⟩ v).cell? ⟨xb, o, none⟩ = W.cell? ⟨xb, o, none⟩) ∧ Fr (· = xb) W (w'.setCell ⟨xb, 10, none⟩ v) :=
  ⟨fun o ho => by rw [← h.1 o ho]; exact World.cell?_setCell_other _ _ _ _ (by intro e; cases e; omega), h.2.set _ (.inl rfl)⟩
/-- What branch returns. -/
def BrPost (xb sb : Nat) (I : Ins) (s : St) (w : World) (e : Ending) (w' : World) : Prop :=
  e = .returned (.tuple #[.func (.func 63) #[] #[], .int .i64 0]) ∧ (∃ tk, w'.heap[xb]? = some (.cells (xCells I s.pc tk (-1) 0 sb (if taken I s = true then s.pc + 1 + I.imm else s.pc + 1)) 119 (0, 0))) ∧ Fr (· = xb) w w'
theorem keepsJ {W w' : World} (h : Below W.heap.size W w') : (∀ b o, b < W.heap.size → w'.cell? ⟨b, o, none⟩ = W.cell? ⟨b, o, none⟩) ∧ Below W.heap.size W w' := ⟨fun b o hb => h.cell (p := ⟨b, o, none⟩) hb, h⟩

set_option maxRecDepth 20000 in
set_option maxHeartbeats 2000000 in
theorem ctl_lock_err (xb sb : Nat) (im lk a b c : Int) (s : St) (h : ¬ (s.held < 0 ∧ im < lk)) (w : World)
    (hx : w.heap[xb]? = some (.cells (xCells ⟨28, a, b, c, im⟩ s.pc false (-1) 0 sb (s.pc + 1)) 119 (0, 0))) (hM : Mach w sb s) :
    Calls Tryd.prog 67 #[.pointer (some ⟨xb, 0, none⟩), .int .i64 lk] w fun e w' => e = .returned (.tuple #[.nilFunc, .int .i64 12]) ∧ Below w.heap.size w w' := by
  have HX0 := Lib.hid hx
  have HM0 := Lib.hid hM
  obtain ⟨x0, x1, x2, x3, x4, x5, -, -, -, x9, -, xf⟩ := x_cells HX0.out
  have lx := lt_of_blk' HX0.out
  clear hx hM xf
  simp only at x0 x1 x2 x3 x4
  go_enter Tryd.func67, Tryd.ntmps67
  go_upto_region 1 with fail
  go_cut [6, 7] from 8 to 16 (fun a6 a7 wx => ∃ ib cb, a6 = .pointer (some ⟨ib, 0, none⟩) ∧ a7 = .pointer (some ⟨cb, 0, none⟩) ∧ wx.heap[ib]? = some (.cells #[.int .u8 28, .int .i64 a, .int .i64 b, .int .i64 c, .int .i64 im] 53 (0, 0)) ∧ wx.heap[cb]? = some (.cells #[.pointer (some ⟨sb, 0, none⟩)] 85 (0, 0)) ∧ Below w.heap.size w wx)
  case first =>
    go_region
    all_goals
      go_wp2_with fail
      go_meet
      case rel => first
        | exact ⟨_, _, rfl, rfl, (two_blocks w _ _).1, (two_blocks w _ _).2.1, (two_blocks w _ _).2.2⟩
        | exact ⟨_, _, rfl, rfl, (two_blocks w _ _).2.1, (two_blocks w _ _).1, (two_blocks w _ _).2.2⟩
  case rest =>
    obtain ⟨ib, cb, rfl, rfl, kib, kcb, hbw⟩ := hcut
    obtain ⟨W1, hW1⟩ : ∃ W1 : World, W1 = wc := ⟨_, rfl⟩
    subst hW1
    obtain ⟨i0, i1, i2, i3, i4, li⟩ := ins_cells kib
    obtain ⟨cb0, lcb⟩ := one_cell' kcb
    have HM1 := Lib.hid (HM0.out.keep (hbw.block sb HM0.out.lt))
    have B1 := Lib.hid hbw
    have HX1 := Lib.hid ((hbw.block xb lx).trans HX0.out)
    have KIB := Lib.hid kib
    have KCB := Lib.hid kcb
    have lsb := HM1.out.lt
    have rhd := HM1.out.held
    obtain ⟨y0, y1, y2, y3, y4, y5, y6, y7, y8, y9, y10, yf⟩ := x_cells HX1.out
    have yf10 := yf 10
    have lx1 := lt_of_blk' HX1.out
    obtain ⟨hd, hhd⟩ : ∃ hd, s.held = hd := ⟨_, rfl⟩
    obtain ⟨pc, hpc⟩ : ∃ pc, s.pc = pc := ⟨_, rfl⟩
    rw [hhd] at rhd
    rw [hpc] at y5 y10
    have HPC := Lib.hid hpc
    clear kib kcb hbw x0 x1 x2 x3 x4 x5 x9 yf
    rw [hhd] at h
    by_cases h1 : 0 ≤ hd
    · have d := decide_eq_true h1
      clear h h1 hhd hpc
      go_wp2_with fail
      go_ret2
      exact ⟨rfl, B1.out⟩
    · have d := decide_eq_false h1
      have d2 : decide (lk ≤ im) = true := decide_eq_true (by omega)
      clear h h1 hhd hpc
      go_wp2_with fail
      go_ret2
      exact ⟨rfl, B1.out⟩

set_option maxRecDepth 20000 in
set_option maxHeartbeats 2000000 in
theorem ctl_lock_ok (xb sb : Nat) (im lk a b c : Int) (s : St) (h : s.held < 0) (h2 : im < lk) (w : World)
    (hx : w.heap[xb]? = some (.cells (xCells ⟨28, a, b, c, im⟩ s.pc false (-1) 0 sb (s.pc + 1)) 119 (0, 0))) (hM : Mach w sb s) :
    Calls Tryd.prog 67 #[.pointer (some ⟨xb, 0, none⟩), .int .i64 lk] w fun e w' => (∃ ib cb, e = .returned (.tuple #[.func (.func 73) #[] #[.pointer (some ⟨ib, 0, none⟩), .pointer (some ⟨cb, 0, none⟩)], .int .i64 0]) ∧ w'.cell? ⟨ib, 4, none⟩ = some (.int .i64 im) ∧ w'.cell? ⟨cb, 0, none⟩ = some (.pointer (some ⟨sb, 0, none⟩))) ∧ Below w.heap.size w w' := by
  have HX0 := Lib.hid hx
  have HM0 := Lib.hid hM
  obtain ⟨x0, x1, x2, x3, x4, x5, -, -, -, x9, -, xf⟩ := x_cells HX0.out
  have lx := lt_of_blk' HX0.out
  clear hx hM xf
  simp only at x0 x1 x2 x3 x4
  go_enter Tryd.func67, Tryd.ntmps67
  go_upto_region 1 with fail
  go_cut [6, 7] from 8 to 16 (fun a6 a7 wx => ∃ ib cb, a6 = .pointer (some ⟨ib, 0, none⟩) ∧ a7 = .pointer (some ⟨cb, 0, none⟩) ∧ wx.heap[ib]? = some (.cells #[.int .u8 28, .int .i64 a, .int .i64 b, .int .i64 c, .int .i64 im] 53 (0, 0)) ∧ wx.heap[cb]? = some (.cells #[.pointer (some ⟨sb, 0, none⟩)] 85 (0, 0)) ∧ Below w.heap.size w wx)
  case first =>
    go_region
    all_goals
      go_wp2_with fail
      go_meet
      case rel => first
        | exact ⟨_, _, rfl, rfl, (two_blocks w _ _).1, (two_blocks w _ _).2.1, (two_blocks w _ _).2.2⟩
        | exact ⟨_, _, rfl, rfl, (two_blocks w _ _).2.1, (two_blocks w _ _).1, (two_blocks w _ _).2.2⟩
  case rest =>
    obtain ⟨ib, cb, rfl, rfl, kib, kcb, hbw⟩ := hcut
    obtain ⟨W1, hW1⟩ : ∃ W1 : World, W1 = wc := ⟨_, rfl⟩
    subst hW1
    obtain ⟨i0, i1, i2, i3, i4, li⟩ := ins_cells kib
    obtain ⟨cb0, lcb⟩ := one_cell' kcb
    have HM1 := Lib.hid (HM0.out.keep (hbw.block sb HM0.out.lt))
    have B1 := Lib.hid hbw
    have HX1 := Lib.hid ((hbw.block xb lx).trans HX0.out)
    have KIB := Lib.hid kib
    have KCB := Lib.hid kcb
    have lsb := HM1.out.lt
    have rhd := HM1.out.held
    obtain ⟨y0, y1, y2, y3, y4, y5, y6, y7, y8, y9, y10, yf⟩ := x_cells HX1.out
    have yf10 := yf 10
    have lx1 := lt_of_blk' HX1.out
    obtain ⟨hd, hhd⟩ : ∃ hd, s.held = hd := ⟨_, rfl⟩
    obtain ⟨pc, hpc⟩ : ∃ pc, s.pc = pc := ⟨_, rfl⟩
    rw [hhd] at rhd
    rw [hpc] at y5 y10
    have HPC := Lib.hid hpc
    clear kib kcb hbw x0 x1 x2 x3 x4 x5 x9 yf
    rw [hhd] at h
    have d : decide (0 ≤ hd) = false := decide_eq_false (by omega)
    have d2 : decide (lk ≤ im) = false := decide_eq_false (by omega)
    have I4 := Lib.hid i4
    have CB := Lib.hid cb0
    clear h h2 hhd hpc
    go_wp2_with fail
    go_ret2
    exact ⟨⟨ib, cb, rfl, I4.out, CB.out⟩, B1.out⟩

set_option maxRecDepth 20000 in
set_option maxHeartbeats 2000000 in
theorem ctl_unlock_err (xb sb : Nat) (im lk a b c : Int) (s : St) (h : s.held ≠ im) (w : World)
    (hx : w.heap[xb]? = some (.cells (xCells ⟨29, a, b, c, im⟩ s.pc false (-1) 0 sb (s.pc + 1)) 119 (0, 0))) (hM : Mach w sb s) :
    Calls Tryd.prog 67 #[.pointer (some ⟨xb, 0, none⟩), .int .i64 lk] w fun e w' => e = .returned (.tuple #[.nilFunc, .int .i64 12]) ∧ Below w.heap.size w w' := by
  have HX0 := Lib.hid hx
  have HM0 := Lib.hid hM
  obtain ⟨x0, x1, x2, x3, x4, x5, -, -, -, x9, -, xf⟩ := x_cells HX0.out
  have lx := lt_of_blk' HX0.out
  clear hx hM xf
  simp only at x0 x1 x2 x3 x4
  go_enter Tryd.func67, Tryd.ntmps67
  go_upto_region 1 with fail
  go_cut [6, 7] from 8 to 16 (fun a6 a7 wx => ∃ ib cb, a6 = .pointer (some ⟨ib, 0, none⟩) ∧ a7 = .pointer (some ⟨cb, 0, none⟩) ∧ wx.heap[ib]? = some (.cells #[.int .u8 29, .int .i64 a, .int .i64 b, .int .i64 c, .int .i64 im] 53 (0, 0)) ∧ wx.heap[cb]? = some (.cells #[.pointer (some ⟨sb, 0, none⟩)] 85 (0, 0)) ∧ Below w.heap.size w wx)
  case first =>
    go_region
    all_goals
      go_wp2_with fail
      go_meet
      case rel => first
        | exact ⟨_, _, rfl, rfl, (two_blocks w _ _).1, (two_blocks w _ _).2.1, (two_blocks w _ _).2.2⟩
        | exact ⟨_, _, rfl, rfl, (two_blocks w _ _).2.1, (two_blocks w _ _).1, (two_blocks w _ _).2.2⟩
  case rest =>
    obtain ⟨ib, cb, rfl, rfl, kib, kcb, hbw⟩ := hcut
    obtain ⟨W1, hW1⟩ : ∃ W1 : World, W1 = wc := ⟨_, rfl⟩
    subst hW1
    obtain ⟨i0, i1, i2, i3, i4, li⟩ := ins_cells kib
    obtain ⟨cb0, lcb⟩ := one_cell' kcb
    have HM1 := Lib.hid (HM0.out.keep (hbw.block sb HM0.out.lt))
    have B1 := Lib.hid hbw
    have HX1 := Lib.hid ((hbw.block xb lx).trans HX0.out)
    have KIB := Lib.hid kib
    have KCB := Lib.hid kcb
    have lsb := HM1.out.lt
    have rhd := HM1.out.held
    obtain ⟨y0, y1, y2, y3, y4, y5, y6, y7, y8, y9, y10, yf⟩ := x_cells HX1.out
    have yf10 := yf 10
    have lx1 := lt_of_blk' HX1.out
    obtain ⟨hd, hhd⟩ : ∃ hd, s.held = hd := ⟨_, rfl⟩
    obtain ⟨pc, hpc⟩ : ∃ pc, s.pc = pc := ⟨_, rfl⟩
    rw [hhd] at rhd
    rw [hpc] at y5 y10
    have HPC := Lib.hid hpc
    clear kib kcb hbw x0 x1 x2 x3 x4 x5 x9 yf
    rw [hhd] at h
    have d : (hd != im) = true := by simpa using h
    clear h hhd hpc
    go_upto_region 8 with fail
    refine wp_region_ext (by kernel_rfl) (by kernel_rfl) ?_
    repeat (go_big_quiet_step (fail))
    refine wpQuiet_nil ?_
    rintro _ ⟨y, rfl⟩
    go_wp2_with fail
    go_ret2
    exact ⟨rfl, Ext.below B1.out B1.out.size y⟩

set_option maxRecDepth 20000 in
set_option maxHeartbeats 2000000 in
theorem ctl_unlock_ok (xb sb : Nat) (im lk a b c : Int) (s : St) (h : s.held = im) (w : World)
    (hx : w.heap[xb]? = some (.cells (xCells ⟨29, a, b, c, im⟩ s.pc false (-1) 0 sb (s.pc + 1)) 119 (0, 0))) (hM : Mach w sb s) :
    Calls Tryd.prog 67 #[.pointer (some ⟨xb, 0, none⟩), .int .i64 lk] w fun e w' => (∃ cb, e = .returned (.tuple #[.func (.func 74) #[] #[.pointer (some ⟨cb, 0, none⟩)], .int .i64 0]) ∧ w'.cell? ⟨cb, 0, none⟩ = some (.pointer (some ⟨sb, 0, none⟩))) ∧ Below w.heap.size w w' := by
  have HX0 := Lib.hid hx
  have HM0 := Lib.hid hM
  obtain ⟨x0, x1, x2, x3, x4, x5, -, -, -, x9, -, xf⟩ := x_cells HX0.out
  have lx := lt_of_blk' HX0.out
  clear hx hM xf
  simp only at x0 x1 x2 x3 x4
  go_enter Tryd.func67, Tryd.ntmps67
  go_upto_region 1 with fail
  go_cut [6, 7] from 8 to 16 (fun a6 a7 wx => ∃ ib cb, a6 = .pointer (some ⟨ib, 0, none⟩) ∧ a7 = .pointer (some ⟨cb, 0, none⟩) ∧ wx.heap[ib]? = some (.cells #[.int .u8 29, .int .i64 a, .int .i64 b, .int .i64 c, .int .i64 im] 53 (0, 0)) ∧ wx.heap[cb]? = some (.cells #[.pointer (some ⟨sb, 0, none⟩)] 85 (0, 0)) ∧ Below w.heap.size w wx)
  case first =>
    go_region
    all_goals
      go_wp2_with fail
      go_meet
      case rel => first
        | exact ⟨_, _, rfl, rfl, (two_blocks w _ _).1, (two_blocks w _ _).2.1, (two_blocks w _ _).2.2⟩
        | exact ⟨_, _, rfl, rfl, (two_blocks w _ _).2.1, (two_blocks w _ _).1, (two_blocks w _ _).2.2⟩
  case rest =>
    obtain ⟨ib, cb, rfl, rfl, kib, kcb, hbw⟩ := hcut
    obtain ⟨W1, hW1⟩ : ∃ W1 : World, W1 = wc := ⟨_, rfl⟩
    subst hW1
    obtain ⟨i0, i1, i2, i3, i4, li⟩ := ins_cells kib
    obtain ⟨cb0, lcb⟩ := one_cell' kcb
    have HM1 := Lib.hid (HM0.out.keep (hbw.block sb HM0.out.lt))
    have B1 := Lib.hid hbw
    have HX1 := Lib.hid ((hbw.block xb lx).trans HX0.out)
    have KIB := Lib.hid kib
    have KCB := Lib.hid kcb
    have lsb := HM1.out.lt
    have rhd := HM1.out.held
    obtain ⟨y0, y1, y2, y3, y4, y5, y6, y7, y8, y9, y10, yf⟩ := x_cells HX1.out
    have yf10 := yf 10
    have lx1 := lt_of_blk' HX1.out
    obtain ⟨hd, hhd⟩ : ∃ hd, s.held = hd := ⟨_, rfl⟩
    obtain ⟨pc, hpc⟩ : ∃ pc, s.pc = pc := ⟨_, rfl⟩
    rw [hhd] at rhd
    rw [hpc] at y5 y10
    have HPC := Lib.hid hpc
    clear kib kcb hbw x0 x1 x2 x3 x4 x5 x9 yf
    rw [hhd] at h
    subst h
    have d : (hd != hd) = false := by simp
    have CB := Lib.hid cb0
    clear hhd hpc
    go_upto_region 8 with fail
    refine wp_region_ext (by kernel_rfl) (by kernel_rfl) ?_
    repeat (go_big_quiet_step (fail))
    refine wpQuiet_nil ?_
    rintro _ ⟨y, rfl⟩
    go_wp2_with fail
    go_ret2
    exact ⟨⟨cb, rfl, (y.cell cb 0 lcb).trans CB.out⟩, Ext.below B1.out B1.out.size y⟩

set_option maxRecDepth 20000 in
set_option maxHeartbeats 2000000 in
theorem ctl_halt_err (xb sb : Nat) (im lk a b c : Int) (s : St) (h : ¬ s.held < 0) (w : World)
    (hx : w.heap[xb]? = some (.cells (xCells ⟨1, a, b, c, im⟩ s.pc false (-1) 0 sb (s.pc + 1)) 119 (0, 0))) (hM : Mach w sb s) :
    Calls Tryd.prog 67 #[.pointer (some ⟨xb, 0, none⟩), .int .i64 lk] w fun e w' => e = .returned (.tuple #[.nilFunc, .int .i64 12]) ∧ Below w.heap.size w w' := by
  have HX0 := Lib.hid hx
  have HM0 := Lib.hid hM
  obtain ⟨x0, x1, x2, x3, x4, x5, -, -, -, x9, -, xf⟩ := x_cells HX0.out
  have lx := lt_of_blk' HX0.out
  clear hx hM xf
  simp only at x0 x1 x2 x3 x4
  go_enter Tryd.func67, Tryd.ntmps67
  go_upto_region 1 with fail
  go_cut [6, 7] from 8 to 16 (fun a6 a7 wx => ∃ ib cb, a6 = .pointer (some ⟨ib, 0, none⟩) ∧ a7 = .pointer (some ⟨cb, 0, none⟩) ∧ wx.heap[ib]? = some (.cells #[.int .u8 1, .int .i64 a, .int .i64 b, .int .i64 c, .int .i64 im] 53 (0, 0)) ∧ wx.heap[cb]? = some (.cells #[.pointer (some ⟨sb, 0, none⟩)] 85 (0, 0)) ∧ Below w.heap.size w wx)
  case first =>
    go_region
    all_goals
      go_wp2_with fail
      go_meet
      case rel => first
        | exact ⟨_, _, rfl, rfl, (two_blocks w _ _).1, (two_blocks w _ _).2.1, (two_blocks w _ _).2.2⟩
        | exact ⟨_, _, rfl, rfl, (two_blocks w _ _).2.1, (two_blocks w _ _).1, (two_blocks w _ _).2.2⟩
  case rest =>
    obtain ⟨ib, cb, rfl, rfl, kib, kcb, hbw⟩ := hcut
    obtain ⟨W1, hW1⟩ : ∃ W1 : World, W1 = wc := ⟨_, rfl⟩
    subst hW1
    obtain ⟨i0, i1, i2, i3, i4, li⟩ := ins_cells kib
    obtain ⟨cb0, lcb⟩ := one_cell' kcb
    have HM1 := Lib.hid (HM0.out.keep (hbw.block sb HM0.out.lt))
    have B1 := Lib.hid hbw
    have HX1 := Lib.hid ((hbw.block xb lx).trans HX0.out)
    have KIB := Lib.hid kib
    have KCB := Lib.hid kcb
    have lsb := HM1.out.lt
    have rhd := HM1.out.held
    obtain ⟨y0, y1, y2, y3, y4, y5, y6, y7, y8, y9, y10, yf⟩ := x_cells HX1.out
    have yf10 := yf 10
    have lx1 := lt_of_blk' HX1.out
    obtain ⟨hd, hhd⟩ : ∃ hd, s.held = hd := ⟨_, rfl⟩
    obtain ⟨pc, hpc⟩ : ∃ pc, s.pc = pc := ⟨_, rfl⟩
    rw [hhd] at rhd
    rw [hpc] at y5 y10
    have HPC := Lib.hid hpc
    clear kib kcb hbw x0 x1 x2 x3 x4 x5 x9 yf
    rw [hhd] at h
    have d : decide (0 ≤ hd) = true := decide_eq_true (by omega)
    clear h hhd hpc
    go_wp2_with fail
    go_ret2
    exact ⟨rfl, B1.out⟩

set_option maxRecDepth 20000 in
set_option maxHeartbeats 2000000 in
theorem ctl_halt_ok (xb sb : Nat) (im lk a b c : Int) (s : St) (h : s.held < 0) (w : World)
    (hx : w.heap[xb]? = some (.cells (xCells ⟨1, a, b, c, im⟩ s.pc false (-1) 0 sb (s.pc + 1)) 119 (0, 0))) (hM : Mach w sb s) :
    Calls Tryd.prog 67 #[.pointer (some ⟨xb, 0, none⟩), .int .i64 lk] w fun e w' => (∃ cb, e = .returned (.tuple #[.func (.func 75) #[] #[.pointer (some ⟨cb, 0, none⟩)], .int .i64 0]) ∧ w'.cell? ⟨cb, 0, none⟩ = some (.pointer (some ⟨sb, 0, none⟩))) ∧ w'.heap[xb]? = some (.cells (xCells ⟨1, a, b, c, im⟩ s.pc false (-1) 0 sb s.pc) 119 (0, 0)) ∧ Fr (· = xb) w w' := by
  have HX0 := Lib.hid hx
  have HM0 := Lib.hid hM
  obtain ⟨x0, x1, x2, x3, x4, x5, -, -, -, x9, -, xf⟩ := x_cells HX0.out
  have lx := lt_of_blk' HX0.out
  clear hx hM xf
  simp only at x0 x1 x2 x3 x4
  go_enter Tryd.func67, Tryd.ntmps67
  go_upto_region 1 with fail
  go_cut [6, 7] from 8 to 16 (fun a6 a7 wx => ∃ ib cb, a6 = .pointer (some ⟨ib, 0, none⟩) ∧ a7 = .pointer (some ⟨cb, 0, none⟩) ∧ wx.heap[ib]? = some (.cells #[.int .u8 1, .int .i64 a, .int .i64 b, .int .i64 c, .int .i64 im] 53 (0, 0)) ∧ wx.heap[cb]? = some (.cells #[.pointer (some ⟨sb, 0, none⟩)] 85 (0, 0)) ∧ Below w.heap.size w wx)
  case first =>
    go_region
    all_goals
      go_wp2_with fail
      go_meet
      case rel => first
        | exact ⟨_, _, rfl, rfl, (two_blocks w _ _).1, (two_blocks w _ _).2.1, (two_blocks w _ _).2.2⟩
        | exact ⟨_, _, rfl, rfl, (two_blocks w _ _).2.1, (two_blocks w _ _).1, (two_blocks w _ _).2.2⟩
  case rest =>
    obtain ⟨ib, cb, rfl, rfl, kib, kcb, hbw⟩ := hcut
    obtain ⟨W1, hW1⟩ : ∃ W1 : World, W1 = wc := ⟨_, rfl⟩
    subst hW1
    obtain ⟨i0, i1, i2, i3, i4, li⟩ := ins_cells kib
    obtain ⟨cb0, lcb⟩ := one_cell' kcb
    have HM1 := Lib.hid (HM0.out.keep (hbw.block sb HM0.out.lt))
    have B1 := Lib.hid hbw
    have HX1 := Lib.hid ((hbw.block xb lx).trans HX0.out)
    have KIB := Lib.hid kib
    have KCB := Lib.hid kcb
    have lsb := HM1.out.lt
    have rhd := HM1.out.held
    obtain ⟨y0, y1, y2, y3, y4, y5, y6, y7, y8, y9, y10, yf⟩ := x_cells HX1.out
    have yf10 := yf 10
    have lx1 := lt_of_blk' HX1.out
    obtain ⟨hd, hhd⟩ : ∃ hd, s.held = hd := ⟨_, rfl⟩
    obtain ⟨pc, hpc⟩ : ∃ pc, s.pc = pc := ⟨_, rfl⟩
    rw [hhd] at rhd
    rw [hpc] at y5 y10
    have HPC := Lib.hid hpc
    clear kib kcb hbw x0 x1 x2 x3 x4 x5 x9 yf
    rw [hhd] at h
    have d : decide (0 ≤ hd) = false := decide_eq_false (by omega)
    have HCX := Lib.hid (show cb ≠ xb from fun e => by rw [e, HX1.out] at KCB; have := KCB.out; simp [xCells] at this)
    clear h hhd hpc
    go_wp2_with fail
    go_ret2
    refine ⟨⟨cb, rfl, ?_⟩, ?_, (Fr.of B1.out).trans ((Fr.refl (· = xb) W1).set (o := 10) (.int .i64 pc) (.inl rfl))⟩
    · rw [World.cell?_of_block (Below.heap_setCell _ _ _ _ HCX.out)]
      exact (one_cell' KCB.out).1
    · rw [heap_setCell_same W1 xb 10 _ _ _ HX1.out, HPC.out]
      rfl

set_option maxRecDepth 20000 in
set_option maxHeartbeats 2000000 in
theorem br_22 (xb sb : Nat) (im b c : Int) (a : Nat) (ha : a < 16) (him : -131072 ≤ im ∧ im ≤ 131071) (s : St) (hpc : 0 ≤ s.pc ∧ s.pc ≤ 1000000) (w : World)
    (hx : w.heap[xb]? = some (.cells (xCells ⟨22, a, b, c, im⟩ s.pc false (-1) 0 sb (s.pc + 1)) 119 (0, 0))) (hM : Mach w sb s) :
    Calls Tryd.prog 66 #[.pointer (some ⟨xb, 0, none⟩)] w (BrPost xb sb ⟨22, a, b, c, im⟩ s w) := by
  have HX0 := Lib.hid hx
  have HM0 := Lib.hid hM
  obtain ⟨x0, x1, x2, x3, x4, x5, -, -, -, x9, -, xf⟩ := x_cells HX0.out
  have lx := lt_of_blk' HX0.out
  have lsb := hM.lt
  have rga := hM.reg ha
  have ga : (a : Int) < 16 := by omega
  have ga2 : decide ((16 : Int) ≤ (a : Int)) = false := decide_eq_false (by omega)
  obtain ⟨va, hva⟩ : ∃ va, s.r.getD a 0 = va := ⟨_, rfl⟩
  rw [hva] at rga
  have HVA := Lib.hid (show reg s (a : Int) = va by rw [reg_nat]; exact hva)
  clear hx hM xf hva
  simp only at x0 x1 x2 x3 x4
  go_enter Tryd.func66, Tryd.ntmps66
  go_upto_region 1 with fail
  go_cut [4] from 5 to 19 (fun a4 wx => a4 = .bool (va == 0) ∧ Below w.heap.size w wx)
  case first =>
    refine wp_region_ext (by kernel_rfl) (by kernel_rfl) ?_
    repeat (go_big_quiet_step (fail))
    refine wpQuiet_nil ?_
    rintro _ ⟨y, rfl⟩
    go_wp2_with fail
    go_meet
    case rel => exact ⟨rfl, y.h⟩
  case rest =>
    obtain ⟨rfl, hbw⟩ := hcut
    obtain ⟨W1, hW1⟩ : ∃ W1 : World, W1 = wc := ⟨_, rfl⟩
    subst hW1
    have HX1 := Lib.hid ((hbw.block xb lx).trans HX0.out)
    have B1 := Lib.hid hbw
    obtain ⟨y0, y1, y2, y3, y4, y5, y6, y7, y8, y9, y10, yf⟩ := x_cells HX1.out
    have yf6 := yf 6
    have lx1 := lt_of_blk' HX1.out
    have w5 : IntKind.i64.wrap (s.pc + 1) = s.pc + 1 := IntWalk.i64_in _ (by omega)
    have w6 : IntKind.i64.wrap (s.pc + 1 + im) = s.pc + 1 + im := IntWalk.i64_in _ (by omega)
    obtain ⟨pc, hpce⟩ : ∃ pc, s.pc = pc := ⟨_, rfl⟩
    rw [hpce] at y5 y10 w5 w6
    have HPC := Lib.hid hpce
    have HTG := Lib.hid (show ∀ W : World, Calls Tryd.prog 26 #[.agg #[.int .u8 22, .int .i64 a, .int .i64 b, .int .i64 c, .int .i64 im], .int .i64 pc] W fun e w' => e = .returned (.tuple #[.int .i64 (pc + 1 + im), .bool true]) ∧ Below W.heap.size W w' from fun W => target_any ⟨22, a, b, c, im⟩ pc W w5 w6)
    have HTK := Lib.hid (show taken ⟨22, a, b, c, im⟩ s = (va == 0) by unfold taken; simp only; rw [HVA.out]; cases h : decide (va = 0) <;> simp_all)
    clear hbw x0 x1 x2 x3 x4 x5 x9 yf hpce rga
    simp only at y0 y1 y2 y3 y4
    cases hz : (va == 0)
    case false =>
      have HTK2 := Lib.hid (show taken ⟨22, a, b, c, im⟩ s = false by rw [HTK.out]; exact hz)
      go_upto_region 3 with fail
      obtain ⟨W2, hW2⟩ : ∃ W2, W1.setCell ⟨xb, 6, none⟩ (.bool false) = W2 := ⟨_, rfl⟩
      have f2 : Fr (· = xb) W1 W2 := hW2 ▸ (Fr.refl (· = xb) _).set _ (.inl rfl)
      have KX2 := Lib.hid (show W2.heap[xb]? = some (.cells (xCells ⟨22, a, b, c, im⟩ pc false (-1) 0 sb (pc + 1)) 119 (0, 0)) by rw [← hW2, heap_setCell_same W1 xb 6 _ _ _ HX1.out, HPC.out]; rfl)
      obtain ⟨z0, z1, z2, z3, z4, z5, z6, z7, z8, z9, z10, zf⟩ := x_cells KX2.out
      have zf10 := zf 10
      have lx2 := lt_of_blk' KX2.out
      have F2 := Lib.hid f2
      rw [hW2]
      simp only at z0 z1 z2 z3 z4
      clear hW2 f2 y0 y1 y2 y3 y4 y5 y6 y7 y8 y9 y10 yf6 zf
      go_wp2_with fail
      go_ret2
      refine ⟨rfl, ⟨false, ?_⟩, (Fr.of B1.out).trans F2.out⟩
      rw [HTK2.out, if_neg (by simp), HPC.out]
      exact KX2.out
    case true =>
      have HTK2 := Lib.hid (show taken ⟨22, a, b, c, im⟩ s = true by rw [HTK.out]; exact hz)
      go_upto_region 3 with fail
      obtain ⟨W2, hW2⟩ : ∃ W2, W1.setCell ⟨xb, 6, none⟩ (.bool true) = W2 := ⟨_, rfl⟩
      have f2 : Fr (· = xb) W1 W2 := hW2 ▸ (Fr.refl (· = xb) _).set _ (.inl rfl)
      have KX2 := Lib.hid (show W2.heap[xb]? = some (.cells (xCells ⟨22, a, b, c, im⟩ pc true (-1) 0 sb (pc + 1)) 119 (0, 0)) by rw [← hW2, heap_setCell_same W1 xb 6 _ _ _ HX1.out, HPC.out]; rfl)
      obtain ⟨z0, z1, z2, z3, z4, z5, z6, z7, z8, z9, z10, zf⟩ := x_cells KX2.out
      have zf10 := zf 10
      have lx2 := lt_of_blk' KX2.out
      have F2 := Lib.hid f2
      rw [hW2]
      simp only at z0 z1 z2 z3 z4
      clear hW2 f2 y0 y1 y2 y3 y4 y5 y6 y7 y8 y9 y10 yf6 zf
      have HTG2 := Lib.hid (show ∀ W : World, Below W2.heap.size W2 W → Calls Tryd.prog 26 #[.agg #[.int .u8 22, .int .i64 a, .int .i64 b, .int .i64 c, .int .i64 im], .int .i64 pc] W fun e w' => e = .returned (.tuple #[.int .i64 (pc + 1 + im), .bool true]) ∧ Below W2.heap.size W2 w' from fun W hW => (HTG.out W).mono fun e w' ⟨h1, h2⟩ => ⟨h1, hW.trans (h2.mono hW.size)⟩)
      go_upto_region 4 with fail
      go_cut [2] from 48 to 63 (fun a2 wx => a2 = .nilFunc ∧ wx.heap[xb]? = some (.cells (xCells ⟨22, a, b, c, im⟩ pc true (-1) 0 sb (pc + 1 + im)) 119 (0, 0)) ∧ Fr (· = xb) W2 wx)
      case first =>
        go_region_held3 (fun w' => (∀ o, o < 10 → w'.cell? ⟨xb, o, none⟩ = W2.cell? ⟨xb, o, none⟩) ∧ Fr (· = xb) W2 w') ((first | (with_reducible assumption) | exact keepsX (by first | assumption | exact Below.refl _ _ | exact Below.drew (Below.refl _ _)) lx2 | exact keepsX_set (keepsX (by assumption) lx2) _ | exact keepsX_set (by assumption) _)) (first | (go_at_call 26; go_loud (refine (HTG2.out _ (by first | assumption | exact Below.drew (Below.refl _ _))).mono ?_); go_loud (rintro e W3 ⟨rfl, hb3⟩); go_loud (have zf3 : W3.frozen? ⟨xb, 10, none⟩ = false := (hb3.frozen (p := ⟨xb, 10, none⟩) lx2).trans zf10); go_loud (have zc3 : W3.cell? ⟨xb, 10, none⟩ = some (.int .i64 (pc + 1)) := (hb3.cell (p := ⟨xb, 10, none⟩) lx2).trans z10); go_loud (have lx3 : xb < W3.heap.size := Nat.lt_of_lt_of_le lx2 hb3.size)))
        all_goals
          go_wp2_with fail
          go_meet
          case rel => exact ⟨rfl, by rw [heap_setCell_same W3 xb 10 _ _ _ ((hb3.block xb lx2).trans KX2.out)]; rfl, (Fr.of hb3).set _ (.inl rfl)⟩
      case rest =>
        obtain ⟨rfl, k3, f3⟩ := hcut
        go_wp2_with fail
        go_ret2
        refine ⟨rfl, ⟨true, ?_⟩, (Fr.of B1.out).trans (F2.out.trans f3)⟩
        rw [HTK2.out, if_pos rfl, HPC.out]
        exact k3

set_option maxRecDepth 20000 in
set_option maxHeartbeats 2000000 in
theorem br_23 (xb sb : Nat) (im b c : Int) (a : Nat) (ha : a < 16) (him : -131072 ≤ im ∧ im ≤ 131071) (s : St) (hpc : 0 ≤ s.pc ∧ s.pc ≤ 1000000) (w : World)
    (hx : w.heap[xb]? = some (.cells (xCells ⟨23, a, b, c, im⟩ s.pc false (-1) 0 sb (s.pc + 1)) 119 (0, 0))) (hM : Mach w sb s) :
    Calls Tryd.prog 66 #[.pointer (some ⟨xb, 0, none⟩)] w (BrPost xb sb ⟨23, a, b, c, im⟩ s w) := by
  have HX0 := Lib.hid hx
  have HM0 := Lib.hid hM
  obtain ⟨x0, x1, x2, x3, x4, x5, -, -, -, x9, -, xf⟩ := x_cells HX0.out
  have lx := lt_of_blk' HX0.out
  have lsb := hM.lt
  have rga := hM.reg ha
  have ga : (a : Int) < 16 := by omega
  have ga2 : decide ((16 : Int) ≤ (a : Int)) = false := decide_eq_false (by omega)
  obtain ⟨va, hva⟩ : ∃ va, s.r.getD a 0 = va := ⟨_, rfl⟩
  rw [hva] at rga
  have HVA := Lib.hid (show reg s (a : Int) = va by rw [reg_nat]; exact hva)
  clear hx hM xf hva
  simp only at x0 x1 x2 x3 x4
  go_enter Tryd.func66, Tryd.ntmps66
  go_upto_region 1 with fail
  go_cut [4] from 5 to 19 (fun a4 wx => a4 = .bool (va == 0) ∧ Below w.heap.size w wx)
  case first =>
    refine wp_region_ext (by kernel_rfl) (by kernel_rfl) ?_
    repeat (go_big_quiet_step (fail))
    refine wpQuiet_nil ?_
    rintro _ ⟨y, rfl⟩
    go_wp2_with fail
    go_meet
    case rel => exact ⟨rfl, y.h⟩
  case rest =>
    obtain ⟨rfl, hbw⟩ := hcut
    obtain ⟨W1, hW1⟩ : ∃ W1 : World, W1 = wc := ⟨_, rfl⟩
    subst hW1
    have HX1 := Lib.hid ((hbw.block xb lx).trans HX0.out)
    have B1 := Lib.hid hbw
    obtain ⟨y0, y1, y2, y3, y4, y5, y6, y7, y8, y9, y10, yf⟩ := x_cells HX1.out
    have yf6 := yf 6
    have lx1 := lt_of_blk' HX1.out
    have w5 : IntKind.i64.wrap (s.pc + 1) = s.pc + 1 := IntWalk.i64_in _ (by omega)
    have w6 : IntKind.i64.wrap (s.pc + 1 + im) = s.pc + 1 + im := IntWalk.i64_in _ (by omega)
    obtain ⟨pc, hpce⟩ : ∃ pc, s.pc = pc := ⟨_, rfl⟩
    rw [hpce] at y5 y10 w5 w6
    have HPC := Lib.hid hpce
    have HTG := Lib.hid (show ∀ W : World, Calls Tryd.prog 26 #[.agg #[.int .u8 23, .int .i64 a, .int .i64 b, .int .i64 c, .int .i64 im], .int .i64 pc] W fun e w' => e = .returned (.tuple #[.int .i64 (pc + 1 + im), .bool true]) ∧ Below W.heap.size W w' from fun W => target_any ⟨23, a, b, c, im⟩ pc W w5 w6)
    have HTK := Lib.hid (show taken ⟨23, a, b, c, im⟩ s = !(va == 0) by unfold taken; simp only; rw [HVA.out]; cases h : decide (va = 0) <;> simp_all)
    clear hbw x0 x1 x2 x3 x4 x5 x9 yf hpce rga
    simp only at y0 y1 y2 y3 y4
    cases hz : (va == 0)
    case false =>
      have HTK2 := Lib.hid (show taken ⟨23, a, b, c, im⟩ s = true by rw [HTK.out]; rw [hz]; rfl)
      go_upto_region 3 with fail
      obtain ⟨W2, hW2⟩ : ∃ W2, W1.setCell ⟨xb, 6, none⟩ (.bool true) = W2 := ⟨_, rfl⟩
      have f2 : Fr (· = xb) W1 W2 := hW2 ▸ (Fr.refl (· = xb) _).set _ (.inl rfl)
      have KX2 := Lib.hid (show W2.heap[xb]? = some (.cells (xCells ⟨23, a, b, c, im⟩ pc true (-1) 0 sb (pc + 1)) 119 (0, 0)) by rw [← hW2, heap_setCell_same W1 xb 6 _ _ _ HX1.out, HPC.out]; rfl)
      obtain ⟨z0, z1, z2, z3, z4, z5, z6, z7, z8, z9, z10, zf⟩ := x_cells KX2.out
      have zf10 := zf 10
      have lx2 := lt_of_blk' KX2.out
      have F2 := Lib.hid f2
      rw [hW2]
      simp only at z0 z1 z2 z3 z4
      clear hW2 f2 y0 y1 y2 y3 y4 y5 y6 y7 y8 y9 y10 yf6 zf
      have HTG2 := Lib.hid (show ∀ W : World, Below W2.heap.size W2 W → Calls Tryd.prog 26 #[.agg #[.int .u8 23, .int .i64 a, .int .i64 b, .int .i64 c, .int .i64 im], .int .i64 pc] W fun e w' => e = .returned (.tuple #[.int .i64 (pc + 1 + im), .bool true]) ∧ Below W2.heap.size W2 w' from fun W hW => (HTG.out W).mono fun e w' ⟨h1, h2⟩ => ⟨h1, hW.trans (h2.mono hW.size)⟩)
      go_upto_region 4 with fail
      go_cut [2] from 48 to 63 (fun a2 wx => a2 = .nilFunc ∧ wx.heap[xb]? = some (.cells (xCells ⟨23, a, b, c, im⟩ pc true (-1) 0 sb (pc + 1 + im)) 119 (0, 0)) ∧ Fr (· = xb) W2 wx)
      case first =>
        go_region_held3 (fun w' => (∀ o, o < 10 → w'.cell? ⟨xb, o, none⟩ = W2.cell? ⟨xb, o, none⟩) ∧ Fr (· = xb) W2 w') ((first | (with_reducible assumption) | exact keepsX (by first | assumption | exact Below.refl _ _ | exact Below.drew (Below.refl _ _)) lx2 | exact keepsX_set (keepsX (by assumption) lx2) _ | exact keepsX_set (by assumption) _)) (first | (go_at_call 26; go_loud (refine (HTG2.out _ (by first | assumption | exact Below.drew (Below.refl _ _))).mono ?_); go_loud (rintro e W3 ⟨rfl, hb3⟩); go_loud (have zf3 : W3.frozen? ⟨xb, 10, none⟩ = false := (hb3.frozen (p := ⟨xb, 10, none⟩) lx2).trans zf10); go_loud (have zc3 : W3.cell? ⟨xb, 10, none⟩ = some (.int .i64 (pc + 1)) := (hb3.cell (p := ⟨xb, 10, none⟩) lx2).trans z10); go_loud (have lx3 : xb < W3.heap.size := Nat.lt_of_lt_of_le lx2 hb3.size)))
        all_goals
          go_wp2_with fail
          go_meet
          case rel => exact ⟨rfl, by rw [heap_setCell_same W3 xb 10 _ _ _ ((hb3.block xb lx2).trans KX2.out)]; rfl, (Fr.of hb3).set _ (.inl rfl)⟩
      case rest =>
        obtain ⟨rfl, k3, f3⟩ := hcut
        go_wp2_with fail
        go_ret2
        refine ⟨rfl, ⟨true, ?_⟩, (Fr.of B1.out).trans (F2.out.trans f3)⟩
        rw [HTK2.out, if_pos rfl, HPC.out]
        exact k3
    case true =>
      have HTK2 := Lib.hid (show taken ⟨23, a, b, c, im⟩ s = false by rw [HTK.out]; rw [hz]; rfl)
      go_upto_region 3 with fail
      obtain ⟨W2, hW2⟩ : ∃ W2, W1.setCell ⟨xb, 6, none⟩ (.bool false) = W2 := ⟨_, rfl⟩
      have f2 : Fr (· = xb) W1 W2 := hW2 ▸ (Fr.refl (· = xb) _).set _ (.inl rfl)
      have KX2 := Lib.hid (show W2.heap[xb]? = some (.cells (xCells ⟨23, a, b, c, im⟩ pc false (-1) 0 sb (pc + 1)) 119 (0, 0)) by rw [← hW2, heap_setCell_same W1 xb 6 _ _ _ HX1.out, HPC.out]; rfl)
      obtain ⟨z0, z1, z2, z3, z4, z5, z6, z7, z8, z9, z10, zf⟩ := x_cells KX2.out
      have zf10 := zf 10
      have lx2 := lt_of_blk' KX2.out
      have F2 := Lib.hid f2
      rw [hW2]
      simp only at z0 z1 z2 z3 z4
      clear hW2 f2 y0 y1 y2 y3 y4 y5 y6 y7 y8 y9 y10 yf6 zf
      go_wp2_with fail
      go_ret2
      refine ⟨rfl, ⟨false, ?_⟩, (Fr.of B1.out).trans F2.out⟩
      rw [HTK2.out, if_neg (by simp), HPC.out]
      exact KX2.out

set_option maxRecDepth 20000 in
set_option maxHeartbeats 2000000 in
theorem br_24 (xb sb : Nat) (im b c : Int) (a : Nat) (ha : a < 16) (him : -131072 ≤ im ∧ im ≤ 131071) (s : St) (hpc : 0 ≤ s.pc ∧ s.pc ≤ 1000000) (w : World)
    (hx : w.heap[xb]? = some (.cells (xCells ⟨24, a, b, c, im⟩ s.pc false (-1) 0 sb (s.pc + 1)) 119 (0, 0))) (hM : Mach w sb s) :
    Calls Tryd.prog 66 #[.pointer (some ⟨xb, 0, none⟩)] w (BrPost xb sb ⟨24, a, b, c, im⟩ s w) := by
  have HX0 := Lib.hid hx
  have HM0 := Lib.hid hM
  obtain ⟨x0, x1, x2, x3, x4, x5, -, -, -, x9, -, xf⟩ := x_cells HX0.out
  have lx := lt_of_blk' HX0.out
  have lsb := hM.lt
  have rga := hM.reg ha
  have ga : (a : Int) < 16 := by omega
  have ga2 : decide ((16 : Int) ≤ (a : Int)) = false := decide_eq_false (by omega)
  obtain ⟨va, hva⟩ : ∃ va, s.r.getD a 0 = va := ⟨_, rfl⟩
  rw [hva] at rga
  have HVA := Lib.hid (show reg s (a : Int) = va by rw [reg_nat]; exact hva)
  clear hx hM xf hva
  simp only at x0 x1 x2 x3 x4
  go_enter Tryd.func66, Tryd.ntmps66
  go_upto_region 1 with fail
  go_cut [4] from 5 to 19 (fun a4 wx => a4 = .bool (va == 0) ∧ Below w.heap.size w wx)
  case first =>
    refine wp_region_ext (by kernel_rfl) (by kernel_rfl) ?_
    repeat (go_big_quiet_step (fail))
    refine wpQuiet_nil ?_
    rintro _ ⟨y, rfl⟩
    go_wp2_with fail
    go_meet
    case rel => exact ⟨rfl, y.h⟩
  case rest =>
    obtain ⟨rfl, hbw⟩ := hcut
    obtain ⟨W1, hW1⟩ : ∃ W1 : World, W1 = wc := ⟨_, rfl⟩
    subst hW1
    have HX1 := Lib.hid ((hbw.block xb lx).trans HX0.out)
    have B1 := Lib.hid hbw
    obtain ⟨y0, y1, y2, y3, y4, y5, y6, y7, y8, y9, y10, yf⟩ := x_cells HX1.out
    have yf6 := yf 6
    have lx1 := lt_of_blk' HX1.out
    have w5 : IntKind.i64.wrap (s.pc + 1) = s.pc + 1 := IntWalk.i64_in _ (by omega)
    have w6 : IntKind.i64.wrap (s.pc + 1 + im) = s.pc + 1 + im := IntWalk.i64_in _ (by omega)
    obtain ⟨pc, hpce⟩ : ∃ pc, s.pc = pc := ⟨_, rfl⟩
    rw [hpce] at y5 y10 w5 w6
    have HPC := Lib.hid hpce
    have HTG := Lib.hid (show ∀ W : World, Calls Tryd.prog 26 #[.agg #[.int .u8 24, .int .i64 a, .int .i64 b, .int .i64 c, .int .i64 im], .int .i64 pc] W fun e w' => e = .returned (.tuple #[.int .i64 (pc + 1 + im), .bool true]) ∧ Below W.heap.size W w' from fun W => target_any ⟨24, a, b, c, im⟩ pc W w5 w6)
    have HTK := Lib.hid (show taken ⟨24, a, b, c, im⟩ s = true by unfold taken; simp only; rw [HVA.out]; simp)
    clear hbw x0 x1 x2 x3 x4 x5 x9 yf hpce rga
    simp only at y0 y1 y2 y3 y4
    cases hz : (va == 0)
    case false =>
      have HTK2 := Lib.hid (show taken ⟨24, a, b, c, im⟩ s = true by rw [HTK.out])
      go_upto_region 3 with fail
      obtain ⟨W2, hW2⟩ : ∃ W2, W1.setCell ⟨xb, 6, none⟩ (.bool true) = W2 := ⟨_, rfl⟩
      have f2 : Fr (· = xb) W1 W2 := hW2 ▸ (Fr.refl (· = xb) _).set _ (.inl rfl)
      have KX2 := Lib.hid (show W2.heap[xb]? = some (.cells (xCells ⟨24, a, b, c, im⟩ pc true (-1) 0 sb (pc + 1)) 119 (0, 0)) by rw [← hW2, heap_setCell_same W1 xb 6 _ _ _ HX1.out, HPC.out]; rfl)
      obtain ⟨z0, z1, z2, z3, z4, z5, z6, z7, z8, z9, z10, zf⟩ := x_cells KX2.out
      have zf10 := zf 10
      have lx2 := lt_of_blk' KX2.out
      have F2 := Lib.hid f2
      rw [hW2]
      simp only at z0 z1 z2 z3 z4
      clear hW2 f2 y0 y1 y2 y3 y4 y5 y6 y7 y8 y9 y10 yf6 zf
      have HTG2 := Lib.hid (show ∀ W : World, Below W2.heap.size W2 W → Calls Tryd.prog 26 #[.agg #[.int .u8 24, .int .i64 a, .int .i64 b, .int .i64 c, .int .i64 im], .int .i64 pc] W fun e w' => e = .returned (.tuple #[.int .i64 (pc + 1 + im), .bool true]) ∧ Below W2.heap.size W2 w' from fun W hW => (HTG.out W).mono fun e w' ⟨h1, h2⟩ => ⟨h1, hW.trans (h2.mono hW.size)⟩)
      go_upto_region 4 with fail
      go_cut [2] from 48 to 63 (fun a2 wx => a2 = .nilFunc ∧ wx.heap[xb]? = some (.cells (xCells ⟨24, a, b, c, im⟩ pc true (-1) 0 sb (pc + 1 + im)) 119 (0, 0)) ∧ Fr (· = xb) W2 wx)
      case first =>
        go_region_held3 (fun w' => (∀ o, o < 10 → w'.cell? ⟨xb, o, none⟩ = W2.cell? ⟨xb, o, none⟩) ∧ Fr (· = xb) W2 w') ((first | (with_reducible assumption) | exact keepsX (by first | assumption | exact Below.refl _ _ | exact Below.drew (Below.refl _ _)) lx2 | exact keepsX_set (keepsX (by assumption) lx2) _ | exact keepsX_set (by assumption) _)) (first | (go_at_call 26; go_loud (refine (HTG2.out _ (by first | assumption | exact Below.drew (Below.refl _ _))).mono ?_); go_loud (rintro e W3 ⟨rfl, hb3⟩); go_loud (have zf3 : W3.frozen? ⟨xb, 10, none⟩ = false := (hb3.frozen (p := ⟨xb, 10, none⟩) lx2).trans zf10); go_loud (have zc3 : W3.cell? ⟨xb, 10, none⟩ = some (.int .i64 (pc + 1)) := (hb3.cell (p := ⟨xb, 10, none⟩) lx2).trans z10); go_loud (have lx3 : xb < W3.heap.size := Nat.lt_of_lt_of_le lx2 hb3.size)))
        all_goals
          go_wp2_with fail
          go_meet
          case rel => exact ⟨rfl, by rw [heap_setCell_same W3 xb 10 _ _ _ ((hb3.block xb lx2).trans KX2.out)]; rfl, (Fr.of hb3).set _ (.inl rfl)⟩
      case rest =>
        obtain ⟨rfl, k3, f3⟩ := hcut
        go_wp2_with fail
        go_ret2
        refine ⟨rfl, ⟨true, ?_⟩, (Fr.of B1.out).trans (F2.out.trans f3)⟩
        rw [HTK2.out, if_pos rfl, HPC.out]
        exact k3
    case true =>
      have HTK2 := Lib.hid (show taken ⟨24, a, b, c, im⟩ s = true by rw [HTK.out])
      go_upto_region 3 with fail
      obtain ⟨W2, hW2⟩ : ∃ W2, W1.setCell ⟨xb, 6, none⟩ (.bool true) = W2 := ⟨_, rfl⟩
      have f2 : Fr (· = xb) W1 W2 := hW2 ▸ (Fr.refl (· = xb) _).set _ (.inl rfl)
      have KX2 := Lib.hid (show W2.heap[xb]? = some (.cells (xCells ⟨24, a, b, c, im⟩ pc true (-1) 0 sb (pc + 1)) 119 (0, 0)) by rw [← hW2, heap_setCell_same W1 xb 6 _ _ _ HX1.out, HPC.out]; rfl)
      obtain ⟨z0, z1, z2, z3, z4, z5, z6, z7, z8, z9, z10, zf⟩ := x_cells KX2.out
      have zf10 := zf 10
      have lx2 := lt_of_blk' KX2.out
      have F2 := Lib.hid f2
      rw [hW2]
      simp only at z0 z1 z2 z3 z4
      clear hW2 f2 y0 y1 y2 y3 y4 y5 y6 y7 y8 y9 y10 yf6 zf
      have HTG2 := Lib.hid (show ∀ W : World, Below W2.heap.size W2 W → Calls Tryd.prog 26 #[.agg #[.int .u8 24, .int .i64 a, .int .i64 b, .int .i64 c, .int .i64 im], .int .i64 pc] W fun e w' => e = .returned (.tuple #[.int .i64 (pc + 1 + im), .bool true]) ∧ Below W2.heap.size W2 w' from fun W hW => (HTG.out W).mono fun e w' ⟨h1, h2⟩ => ⟨h1, hW.trans (h2.mono hW.size)⟩)
      go_upto_region 4 with fail
      go_cut [2] from 48 to 63 (fun a2 wx => a2 = .nilFunc ∧ wx.heap[xb]? = some (.cells (xCells ⟨24, a, b, c, im⟩ pc true (-1) 0 sb (pc + 1 + im)) 119 (0, 0)) ∧ Fr (· = xb) W2 wx)
      case first =>
        go_region_held3 (fun w' => (∀ o, o < 10 → w'.cell? ⟨xb, o, none⟩ = W2.cell? ⟨xb, o, none⟩) ∧ Fr (· = xb) W2 w') ((first | (with_reducible assumption) | exact keepsX (by first | assumption | exact Below.refl _ _ | exact Below.drew (Below.refl _ _)) lx2 | exact keepsX_set (keepsX (by assumption) lx2) _ | exact keepsX_set (by assumption) _)) (first | (go_at_call 26; go_loud (refine (HTG2.out _ (by first | assumption | exact Below.drew (Below.refl _ _))).mono ?_); go_loud (rintro e W3 ⟨rfl, hb3⟩); go_loud (have zf3 : W3.frozen? ⟨xb, 10, none⟩ = false := (hb3.frozen (p := ⟨xb, 10, none⟩) lx2).trans zf10); go_loud (have zc3 : W3.cell? ⟨xb, 10, none⟩ = some (.int .i64 (pc + 1)) := (hb3.cell (p := ⟨xb, 10, none⟩) lx2).trans z10); go_loud (have lx3 : xb < W3.heap.size := Nat.lt_of_lt_of_le lx2 hb3.size)))
        all_goals
          go_wp2_with fail
          go_meet
          case rel => exact ⟨rfl, by rw [heap_setCell_same W3 xb 10 _ _ _ ((hb3.block xb lx2).trans KX2.out)]; rfl, (Fr.of hb3).set _ (.inl rfl)⟩
      case rest =>
        obtain ⟨rfl, k3, f3⟩ := hcut
        go_wp2_with fail
        go_ret2
        refine ⟨rfl, ⟨true, ?_⟩, (Fr.of B1.out).trans (F2.out.trans f3)⟩
        rw [HTK2.out, if_pos rfl, HPC.out]
        exact k3

end Go.Proofs.YtfceodpdipniaaaDoor
