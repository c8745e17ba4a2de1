/-
  What is proved here: what access returns.
-/
import Derived.Test.YtfceodpdipniaaaDoorCoRel
import Derived.Deep.RegionWith
import Derived.Deep.RegionHeld3
import Derived.Deep.DeepCutAuto
namespace Go.Proofs.YtfceodpdipniaaaDoor
open Go.RowKit
set_option linter.unusedVariables false
set_option linter.unusedSimpArgs false

theorem ins_cells {w : World} {ib : Nat} {o a b c i : Int} (h : w.heap[ib]? = some (.cells #[.int .u8 o, .int .i64 a, .int .i64 b, .int .i64 c, .int .i64 i] 53 (0, 0))) :
    w.cell? ⟨ib, 0, none⟩ = some (.int .u8 o) ∧ w.cell? ⟨ib, 1, none⟩ = some (.int .i64 a) ∧ w.cell? ⟨ib, 2, none⟩ = some (.int .i64 b) ∧ w.cell? ⟨ib, 3, none⟩ = some (.int .i64 c) ∧ w.cell? ⟨ib, 4, none⟩ = some (.int .i64 i) ∧ ib < w.heap.size := by
  refine ⟨?_, ?_, ?_, ?_, ?_, lt_of_blk' h⟩ <;> simp [World.cell?, h]
theorem one_cell' {w : World} {b : Nat} {v : Value} {t : TypeId} (h : w.heap[b]? = some (.cells #[v] t (0, 0))) : w.cell? ⟨b, 0, none⟩ = some v ∧ b < w.heap.size := ⟨by simp [World.cell?, h], lt_of_blk' h⟩
/-- Two new blocks in a world that has drawn. -/
theorem two_blocks (W : World) (o1 o2 : Obj) : ((W.drew.alloc o1).alloc o2).heap[W.heap.size]? = some o1 ∧ ((W.drew.alloc o1).alloc o2).heap[W.heap.size + 1]? = some o2 ∧ Below W.heap.size W ((W.drew.alloc o1).alloc o2) := by
  refine ⟨?_, ?_, ((Below.drew (Below.refl _ _)).alloc (by simp) _).alloc (by simp) _⟩
  · rw [heap_alloc_old _ _ (by simp)]
    exact heap_alloc_new _ _
  · exact heap_alloc_at _ _ (by simp)

set_option maxRecDepth 20000 in
set_option maxHeartbeats 2000000 in
theorem acc_err (xb sb : Nat) (op im : Int) (a b c : Nat) (hb : b < 16) (him : -131072 ≤ im ∧ im ≤ 131071) (s : St) (mv : Value) (A : Option Addr) (n cap : Nat) (hmv : mv = .slice A n cap) (hn : n ≤ 1000000) (hbad : reg s (b : Int) + im < 0 ∨ (n : Int) ≤ reg s (b : Int) + im) (w : World)
    (hx : w.heap[xb]? = some (.cells (xCells ⟨op, a, b, c, im⟩ s.pc false (-1) 0 sb (s.pc + 1)) 119 (0, 0))) (hM : Mach w sb s) :
    Calls Tryd.prog 65 #[.pointer (some ⟨xb, 0, none⟩), mv] w fun e w' => e = .returned (.tuple #[.nilFunc, .int .i64 10]) ∧ Below w.heap.size w w' := by
  subst hmv
  obtain ⟨W0, hW0⟩ : ∃ W0, w.alloc (.cells #[.slice A n cap] 74) = W0 := ⟨_, rfl⟩
  have b0 : Below w.heap.size w W0 := hW0 ▸ (Below.refl _ _).alloc (Nat.le_refl _) _
  have k0 : W0.heap[w.heap.size]? = some (.cells #[.slice A n cap] 74 (0, 0)) := by rw [← hW0]; exact heap_alloc_new _ _
  have lx0 := lt_of_blk' hx
  have HX0 := Lib.hid ((b0.block xb lx0).trans hx)
  have HM0 := Lib.hid (hM.keep (b0.block sb hM.lt))
  obtain ⟨x0, x1, x2, x3, x4, x5, -, -, -, x9, -, xf⟩ := x_cells HX0.out
  obtain ⟨m0, mlt⟩ := one_cell' k0
  have lx := lt_of_blk' HX0.out
  have B0 := Lib.hid b0
  have K0 := Lib.hid k0
  have hs0 := b0.size
  have LX := Lib.hid lx0
  obtain ⟨mc, hmc⟩ : ∃ mc, w.heap.size = mc := ⟨_, rfl⟩
  have HMC := Lib.hid hmc
  clear hx hM xf b0 k0 lx0
  rw [hmc] at K0 m0 mlt
  simp only at x0 x1 x2 x3 x4
  go_enter Tryd.func65, Tryd.ntmps65
  go_upto_region 1 with fail
  clear hW0
  try rw [hmc]
  clear hmc
  go_cut [6, 7] from 9 to 17 (fun a6 a7 wx => ∃ ib cb, a6 = .pointer (some ⟨ib, 0, none⟩) ∧ a7 = .pointer (some ⟨cb, 0, none⟩) ∧ wx.heap[ib]? = some (.cells #[.int .u8 op, .int .i64 a, .int .i64 b, .int .i64 c, .int .i64 im] 53 (0, 0)) ∧ wx.heap[cb]? = some (.cells #[.pointer (some ⟨sb, 0, none⟩)] 85 (0, 0)) ∧ Below W0.heap.size W0 wx)
  case first =>
    go_region
    all_goals
      go_wp2_with fail
      go_meet
      case rel => first
        | exact ⟨_, _, rfl, rfl, (two_blocks W0 _ _).1, (two_blocks W0 _ _).2.1, (two_blocks W0 _ _).2.2⟩
        | exact ⟨_, _, rfl, rfl, (two_blocks W0 _ _).2.1, (two_blocks W0 _ _).1, (two_blocks W0 _ _).2.2⟩
  case rest =>
    obtain ⟨ib, cb, rfl, rfl, kib, kcb, hbw⟩ := hcut
    obtain ⟨W1, hW1⟩ : ∃ W1 : World, W1 = wc := ⟨_, rfl⟩
    subst hW1
    obtain ⟨i0, i1, i2, i3, i4, li⟩ := ins_cells kib
    obtain ⟨cb0, lcb⟩ := one_cell' kcb
    have HM1 := Lib.hid (HM0.out.keep (hbw.block sb HM0.out.lt))
    have B1 := Lib.hid (B0.out.trans (hbw.mono hs0))
    have HX1 := Lib.hid ((hbw.block xb lx).trans HX0.out)
    have K1 := Lib.hid ((hbw.block mc mlt).trans K0.out)
    have KIB := Lib.hid kib
    have KCB := Lib.hid kcb
    have lsb := HM1.out.lt
    have rgb := HM1.out.reg hb
    have gb : (b : Int) < 16 := by omega
    have gb2 : decide ((16 : Int) ≤ (b : Int)) = false := decide_eq_false (by omega)
    have wrb := HM1.out.reg_in b
    obtain ⟨vb, hvb⟩ : ∃ vb, s.r.getD b 0 = vb := ⟨_, rfl⟩
    rw [hvb] at rgb wrb
    have HVB := Lib.hid (show reg s (b : Int) = vb by rw [reg_nat]; exact hvb)
    unfold W32 at wrb
    have wad : IntKind.i64.wrap (vb + im) = vb + im := IntWalk.i64_in _ (by omega)
    have wvb : IntKind.i64.wrap vb = vb := IntWalk.i64_in _ (by omega)
    clear kib kcb hvb x0 x1 x2 x3 x4 x5 x9 m0 K0
    go_upto_region 2 with fail
    go_cut [8] from 18 to 28 (fun a8 wx => ∃ ab, a8 = .pointer (some ⟨ab, 0, none⟩) ∧ wx.heap[ab]? = some (.cells #[.int .i64 (vb + im)] 3 (0, 0)) ∧ Below W1.heap.size W1 wx ∧ W1.heap.size ≤ ab)
    case first =>
      go_region
      all_goals
        go_wp2_with fail
        go_meet
        case rel => exact ⟨_, rfl, by first | exact heap_alloc_new _ _ | (rw [World.drew]; exact heap_alloc_new _ _), (Below.drew (Below.refl _ _)).alloc (by simp) _, by simp⟩
    case rest =>
      obtain ⟨ab, rfl, kab, hbw2, hab⟩ := hcut
      obtain ⟨W2, hW2⟩ : ∃ W2 : World, W2 = wc := ⟨_, rfl⟩
      subst hW2
      have hs1 := B1.out.size
      have KIB2 := Lib.hid ((hbw2.block ib li).trans KIB.out)
      have KCB2 := Lib.hid ((hbw2.block cb lcb).trans KCB.out)
      have lmc : mc < W1.heap.size := lt_of_blk' K1.out
      have lx1 : xb < W1.heap.size := lt_of_blk' HX1.out
      have KM2 := Lib.hid ((hbw2.block mc lmc).trans K1.out)
      have HX2 := Lib.hid ((hbw2.block xb lx1).trans HX1.out)
      have HM2 := Lib.hid (HM1.out.keep (hbw2.block sb lsb))
      have B2 := Lib.hid (B1.out.trans (hbw2.mono hs1))
      have KAB := Lib.hid kab
      obtain ⟨c0, lab⟩ := one_cell' kab
      obtain ⟨m0, lmc2⟩ := one_cell' KM2.out
      obtain ⟨j0, j1, j2, j3, j4, lib2⟩ := ins_cells KIB2.out
      obtain ⟨x0, x1, x2, x3, x4, x5, x6, x7, x8, x9, x10, xf⟩ := x_cells HX2.out
      have xf7 := xf 7
      have lx2 := lt_of_blk' HX2.out
      have lxw := LX.out
      clear kab hbw2 i0 i1 i2 i3 i4 cb0 rgb xf hbw
      simp only at x0 x1 x2 x3 x4
      rw [HVB.out] at hbad
      by_cases h1 : vb + im < 0
      · have d := decide_eq_true h1
        clear hbad h1
        go_wp2_with fail
        go_ret2
        exact ⟨rfl, B2.out⟩
      · have d := decide_eq_false h1
        have d2 : decide ((n : Int) ≤ vb + im) = true := decide_eq_true (by omega)
        clear hbad h1
        go_wp2_with fail
        go_ret2
        exact ⟨rfl, B2.out⟩

set_option maxRecDepth 20000 in
set_option maxHeartbeats 2000000 in
theorem acc_ld18 (xb sb : Nat) (im : Int) (a b c : Nat) (hb : b < 16) (him : -131072 ≤ im ∧ im ≤ 131071) (s : St) (mv : Value) (A : Option Addr) (n cap : Nat) (hmv : mv = .slice A n cap) (hn : n ≤ 1000000) (ml : List Int) (h0 : 0 ≤ reg s (b : Int) + im) (h1 : reg s (b : Int) + im < (n : Int)) (w : World)
    (hx : w.heap[xb]? = some (.cells (xCells ⟨18, a, b, c, im⟩ s.pc false (-1) 0 sb (s.pc + 1)) 119 (0, 0))) (hM : Mach w sb s) (hr : w.ownsRow 0 21 1 mv n (i32s ml)) :
    Calls Tryd.prog 65 #[.pointer (some ⟨xb, 0, none⟩), mv] w fun e w' => (∃ c0 c1, e = .returned (.tuple #[.func (.func 71) #[] #[.pointer (some ⟨c0, 0, none⟩), .pointer (some ⟨c1, 0, none⟩)], .int .i64 0]) ∧ w'.cell? ⟨c0, 0, none⟩ = some (.pointer (some ⟨xb, 0, none⟩)) ∧ w'.cell? ⟨c1, 0, none⟩ = some (.int .i32 (ml.getD (reg s (b : Int) + im).toNat 0))) ∧ w'.heap[xb]? = some (.cells (xCells ⟨18, a, b, c, im⟩ s.pc false (reg s (b : Int) + im) 0 sb (s.pc + 1)) 119 (0, 0)) ∧ Fr (· = xb) w w' := by
  subst hmv
  have hx' := Lib.hid hx
  obtain ⟨W0, hW0⟩ : ∃ W0, w.alloc (.cells #[.slice A n cap] 74) = W0 := ⟨_, rfl⟩
  have b0 : Below w.heap.size w W0 := hW0 ▸ (Below.refl _ _).alloc (Nat.le_refl _) _
  have k0 : W0.heap[w.heap.size]? = some (.cells #[.slice A n cap] 74 (0, 0)) := by rw [← hW0]; exact heap_alloc_new _ _
  have lx0 := lt_of_blk' hx
  have HX0 := Lib.hid ((b0.block xb lx0).trans hx)
  have HM0 := Lib.hid (hM.keep (b0.block sb hM.lt))
  obtain ⟨x0, x1, x2, x3, x4, x5, -, -, -, x9, -, xf⟩ := x_cells HX0.out
  obtain ⟨m0, mlt⟩ := one_cell' k0
  have lx := lt_of_blk' HX0.out
  have B0 := Lib.hid b0
  have K0 := Lib.hid k0
  have hs0 := b0.size
  have LX := Lib.hid lx0
  obtain ⟨mc, hmc⟩ : ∃ mc, w.heap.size = mc := ⟨_, rfl⟩
  have HMC := Lib.hid hmc
  clear hx hM xf b0 k0 lx0
  rw [hmc] at K0 m0 mlt
  simp only at x0 x1 x2 x3 x4
  go_enter Tryd.func65, Tryd.ntmps65
  go_upto_region 1 with fail
  clear hW0
  try rw [hmc]
  clear hmc
  go_cut [6, 7] from 9 to 17 (fun a6 a7 wx => ∃ ib cb, a6 = .pointer (some ⟨ib, 0, none⟩) ∧ a7 = .pointer (some ⟨cb, 0, none⟩) ∧ wx.heap[ib]? = some (.cells #[.int .u8 18, .int .i64 a, .int .i64 b, .int .i64 c, .int .i64 im] 53 (0, 0)) ∧ wx.heap[cb]? = some (.cells #[.pointer (some ⟨sb, 0, none⟩)] 85 (0, 0)) ∧ Below W0.heap.size W0 wx)
  case first =>
    go_region
    all_goals
      go_wp2_with fail
      go_meet
      case rel => first
        | exact ⟨_, _, rfl, rfl, (two_blocks W0 _ _).1, (two_blocks W0 _ _).2.1, (two_blocks W0 _ _).2.2⟩
        | exact ⟨_, _, rfl, rfl, (two_blocks W0 _ _).2.1, (two_blocks W0 _ _).1, (two_blocks W0 _ _).2.2⟩
  case rest =>
    obtain ⟨ib, cb, rfl, rfl, kib, kcb, hbw⟩ := hcut
    obtain ⟨W1, hW1⟩ : ∃ W1 : World, W1 = wc := ⟨_, rfl⟩
    subst hW1
    obtain ⟨i0, i1, i2, i3, i4, li⟩ := ins_cells kib
    obtain ⟨cb0, lcb⟩ := one_cell' kcb
    have HM1 := Lib.hid (HM0.out.keep (hbw.block sb HM0.out.lt))
    have B1 := Lib.hid (B0.out.trans (hbw.mono hs0))
    have HX1 := Lib.hid ((hbw.block xb lx).trans HX0.out)
    have K1 := Lib.hid ((hbw.block mc mlt).trans K0.out)
    have KIB := Lib.hid kib
    have KCB := Lib.hid kcb
    have lsb := HM1.out.lt
    have rgb := HM1.out.reg hb
    have gb : (b : Int) < 16 := by omega
    have gb2 : decide ((16 : Int) ≤ (b : Int)) = false := decide_eq_false (by omega)
    have wrb := HM1.out.reg_in b
    obtain ⟨vb, hvb⟩ : ∃ vb, s.r.getD b 0 = vb := ⟨_, rfl⟩
    rw [hvb] at rgb wrb
    have HVB := Lib.hid (show reg s (b : Int) = vb by rw [reg_nat]; exact hvb)
    unfold W32 at wrb
    have wad : IntKind.i64.wrap (vb + im) = vb + im := IntWalk.i64_in _ (by omega)
    have wvb : IntKind.i64.wrap vb = vb := IntWalk.i64_in _ (by omega)
    clear kib kcb hvb x0 x1 x2 x3 x4 x5 x9 m0 K0
    go_upto_region 2 with fail
    go_cut [8] from 18 to 28 (fun a8 wx => ∃ ab, a8 = .pointer (some ⟨ab, 0, none⟩) ∧ wx.heap[ab]? = some (.cells #[.int .i64 (vb + im)] 3 (0, 0)) ∧ Below W1.heap.size W1 wx ∧ W1.heap.size ≤ ab)
    case first =>
      go_region
      all_goals
        go_wp2_with fail
        go_meet
        case rel => exact ⟨_, rfl, by first | exact heap_alloc_new _ _ | (rw [World.drew]; exact heap_alloc_new _ _), (Below.drew (Below.refl _ _)).alloc (by simp) _, by simp⟩
    case rest =>
      obtain ⟨ab, rfl, kab, hbw2, hab⟩ := hcut
      obtain ⟨W2, hW2⟩ : ∃ W2 : World, W2 = wc := ⟨_, rfl⟩
      subst hW2
      have hs1 := B1.out.size
      have KIB2 := Lib.hid ((hbw2.block ib li).trans KIB.out)
      have KCB2 := Lib.hid ((hbw2.block cb lcb).trans KCB.out)
      have lmc : mc < W1.heap.size := lt_of_blk' K1.out
      have lx1 : xb < W1.heap.size := lt_of_blk' HX1.out
      have KM2 := Lib.hid ((hbw2.block mc lmc).trans K1.out)
      have HX2 := Lib.hid ((hbw2.block xb lx1).trans HX1.out)
      have HM2 := Lib.hid (HM1.out.keep (hbw2.block sb lsb))
      have B2 := Lib.hid (B1.out.trans (hbw2.mono hs1))
      have KAB := Lib.hid kab
      obtain ⟨c0, lab⟩ := one_cell' kab
      obtain ⟨m0, lmc2⟩ := one_cell' KM2.out
      obtain ⟨j0, j1, j2, j3, j4, lib2⟩ := ins_cells KIB2.out
      obtain ⟨x0, x1, x2, x3, x4, x5, x6, x7, x8, x9, x10, xf⟩ := x_cells HX2.out
      have xf7 := xf 7
      have lx2 := lt_of_blk' HX2.out
      have lxw := LX.out
      clear kab hbw2 i0 i1 i2 i3 i4 cb0 rgb xf hbw
      simp only at x0 x1 x2 x3 x4
      obtain ⟨mb, hA⟩ : ∃ mb, A = some ⟨mb, 0, none⟩ := by
        rcases hr.2 with ⟨h, h'⟩ | ⟨g, cap', cur, h, _⟩
        · omega
        · cases h; exact ⟨g, rfl⟩
      subst hA
      rw [HVB.out] at h0 h1
      obtain ⟨ad, had⟩ : ∃ ad : Nat, vb + im = (ad : Int) := ⟨(vb + im).toNat, by omega⟩
      have hadn : ad < n := by omega
      rw [had] at c0 KAB
      have d1 : decide ((ad : Int) < 0) = false := by simp
      have d2 : decide ((n : Int) ≤ (ad : Int)) = false := by simp; omega
      have d3 : decide (n ≤ ad) = false := by simp; omega
      have HR2 := Lib.hid (ownsRow_below hr B2.out)
      have mad := row_at HR2.out ad hadn
      have lmb := (HR2.out.lt mb rfl).2
      have hadi : (ad : Int) < (n : Int) := by omega
      have HAD := Lib.hid had
      have HMX := Lib.hid (show mb ≠ xb from fun e => by have h1 := hr.2; rcases h1 with ⟨h, _⟩ | ⟨g, cap', cur, h, _, hk, _⟩; cases h; cases h; rw [e, hx'.out] at hk; simp at hk)
      clear h0 h1 hr had
      go_upto_region 6 with fail
      obtain ⟨W3, hW3⟩ : ∃ W3, W2.setCell ⟨xb, 7, none⟩ (.int .i64 (ad : Int)) = W3 := ⟨_, rfl⟩
      have f3 : Fr (· = xb) W2 W3 := hW3 ▸ (Fr.refl (· = xb) _).set _ (.inl rfl)
      have KX3 := Lib.hid (show W3.heap[xb]? = some (.cells (xCells ⟨18, a, b, c, im⟩ s.pc false (ad : Int) 0 sb (s.pc + 1)) 119 (0, 0)) by rw [← hW3, heap_setCell_same W2 xb 7 _ _ _ HX2.out]; rfl)
      have kib3 := (f3.block ib lib2 (fun e => by rw [e, HX2.out] at KIB2; have := KIB2.out; simp [xCells] at this)).trans KIB2.out
      obtain ⟨y0, -, -, -, -, lib3⟩ := ins_cells kib3
      have km3 := (f3.block mc lmc2 (fun e => by rw [e, HX2.out] at KM2; have := KM2.out; simp [xCells] at this)).trans KM2.out
      have ka3 := (f3.block ab lab (fun e => by rw [e, HX2.out] at KAB; have := KAB.out; simp [xCells] at this)).trans KAB.out
      obtain ⟨y1, lmc3⟩ := one_cell' km3
      obtain ⟨y2, lab3⟩ := one_cell' ka3
      have y3 : W3.cell? ⟨mb, ad, none⟩ = some (.int .i32 (ml.getD ad 0)) := (f3.cell ad lmb HMX.out).trans mad
      have hs3 := f3.size
      have lmb3 : mb < W3.heap.size := by omega
      have F3 := Lib.hid f3
      rw [hW3]
      clear hW3 f3 kib3 km3 ka3 c0 m0 j0 j1 j2 j3 j4 x0 x1 x2 x3 x4 x5 x6 x7 x8 x9 x10 xf7 mad
      go_wp2_with (go_at_call 64; refine (set_any xb _ _).mono ?_; rintro e W4 ⟨⟨c0, c1, rfl, k0, k1⟩, hb4⟩)
      go_ret2
      rw [HVB.out, HAD.out]
      refine ⟨⟨c0, c1, rfl, k0, by rw [k1]; simp⟩, (hb4.block xb (by omega)).trans KX3.out, ?_⟩
      exact (Fr.of B2.out).trans (F3.out.trans (Fr.of hb4))

set_option maxRecDepth 20000 in
set_option maxHeartbeats 2000000 in
theorem acc_ld20 (xb sb : Nat) (im : Int) (a b c : Nat) (hb : b < 16) (him : -131072 ≤ im ∧ im ≤ 131071) (s : St) (mv : Value) (A : Option Addr) (n cap : Nat) (hmv : mv = .slice A n cap) (hn : n ≤ 1000000) (ml : List Int) (h0 : 0 ≤ reg s (b : Int) + im) (h1 : reg s (b : Int) + im < (n : Int)) (w : World)
    (hx : w.heap[xb]? = some (.cells (xCells ⟨20, a, b, c, im⟩ s.pc false (-1) 0 sb (s.pc + 1)) 119 (0, 0))) (hM : Mach w sb s) (hr : w.ownsRow 0 21 1 mv n (i32s ml)) :
    Calls Tryd.prog 65 #[.pointer (some ⟨xb, 0, none⟩), mv] w fun e w' => (∃ c0 c1, e = .returned (.tuple #[.func (.func 71) #[] #[.pointer (some ⟨c0, 0, none⟩), .pointer (some ⟨c1, 0, none⟩)], .int .i64 0]) ∧ w'.cell? ⟨c0, 0, none⟩ = some (.pointer (some ⟨xb, 0, none⟩)) ∧ w'.cell? ⟨c1, 0, none⟩ = some (.int .i32 (ml.getD (reg s (b : Int) + im).toNat 0))) ∧ w'.heap[xb]? = some (.cells (xCells ⟨20, a, b, c, im⟩ s.pc false (reg s (b : Int) + im) 0 sb (s.pc + 1)) 119 (0, 0)) ∧ Fr (· = xb) w w' := by
  subst hmv
  have hx' := Lib.hid hx
  obtain ⟨W0, hW0⟩ : ∃ W0, w.alloc (.cells #[.slice A n cap] 74) = W0 := ⟨_, rfl⟩
  have b0 : Below w.heap.size w W0 := hW0 ▸ (Below.refl _ _).alloc (Nat.le_refl _) _
  have k0 : W0.heap[w.heap.size]? = some (.cells #[.slice A n cap] 74 (0, 0)) := by rw [← hW0]; exact heap_alloc_new _ _
  have lx0 := lt_of_blk' hx
  have HX0 := Lib.hid ((b0.block xb lx0).trans hx)
  have HM0 := Lib.hid (hM.keep (b0.block sb hM.lt))
  obtain ⟨x0, x1, x2, x3, x4, x5, -, -, -, x9, -, xf⟩ := x_cells HX0.out
  obtain ⟨m0, mlt⟩ := one_cell' k0
  have lx := lt_of_blk' HX0.out
  have B0 := Lib.hid b0
  have K0 := Lib.hid k0
  have hs0 := b0.size
  have LX := Lib.hid lx0
  obtain ⟨mc, hmc⟩ : ∃ mc, w.heap.size = mc := ⟨_, rfl⟩
  have HMC := Lib.hid hmc
  clear hx hM xf b0 k0 lx0
  rw [hmc] at K0 m0 mlt
  simp only at x0 x1 x2 x3 x4
  go_enter Tryd.func65, Tryd.ntmps65
  go_upto_region 1 with fail
  clear hW0
  try rw [hmc]
  clear hmc
  go_cut [6, 7] from 9 to 17 (fun a6 a7 wx => ∃ ib cb, a6 = .pointer (some ⟨ib, 0, none⟩) ∧ a7 = .pointer (some ⟨cb, 0, none⟩) ∧ wx.heap[ib]? = some (.cells #[.int .u8 20, .int .i64 a, .int .i64 b, .int .i64 c, .int .i64 im] 53 (0, 0)) ∧ wx.heap[cb]? = some (.cells #[.pointer (some ⟨sb, 0, none⟩)] 85 (0, 0)) ∧ Below W0.heap.size W0 wx)
  case first =>
    go_region
    all_goals
      go_wp2_with fail
      go_meet
      case rel => first
        | exact ⟨_, _, rfl, rfl, (two_blocks W0 _ _).1, (two_blocks W0 _ _).2.1, (two_blocks W0 _ _).2.2⟩
        | exact ⟨_, _, rfl, rfl, (two_blocks W0 _ _).2.1, (two_blocks W0 _ _).1, (two_blocks W0 _ _).2.2⟩
  case rest =>
    obtain ⟨ib, cb, rfl, rfl, kib, kcb, hbw⟩ := hcut
    obtain ⟨W1, hW1⟩ : ∃ W1 : World, W1 = wc := ⟨_, rfl⟩
    subst hW1
    obtain ⟨i0, i1, i2, i3, i4, li⟩ := ins_cells kib
    obtain ⟨cb0, lcb⟩ := one_cell' kcb
    have HM1 := Lib.hid (HM0.out.keep (hbw.block sb HM0.out.lt))
    have B1 := Lib.hid (B0.out.trans (hbw.mono hs0))
    have HX1 := Lib.hid ((hbw.block xb lx).trans HX0.out)
    have K1 := Lib.hid ((hbw.block mc mlt).trans K0.out)
    have KIB := Lib.hid kib
    have KCB := Lib.hid kcb
    have lsb := HM1.out.lt
    have rgb := HM1.out.reg hb
    have gb : (b : Int) < 16 := by omega
    have gb2 : decide ((16 : Int) ≤ (b : Int)) = false := decide_eq_false (by omega)
    have wrb := HM1.out.reg_in b
    obtain ⟨vb, hvb⟩ : ∃ vb, s.r.getD b 0 = vb := ⟨_, rfl⟩
    rw [hvb] at rgb wrb
    have HVB := Lib.hid (show reg s (b : Int) = vb by rw [reg_nat]; exact hvb)
    unfold W32 at wrb
    have wad : IntKind.i64.wrap (vb + im) = vb + im := IntWalk.i64_in _ (by omega)
    have wvb : IntKind.i64.wrap vb = vb := IntWalk.i64_in _ (by omega)
    clear kib kcb hvb x0 x1 x2 x3 x4 x5 x9 m0 K0
    go_upto_region 2 with fail
    go_cut [8] from 18 to 28 (fun a8 wx => ∃ ab, a8 = .pointer (some ⟨ab, 0, none⟩) ∧ wx.heap[ab]? = some (.cells #[.int .i64 (vb + im)] 3 (0, 0)) ∧ Below W1.heap.size W1 wx ∧ W1.heap.size ≤ ab)
    case first =>
      go_region
      all_goals
        go_wp2_with fail
        go_meet
        case rel => exact ⟨_, rfl, by first | exact heap_alloc_new _ _ | (rw [World.drew]; exact heap_alloc_new _ _), (Below.drew (Below.refl _ _)).alloc (by simp) _, by simp⟩
    case rest =>
      obtain ⟨ab, rfl, kab, hbw2, hab⟩ := hcut
      obtain ⟨W2, hW2⟩ : ∃ W2 : World, W2 = wc := ⟨_, rfl⟩
      subst hW2
      have hs1 := B1.out.size
      have KIB2 := Lib.hid ((hbw2.block ib li).trans KIB.out)
      have KCB2 := Lib.hid ((hbw2.block cb lcb).trans KCB.out)
      have lmc : mc < W1.heap.size := lt_of_blk' K1.out
      have lx1 : xb < W1.heap.size := lt_of_blk' HX1.out
      have KM2 := Lib.hid ((hbw2.block mc lmc).trans K1.out)
      have HX2 := Lib.hid ((hbw2.block xb lx1).trans HX1.out)
      have HM2 := Lib.hid (HM1.out.keep (hbw2.block sb lsb))
      have B2 := Lib.hid (B1.out.trans (hbw2.mono hs1))
      have KAB := Lib.hid kab
      obtain ⟨c0, lab⟩ := one_cell' kab
      obtain ⟨m0, lmc2⟩ := one_cell' KM2.out
      obtain ⟨j0, j1, j2, j3, j4, lib2⟩ := ins_cells KIB2.out
      obtain ⟨x0, x1, x2, x3, x4, x5, x6, x7, x8, x9, x10, xf⟩ := x_cells HX2.out
      have xf7 := xf 7
      have lx2 := lt_of_blk' HX2.out
      have lxw := LX.out
      clear kab hbw2 i0 i1 i2 i3 i4 cb0 rgb xf hbw
      simp only at x0 x1 x2 x3 x4
      obtain ⟨mb, hA⟩ : ∃ mb, A = some ⟨mb, 0, none⟩ := by
        rcases hr.2 with ⟨h, h'⟩ | ⟨g, cap', cur, h, _⟩
        · omega
        · cases h; exact ⟨g, rfl⟩
      subst hA
      rw [HVB.out] at h0 h1
      obtain ⟨ad, had⟩ : ∃ ad : Nat, vb + im = (ad : Int) := ⟨(vb + im).toNat, by omega⟩
      have hadn : ad < n := by omega
      rw [had] at c0 KAB
      have d1 : decide ((ad : Int) < 0) = false := by simp
      have d2 : decide ((n : Int) ≤ (ad : Int)) = false := by simp; omega
      have d3 : decide (n ≤ ad) = false := by simp; omega
      have HR2 := Lib.hid (ownsRow_below hr B2.out)
      have mad := row_at HR2.out ad hadn
      have lmb := (HR2.out.lt mb rfl).2
      have hadi : (ad : Int) < (n : Int) := by omega
      have HAD := Lib.hid had
      have HMX := Lib.hid (show mb ≠ xb from fun e => by have h1 := hr.2; rcases h1 with ⟨h, _⟩ | ⟨g, cap', cur, h, _, hk, _⟩; cases h; cases h; rw [e, hx'.out] at hk; simp at hk)
      clear h0 h1 hr had
      go_upto_region 6 with fail
      obtain ⟨W3, hW3⟩ : ∃ W3, W2.setCell ⟨xb, 7, none⟩ (.int .i64 (ad : Int)) = W3 := ⟨_, rfl⟩
      have f3 : Fr (· = xb) W2 W3 := hW3 ▸ (Fr.refl (· = xb) _).set _ (.inl rfl)
      have KX3 := Lib.hid (show W3.heap[xb]? = some (.cells (xCells ⟨20, a, b, c, im⟩ s.pc false (ad : Int) 0 sb (s.pc + 1)) 119 (0, 0)) by rw [← hW3, heap_setCell_same W2 xb 7 _ _ _ HX2.out]; rfl)
      have kib3 := (f3.block ib lib2 (fun e => by rw [e, HX2.out] at KIB2; have := KIB2.out; simp [xCells] at this)).trans KIB2.out
      obtain ⟨y0, -, -, -, -, lib3⟩ := ins_cells kib3
      have km3 := (f3.block mc lmc2 (fun e => by rw [e, HX2.out] at KM2; have := KM2.out; simp [xCells] at this)).trans KM2.out
      have ka3 := (f3.block ab lab (fun e => by rw [e, HX2.out] at KAB; have := KAB.out; simp [xCells] at this)).trans KAB.out
      obtain ⟨y1, lmc3⟩ := one_cell' km3
      obtain ⟨y2, lab3⟩ := one_cell' ka3
      have y3 : W3.cell? ⟨mb, ad, none⟩ = some (.int .i32 (ml.getD ad 0)) := (f3.cell ad lmb HMX.out).trans mad
      have hs3 := f3.size
      have lmb3 : mb < W3.heap.size := by omega
      have F3 := Lib.hid f3
      rw [hW3]
      clear hW3 f3 kib3 km3 ka3 c0 m0 j0 j1 j2 j3 j4 x0 x1 x2 x3 x4 x5 x6 x7 x8 x9 x10 xf7 mad
      go_wp2_with (go_at_call 64; refine (set_any xb _ _).mono ?_; rintro e W4 ⟨⟨c0, c1, rfl, k0, k1⟩, hb4⟩)
      go_ret2
      rw [HVB.out, HAD.out]
      refine ⟨⟨c0, c1, rfl, k0, by rw [k1]; simp⟩, (hb4.block xb (by omega)).trans KX3.out, ?_⟩
      exact (Fr.of B2.out).trans (F3.out.trans (Fr.of hb4))

set_option maxRecDepth 20000 in
set_option maxHeartbeats 2000000 in
theorem acc_st19 (xb sb : Nat) (im : Int) (a b c : Nat) (hb : b < 16) (him : -131072 ≤ im ∧ im ≤ 131071) (s : St) (mv : Value) (A : Option Addr) (n cap : Nat) (hmv : mv = .slice A n cap) (hn : n ≤ 1000000) (ml : List Int) (h0 : 0 ≤ reg s (b : Int) + im) (h1 : reg s (b : Int) + im < (n : Int)) (w : World)
    (hx : w.heap[xb]? = some (.cells (xCells ⟨19, a, b, c, im⟩ s.pc false (-1) 0 sb (s.pc + 1)) 119 (0, 0))) (hM : Mach w sb s) (hr : w.ownsRow 0 21 1 mv n (i32s ml)) :
    Calls Tryd.prog 65 #[.pointer (some ⟨xb, 0, none⟩), mv] w fun e w' => (∃ c0 ib mc ac ad mb, e = .returned (.tuple #[.func (.func 72) #[] #[.pointer (some ⟨c0, 0, none⟩), .pointer (some ⟨ib, 0, none⟩), .pointer (some ⟨mc, 0, none⟩), .pointer (some ⟨ac, 0, none⟩)], .int .i64 0]) ∧ mv = .slice (some ⟨mb, 0, none⟩) n cap ∧ ad < n ∧ (ad : Int) = reg s (b : Int) + im ∧ w'.cell? ⟨c0, 0, none⟩ = some (.pointer (some ⟨sb, 0, none⟩)) ∧ w'.cell? ⟨ib, 1, none⟩ = some (.int .i64 (a : Int)) ∧ w'.cell? ⟨mc, 0, none⟩ = some mv ∧ w'.cell? ⟨ac, 0, none⟩ = some (.int .i64 (ad : Int))) ∧ w'.heap[xb]? = some (.cells (xCells ⟨19, a, b, c, im⟩ s.pc false (reg s (b : Int) + im) 0 sb (s.pc + 1)) 119 (0, 0)) ∧ Fr (· = xb) w w' := by
  subst hmv
  have hx' := Lib.hid hx
  obtain ⟨W0, hW0⟩ : ∃ W0, w.alloc (.cells #[.slice A n cap] 74) = W0 := ⟨_, rfl⟩
  have b0 : Below w.heap.size w W0 := hW0 ▸ (Below.refl _ _).alloc (Nat.le_refl _) _
  have k0 : W0.heap[w.heap.size]? = some (.cells #[.slice A n cap] 74 (0, 0)) := by rw [← hW0]; exact heap_alloc_new _ _
  have lx0 := lt_of_blk' hx
  have HX0 := Lib.hid ((b0.block xb lx0).trans hx)
  have HM0 := Lib.hid (hM.keep (b0.block sb hM.lt))
  obtain ⟨x0, x1, x2, x3, x4, x5, -, -, -, x9, -, xf⟩ := x_cells HX0.out
  obtain ⟨m0, mlt⟩ := one_cell' k0
  have lx := lt_of_blk' HX0.out
  have B0 := Lib.hid b0
  have K0 := Lib.hid k0
  have hs0 := b0.size
  have LX := Lib.hid lx0
  obtain ⟨mc, hmc⟩ : ∃ mc, w.heap.size = mc := ⟨_, rfl⟩
  have HMC := Lib.hid hmc
  clear hx hM xf b0 k0 lx0
  rw [hmc] at K0 m0 mlt
  simp only at x0 x1 x2 x3 x4
  go_enter Tryd.func65, Tryd.ntmps65
  go_upto_region 1 with fail
  clear hW0
  try rw [hmc]
  clear hmc
  go_cut [6, 7] from 9 to 17 (fun a6 a7 wx => ∃ ib cb, a6 = .pointer (some ⟨ib, 0, none⟩) ∧ a7 = .pointer (some ⟨cb, 0, none⟩) ∧ wx.heap[ib]? = some (.cells #[.int .u8 19, .int .i64 a, .int .i64 b, .int .i64 c, .int .i64 im] 53 (0, 0)) ∧ wx.heap[cb]? = some (.cells #[.pointer (some ⟨sb, 0, none⟩)] 85 (0, 0)) ∧ Below W0.heap.size W0 wx)
  case first =>
    go_region
    all_goals
      go_wp2_with fail
      go_meet
      case rel => first
        | exact ⟨_, _, rfl, rfl, (two_blocks W0 _ _).1, (two_blocks W0 _ _).2.1, (two_blocks W0 _ _).2.2⟩
        | exact ⟨_, _, rfl, rfl, (two_blocks W0 _ _).2.1, (two_blocks W0 _ _).1, (two_blocks W0 _ _).2.2⟩
  case rest =>
    obtain ⟨ib, cb, rfl, rfl, kib, kcb, hbw⟩ := hcut
    obtain ⟨W1, hW1⟩ : ∃ W1 : World, W1 = wc := ⟨_, rfl⟩
    subst hW1
    obtain ⟨i0, i1, i2, i3, i4, li⟩ := ins_cells kib
    obtain ⟨cb0, lcb⟩ := one_cell' kcb
    have HM1 := Lib.hid (HM0.out.keep (hbw.block sb HM0.out.lt))
    have B1 := Lib.hid (B0.out.trans (hbw.mono hs0))
    have HX1 := Lib.hid ((hbw.block xb lx).trans HX0.out)
    have K1 := Lib.hid ((hbw.block mc mlt).trans K0.out)
    have KIB := Lib.hid kib
    have KCB := Lib.hid kcb
    have lsb := HM1.out.lt
    have rgb := HM1.out.reg hb
    have gb : (b : Int) < 16 := by omega
    have gb2 : decide ((16 : Int) ≤ (b : Int)) = false := decide_eq_false (by omega)
    have wrb := HM1.out.reg_in b
    obtain ⟨vb, hvb⟩ : ∃ vb, s.r.getD b 0 = vb := ⟨_, rfl⟩
    rw [hvb] at rgb wrb
    have HVB := Lib.hid (show reg s (b : Int) = vb by rw [reg_nat]; exact hvb)
    unfold W32 at wrb
    have wad : IntKind.i64.wrap (vb + im) = vb + im := IntWalk.i64_in _ (by omega)
    have wvb : IntKind.i64.wrap vb = vb := IntWalk.i64_in _ (by omega)
    clear kib kcb hvb x0 x1 x2 x3 x4 x5 x9 m0 K0
    go_upto_region 2 with fail
    go_cut [8] from 18 to 28 (fun a8 wx => ∃ ab, a8 = .pointer (some ⟨ab, 0, none⟩) ∧ wx.heap[ab]? = some (.cells #[.int .i64 (vb + im)] 3 (0, 0)) ∧ Below W1.heap.size W1 wx ∧ W1.heap.size ≤ ab)
    case first =>
      go_region
      all_goals
        go_wp2_with fail
        go_meet
        case rel => exact ⟨_, rfl, by first | exact heap_alloc_new _ _ | (rw [World.drew]; exact heap_alloc_new _ _), (Below.drew (Below.refl _ _)).alloc (by simp) _, by simp⟩
    case rest =>
      obtain ⟨ab, rfl, kab, hbw2, hab⟩ := hcut
      obtain ⟨W2, hW2⟩ : ∃ W2 : World, W2 = wc := ⟨_, rfl⟩
      subst hW2
      have hs1 := B1.out.size
      have KIB2 := Lib.hid ((hbw2.block ib li).trans KIB.out)
      have KCB2 := Lib.hid ((hbw2.block cb lcb).trans KCB.out)
      have lmc : mc < W1.heap.size := lt_of_blk' K1.out
      have lx1 : xb < W1.heap.size := lt_of_blk' HX1.out
      have KM2 := Lib.hid ((hbw2.block mc lmc).trans K1.out)
      have HX2 := Lib.hid ((hbw2.block xb lx1).trans HX1.out)
      have HM2 := Lib.hid (HM1.out.keep (hbw2.block sb lsb))
      have B2 := Lib.hid (B1.out.trans (hbw2.mono hs1))
      have KAB := Lib.hid kab
      obtain ⟨c0, lab⟩ := one_cell' kab
      obtain ⟨m0, lmc2⟩ := one_cell' KM2.out
      obtain ⟨j0, j1, j2, j3, j4, lib2⟩ := ins_cells KIB2.out
      obtain ⟨x0, x1, x2, x3, x4, x5, x6, x7, x8, x9, x10, xf⟩ := x_cells HX2.out
      have xf7 := xf 7
      have lx2 := lt_of_blk' HX2.out
      have lxw := LX.out
      clear kab hbw2 i0 i1 i2 i3 i4 cb0 rgb xf hbw
      simp only at x0 x1 x2 x3 x4
      obtain ⟨mb, hA⟩ : ∃ mb, A = some ⟨mb, 0, none⟩ := by
        rcases hr.2 with ⟨h, h'⟩ | ⟨g, cap', cur, h, _⟩
        · omega
        · cases h; exact ⟨g, rfl⟩
      subst hA
      rw [HVB.out] at h0 h1
      obtain ⟨ad, had⟩ : ∃ ad : Nat, vb + im = (ad : Int) := ⟨(vb + im).toNat, by omega⟩
      have hadn : ad < n := by omega
      rw [had] at c0 KAB
      have d1 : decide ((ad : Int) < 0) = false := by simp
      have d2 : decide ((n : Int) ≤ (ad : Int)) = false := by simp; omega
      have d3 : decide (n ≤ ad) = false := by simp; omega
      have HR2 := Lib.hid (ownsRow_below hr B2.out)
      have mad := row_at HR2.out ad hadn
      have lmb := (HR2.out.lt mb rfl).2
      have hadi : (ad : Int) < (n : Int) := by omega
      have HAD := Lib.hid had
      have HMX := Lib.hid (show mb ≠ xb from fun e => by have h1 := hr.2; rcases h1 with ⟨h, _⟩ | ⟨g, cap', cur, h, _, hk, _⟩; cases h; cases h; rw [e, hx'.out] at hk; simp at hk)
      clear h0 h1 hr had
      go_upto_region 6 with fail
      obtain ⟨W3, hW3⟩ : ∃ W3, W2.setCell ⟨xb, 7, none⟩ (.int .i64 (ad : Int)) = W3 := ⟨_, rfl⟩
      have f3 : Fr (· = xb) W2 W3 := hW3 ▸ (Fr.refl (· = xb) _).set _ (.inl rfl)
      have KX3 := Lib.hid (show W3.heap[xb]? = some (.cells (xCells ⟨19, a, b, c, im⟩ s.pc false (ad : Int) 0 sb (s.pc + 1)) 119 (0, 0)) by rw [← hW3, heap_setCell_same W2 xb 7 _ _ _ HX2.out]; rfl)
      have kib3 := (f3.block ib lib2 (fun e => by rw [e, HX2.out] at KIB2; have := KIB2.out; simp [xCells] at this)).trans KIB2.out
      obtain ⟨y0, Y1, -, -, -, lib3⟩ := ins_cells kib3
      have km3 := (f3.block mc lmc2 (fun e => by rw [e, HX2.out] at KM2; have := KM2.out; simp [xCells] at this)).trans KM2.out
      have ka3 := (f3.block ab lab (fun e => by rw [e, HX2.out] at KAB; have := KAB.out; simp [xCells] at this)).trans KAB.out
      have kc3 := (f3.block cb (lt_of_blk' KCB2.out) (fun e => by rw [e, HX2.out] at KCB2; have := KCB2.out; simp [xCells] at this)).trans KCB2.out
      have HC3 := Lib.hid (And.intro (one_cell' kc3).1 (And.intro Y1 (And.intro (one_cell' km3).1 (one_cell' ka3).1)))
      have F3 := Lib.hid f3
      rw [hW3]
      clear hW3 f3 kib3 km3 ka3 kc3 Y1 c0 m0 j0 j1 j2 j3 j4 x0 x1 x2 x3 x4 x5 x6 x7 x8 x9 x10 xf7 mad
      go_wp2_with fail
      go_ret2
      rw [HVB.out, HAD.out]
      exact ⟨⟨cb, ib, mc, ab, ad, mb, rfl, rfl, hadn, rfl, HC3.out.1, HC3.out.2.1, HC3.out.2.2.1, HC3.out.2.2.2⟩, KX3.out, (Fr.of B2.out).trans F3.out⟩

set_option maxRecDepth 20000 in
set_option maxHeartbeats 2000000 in
theorem acc_st21 (xb sb : Nat) (im : Int) (a b c : Nat) (hb : b < 16) (him : -131072 ≤ im ∧ im ≤ 131071) (s : St) (mv : Value) (A : Option Addr) (n cap : Nat) (hmv : mv = .slice A n cap) (hn : n ≤ 1000000) (ml : List Int) (h0 : 0 ≤ reg s (b : Int) + im) (h1 : reg s (b : Int) + im < (n : Int)) (w : World)
    (hx : w.heap[xb]? = some (.cells (xCells ⟨21, a, b, c, im⟩ s.pc false (-1) 0 sb (s.pc + 1)) 119 (0, 0))) (hM : Mach w sb s) (hr : w.ownsRow 0 21 1 mv n (i32s ml)) :
    Calls Tryd.prog 65 #[.pointer (some ⟨xb, 0, none⟩), mv] w fun e w' => (∃ c0 ib mc ac ad mb, e = .returned (.tuple #[.func (.func 72) #[] #[.pointer (some ⟨c0, 0, none⟩), .pointer (some ⟨ib, 0, none⟩), .pointer (some ⟨mc, 0, none⟩), .pointer (some ⟨ac, 0, none⟩)], .int .i64 0]) ∧ mv = .slice (some ⟨mb, 0, none⟩) n cap ∧ ad < n ∧ (ad : Int) = reg s (b : Int) + im ∧ w'.cell? ⟨c0, 0, none⟩ = some (.pointer (some ⟨sb, 0, none⟩)) ∧ w'.cell? ⟨ib, 1, none⟩ = some (.int .i64 (a : Int)) ∧ w'.cell? ⟨mc, 0, none⟩ = some mv ∧ w'.cell? ⟨ac, 0, none⟩ = some (.int .i64 (ad : Int))) ∧ w'.heap[xb]? = some (.cells (xCells ⟨21, a, b, c, im⟩ s.pc false (reg s (b : Int) + im) 0 sb (s.pc + 1)) 119 (0, 0)) ∧ Fr (· = xb) w w' := by
  subst hmv
  have hx' := Lib.hid hx
  obtain ⟨W0, hW0⟩ : ∃ W0, w.alloc (.cells #[.slice A n cap] 74) = W0 := ⟨_, rfl⟩
  have b0 : Below w.heap.size w W0 := hW0 ▸ (Below.refl _ _).alloc (Nat.le_refl _) _
  have k0 : W0.heap[w.heap.size]? = some (.cells #[.slice A n cap] 74 (0, 0)) := by rw [← hW0]; exact heap_alloc_new _ _
  have lx0 := lt_of_blk' hx
  have HX0 := Lib.hid ((b0.block xb lx0).trans hx)
  have HM0 := Lib.hid (hM.keep (b0.block sb hM.lt))
  obtain ⟨x0, x1, x2, x3, x4, x5, -, -, -, x9, -, xf⟩ := x_cells HX0.out
  obtain ⟨m0, mlt⟩ := one_cell' k0
  have lx := lt_of_blk' HX0.out
  have B0 := Lib.hid b0
  have K0 := Lib.hid k0
  have hs0 := b0.size
  have LX := Lib.hid lx0
  obtain ⟨mc, hmc⟩ : ∃ mc, w.heap.size = mc := ⟨_, rfl⟩
  have HMC := Lib.hid hmc
  clear hx hM xf b0 k0 lx0
  rw [hmc] at K0 m0 mlt
  simp only at x0 x1 x2 x3 x4
  go_enter Tryd.func65, Tryd.ntmps65
  go_upto_region 1 with fail
  clear hW0
  try rw [hmc]
  clear hmc
  go_cut [6, 7] from 9 to 17 (fun a6 a7 wx => ∃ ib cb, a6 = .pointer (some ⟨ib, 0, none⟩) ∧ a7 = .pointer (some ⟨cb, 0, none⟩) ∧ wx.heap[ib]? = some (.cells #[.int .u8 21, .int .i64 a, .int .i64 b, .int .i64 c, .int .i64 im] 53 (0, 0)) ∧ wx.heap[cb]? = some (.cells #[.pointer (some ⟨sb, 0, none⟩)] 85 (0, 0)) ∧ Below W0.heap.size W0 wx)
  case first =>
    go_region
    all_goals
      go_wp2_with fail
      go_meet
      case rel => first
        | exact ⟨_, _, rfl, rfl, (two_blocks W0 _ _).1, (two_blocks W0 _ _).2.1, (two_blocks W0 _ _).2.2⟩
        | exact ⟨_, _, rfl, rfl, (two_blocks W0 _ _).2.1, (two_blocks W0 _ _).1, (two_blocks W0 _ _).2.2⟩
  case rest =>
    obtain ⟨ib, cb, rfl, rfl, kib, kcb, hbw⟩ := hcut
    obtain ⟨W1, hW1⟩ : ∃ W1 : World, W1 = wc := ⟨_, rfl⟩
    subst hW1
    obtain ⟨i0, i1, i2, i3, i4, li⟩ := ins_cells kib
    obtain ⟨cb0, lcb⟩ := one_cell' kcb
    have HM1 := Lib.hid (HM0.out.keep (hbw.block sb HM0.out.lt))
    have B1 := Lib.hid (B0.out.trans (hbw.mono hs0))
    have HX1 := Lib.hid ((hbw.block xb lx).trans HX0.out)
    have K1 := Lib.hid ((hbw.block mc mlt).trans K0.out)
    have KIB := Lib.hid kib
    have KCB := Lib.hid kcb
    have lsb := HM1.out.lt
    have rgb := HM1.out.reg hb
    have gb : (b : Int) < 16 := by omega
    have gb2 : decide ((16 : Int) ≤ (b : Int)) = false := decide_eq_false (by omega)
    have wrb := HM1.out.reg_in b
    obtain ⟨vb, hvb⟩ : ∃ vb, s.r.getD b 0 = vb := ⟨_, rfl⟩
    rw [hvb] at rgb wrb
    have HVB := Lib.hid (show reg s (b : Int) = vb by rw [reg_nat]; exact hvb)
    unfold W32 at wrb
    have wad : IntKind.i64.wrap (vb + im) = vb + im := IntWalk.i64_in _ (by omega)
    have wvb : IntKind.i64.wrap vb = vb := IntWalk.i64_in _ (by omega)
    clear kib kcb hvb x0 x1 x2 x3 x4 x5 x9 m0 K0
    go_upto_region 2 with fail
    go_cut [8] from 18 to 28 (fun a8 wx => ∃ ab, a8 = .pointer (some ⟨ab, 0, none⟩) ∧ wx.heap[ab]? = some (.cells #[.int .i64 (vb + im)] 3 (0, 0)) ∧ Below W1.heap.size W1 wx ∧ W1.heap.size ≤ ab)
    case first =>
      go_region
      all_goals
        go_wp2_with fail
        go_meet
        case rel => exact ⟨_, rfl, by first | exact heap_alloc_new _ _ | (rw [World.drew]; exact heap_alloc_new _ _), (Below.drew (Below.refl _ _)).alloc (by simp) _, by simp⟩
    case rest =>
      obtain ⟨ab, rfl, kab, hbw2, hab⟩ := hcut
      obtain ⟨W2, hW2⟩ : ∃ W2 : World, W2 = wc := ⟨_, rfl⟩
      subst hW2
      have hs1 := B1.out.size
      have KIB2 := Lib.hid ((hbw2.block ib li).trans KIB.out)
      have KCB2 := Lib.hid ((hbw2.block cb lcb).trans KCB.out)
      have lmc : mc < W1.heap.size := lt_of_blk' K1.out
      have lx1 : xb < W1.heap.size := lt_of_blk' HX1.out
      have KM2 := Lib.hid ((hbw2.block mc lmc).trans K1.out)
      have HX2 := Lib.hid ((hbw2.block xb lx1).trans HX1.out)
      have HM2 := Lib.hid (HM1.out.keep (hbw2.block sb lsb))
      have B2 := Lib.hid (B1.out.trans (hbw2.mono hs1))
      have KAB := Lib.hid kab
      obtain ⟨c0, lab⟩ := one_cell' kab
      obtain ⟨m0, lmc2⟩ := one_cell' KM2.out
      obtain ⟨j0, j1, j2, j3, j4, lib2⟩ := ins_cells KIB2.out
      obtain ⟨x0, x1, x2, x3, x4, x5, x6, x7, x8, x9, x10, xf⟩ := x_cells HX2.out
      have xf7 := xf 7
      have lx2 := lt_of_blk' HX2.out
      have lxw := LX.out
      clear kab hbw2 i0 i1 i2 i3 i4 cb0 rgb xf hbw
      simp only at x0 x1 x2 x3 x4
      obtain ⟨mb, hA⟩ : ∃ mb, A = some ⟨mb, 0, none⟩ := by
        rcases hr.2 with ⟨h, h'⟩ | ⟨g, cap', cur, h, _⟩
        · omega
        · cases h; exact ⟨g, rfl⟩
      subst hA
      rw [HVB.out] at h0 h1
      obtain ⟨ad, had⟩ : ∃ ad : Nat, vb + im = (ad : Int) := ⟨(vb + im).toNat, by omega⟩
      have hadn : ad < n := by omega
      rw [had] at c0 KAB
      have d1 : decide ((ad : Int) < 0) = false := by simp
      have d2 : decide ((n : Int) ≤ (ad : Int)) = false := by simp; omega
      have d3 : decide (n ≤ ad) = false := by simp; omega
      have HR2 := Lib.hid (ownsRow_below hr B2.out)
      have mad := row_at HR2.out ad hadn
      have lmb := (HR2.out.lt mb rfl).2
      have hadi : (ad : Int) < (n : Int) := by omega
      have HAD := Lib.hid had
      have HMX := Lib.hid (show mb ≠ xb from fun e => by have h1 := hr.2; rcases h1 with ⟨h, _⟩ | ⟨g, cap', cur, h, _, hk, _⟩; cases h; cases h; rw [e, hx'.out] at hk; simp at hk)
      clear h0 h1 hr had
      go_upto_region 6 with fail
      obtain ⟨W3, hW3⟩ : ∃ W3, W2.setCell ⟨xb, 7, none⟩ (.int .i64 (ad : Int)) = W3 := ⟨_, rfl⟩
      have f3 : Fr (· = xb) W2 W3 := hW3 ▸ (Fr.refl (· = xb) _).set _ (.inl rfl)
      have KX3 := Lib.hid (show W3.heap[xb]? = some (.cells (xCells ⟨21, a, b, c, im⟩ s.pc false (ad : Int) 0 sb (s.pc + 1)) 119 (0, 0)) by rw [← hW3, heap_setCell_same W2 xb 7 _ _ _ HX2.out]; rfl)
      have kib3 := (f3.block ib lib2 (fun e => by rw [e, HX2.out] at KIB2; have := KIB2.out; simp [xCells] at this)).trans KIB2.out
      obtain ⟨y0, Y1, -, -, -, lib3⟩ := ins_cells kib3
      have km3 := (f3.block mc lmc2 (fun e => by rw [e, HX2.out] at KM2; have := KM2.out; simp [xCells] at this)).trans KM2.out
      have ka3 := (f3.block ab lab (fun e => by rw [e, HX2.out] at KAB; have := KAB.out; simp [xCells] at this)).trans KAB.out
      have kc3 := (f3.block cb (lt_of_blk' KCB2.out) (fun e => by rw [e, HX2.out] at KCB2; have := KCB2.out; simp [xCells] at this)).trans KCB2.out
      have HC3 := Lib.hid (And.intro (one_cell' kc3).1 (And.intro Y1 (And.intro (one_cell' km3).1 (one_cell' ka3).1)))
      have F3 := Lib.hid f3
      rw [hW3]
      clear hW3 f3 kib3 km3 ka3 kc3 Y1 c0 m0 j0 j1 j2 j3 j4 x0 x1 x2 x3 x4 x5 x6 x7 x8 x9 x10 xf7 mad
      go_wp2_with fail
      go_ret2
      rw [HVB.out, HAD.out]
      exact ⟨⟨cb, ib, mc, ab, ad, mb, rfl, rfl, hadn, rfl, HC3.out.1, HC3.out.2.1, HC3.out.2.2.1, HC3.out.2.2.2⟩, KX3.out, (Fr.of B2.out).trans F3.out⟩

end Go.Proofs.YtfceodpdipniaaaDoor
