/-
  What is proved here: what prepare returns for every valid instruction; what Fits returns.
-/
import Derived.Test.YtfceodpdipniaaaDoorCoPrep
namespace Go.Proofs.YtfceodpdipniaaaDoor
open Go.RowKit
set_option linter.unusedVariables false
set_option linter.unusedSimpArgs false

/-- The table of operators lies in memory. -/
def OpTab (w : World) : Prop := 1 < w.heap.size ∧ ∀ k, 2 ≤ k → k ≤ 13 → w.cell? ⟨1, k, none⟩ = some (.int .u8 (opr (k : Int)))
theorem OpTab.below {w w' : World} (h : OpTab w) (b : Below w.heap.size w w') : OpTab w' := ⟨Nat.lt_of_lt_of_le h.1 b.size, fun k h1 h2 => (b.cell (p := ⟨1, k, none⟩) h.1).trans (h.2 k h1 h2)⟩
theorem shp_hi : ∀ k, k < 30 → (shpOf k).aHi ≤ 15 ∧ (shpOf k).bHi ≤ 15 ∧ (shpOf k).cHi ≤ 15 ∧ -131072 ≤ immLo k ∧ immHi k ≤ 131071 ∧ (k = 16 → immLo k = 0 ∧ immHi k = 31) := by decide
theorem prepare_any (xb sb : Nat) (I : Ins) (k : Nat) (hI : Good I k) (lk : Int) (s : St) (hpc : 0 ≤ s.pc ∧ s.pc ≤ 1000000) (dl : List Int) (sv : Value) (sl : List Int) (pv : Value) (Sp : Nat → Prop) (Rp : World → Prop) (w : World)
    (hx : w.heap[xb]? = some (.cells (xCells I s.pc false (-1) 0 sb (s.pc + 1)) 119 (0, 0))) (hJ : Job w sb s dl sv sl) (hxj : ¬ Jb sb s.d sv xb) (hT : OpTab w) (HP : Port w pv Sp Rp) (hsx : ¬ Sp xb) (hsj : ∀ k, Jb sb s.d sv k → ¬ Sp k) :
    Calls Tryd.prog 57 #[.pointer (some ⟨xb, 0, none⟩), .int .i64 lk, sv, pv] w (PrepPost w xb sb I lk s dl sv sl Sp Rp) := by
  obtain ⟨op, ia, ib, ic, im⟩ := I
  obtain ⟨h1, h2, ⟨a1, a2⟩, ⟨b1, b2⟩, ⟨c1, c2⟩, i1, i2⟩ := hI
  obtain ⟨s1, s2, s3, s4, s5, s6⟩ := shp_hi k h2
  simp only at h1 a1 a2 b1 b2 c1 c2 i1 i2
  subst h1
  obtain ⟨a, rfl⟩ : ∃ a : Nat, ia = (a : Int) := ⟨ia.toNat, by omega⟩
  obtain ⟨b, rfl⟩ : ∃ b : Nat, ib = (b : Int) := ⟨ib.toNat, by omega⟩
  obtain ⟨c, rfl⟩ : ∃ c : Nat, ic = (c : Int) := ⟨ic.toNat, by omega⟩
  have ha : a < 16 := by omega
  have hb : b < 16 := by omega
  have hc : c < 16 := by omega
  have him : -131072 ≤ im ∧ im ≤ 131071 := by omega
  by_cases ho : 2 ≤ k ∧ k ≤ 13
  · exact prep_op xb sb k im lk a b c ha hb hc him s hpc dl sv sl pv Sp Rp w hx hJ hxj ho hT.2 hT.1
  have hk : k = 0 ∨ k = 1 ∨ k = 14 ∨ k = 15 ∨ k = 16 ∨ k = 17 ∨ k = 18 ∨ k = 19 ∨ k = 20 ∨ k = 21 ∨ k = 22 ∨ k = 23 ∨ k = 24 ∨ k = 25 ∨ k = 26 ∨ k = 27 ∨ k = 28 ∨ k = 29 := by omega
  rcases hk with rfl | rfl | rfl | rfl | rfl | rfl | rfl | rfl | rfl | rfl | rfl | rfl | rfl | rfl | rfl | rfl | rfl | rfl
  · exact prep_nop xb sb im lk a b c ha hb hc him s hpc dl sv sl pv Sp Rp w hx hJ hxj
  · exact prep_halt xb sb im lk a b c ha hb hc him s hpc dl sv sl pv Sp Rp w hx hJ hxj
  · exact prep_li xb sb im lk a b c ha hb hc him s hpc dl sv sl pv Sp Rp w hx hJ hxj
  · exact prep_addi xb sb im lk a b c ha hb hc him s hpc dl sv sl pv Sp Rp w hx hJ hxj
  · exact prep_shli xb sb im lk a b c ha hb hc him (by have := s6 rfl; omega) (by have := s6 rfl; omega) s hpc dl sv sl pv Sp Rp w hx hJ hxj
  · exact prep_ori xb sb im lk a b c ha hb hc him s hpc dl sv sl pv Sp Rp w hx hJ hxj
  · exact prep_18 xb sb im lk a b c ha hb hc him s hpc dl sv sl pv Sp Rp w hx hJ hxj
  · exact prep_19 xb sb im lk a b c ha hb hc him s hpc dl sv sl pv Sp Rp w hx hJ hxj
  · exact prep_20 xb sb im lk a b c ha hb hc him s hpc dl sv sl pv Sp Rp w hx hJ hxj
  · exact prep_21 xb sb im lk a b c ha hb hc him s hpc dl sv sl pv Sp Rp w hx hJ hxj
  · exact prep_22 xb sb im lk a b c ha hb hc him s hpc dl sv sl pv Sp Rp w hx hJ hxj
  · exact prep_23 xb sb im lk a b c ha hb hc him s hpc dl sv sl pv Sp Rp w hx hJ hxj
  · exact prep_24 xb sb im lk a b c ha hb hc him s hpc dl sv sl pv Sp Rp w hx hJ hxj
  · exact prep_bound xb sb im lk a b c ha hb hc him s hpc dl sv sl pv Sp Rp w hx hJ hxj
  · exact prep_in xb sb im lk a b c ha hb hc him s hpc dl sv sl pv Sp Rp w hx hJ hxj HP hsx hsj
  · exact prep_out xb sb im lk a b c ha hb hc him s hpc dl sv sl pv Sp Rp w hx hJ hxj
  · exact prep_lock xb sb im lk a b c ha hb hc him s hpc dl sv sl pv Sp Rp w hx hJ hxj
  · exact prep_unlock xb sb im lk a b c ha hb hc him s hpc dl sv sl pv Sp Rp w hx hJ hxj

/-- What Fits says. -/
def fitsB (ents : List Ent) (lk : Int) (k : Nat) (s : St) (dn : Nat) : Bool := decide ((dn : Int) = (ents.getD k ⟨⟨#[]⟩, 0, 0, 0⟩).da) && decide (s.r.getD 0 0 = 0) && decide (-1 ≤ s.held) && (decide (s.held < 0) || decide (s.held < lk))
set_option maxRecDepth 20000 in
set_option maxHeartbeats 4000000 in
theorem fits_any (cv ev : Value) (sh lk : Int) (ents : List Ent) (k : Nat) (e : Ent) (sb : Nat) (s : St) (dl : List Int) (sv : Value) (sl : List Int) (w : World) (HE : Ents w ev ents) (he : ents[k]? = some e) (hJ : Job w sb s dl sv sl) :
    Calls Tryd.prog 56 #[.agg #[cv, ev, .int .i64 sh, .int .i64 lk], .int .i64 (k : Int), .pointer (some ⟨sb, 0, none⟩)] w fun x w' => x = .returned (.bool (fitsB ents lk k s dl.length)) ∧ Below w.heap.size w w' := by
  have hk := (List.getElem?_eq_some_iff.1 he).1
  obtain ⟨EA, ecap, hev, he1, he2, hed⟩ := HE.at_
  obtain ⟨eb, eoff, rfl, hbl, hc⟩ := hed (by omega)
  obtain ⟨e0, e1, e2, e3⟩ := hc k e he
  subst hev
  have hfe : fitsB ents lk k s dl.length = (decide ((dl.length : Int) = e.da) && decide (s.r.getD 0 0 = 0) && decide (-1 ≤ s.held) && (decide (s.held < 0) || decide (s.held < lk))) := by
    unfold fitsB
    rw [show ents.getD k ⟨⟨#[]⟩, 0, 0, 0⟩ = e by simp [List.getD, he]]
  have h63 : ents.length ≤ 2 ^ 63 - 1 := by unfold maxLen at he2; omega
  obtain ⟨W, hW⟩ : ∃ W, w.alloc (.cells #[cv, .slice (some ⟨eb, eoff, none⟩) ents.length ecap, .int .i64 sh, .int .i64 lk] 25) = W := ⟨_, rfl⟩
  have b0 : Below w.heap.size w W := hW ▸ (Below.refl _ _).alloc (Nat.le_refl _) _
  have k0 : W.heap[w.heap.size]? = some (.cells #[cv, .slice (some ⟨eb, eoff, none⟩) ents.length ecap, .int .i64 sh, .int .i64 lk] 25) := by rw [← hW]; exact heap_alloc_new _ _
  have w1 : W.cell? ⟨w.heap.size, 1, none⟩ = some (.slice (some ⟨eb, eoff, none⟩) ents.length ecap) := by simp [World.cell?, k0]
  have w3 : W.cell? ⟨w.heap.size, 3, none⟩ = some (.int .i64 lk) := by simp [World.cell?, k0]
  have lw : w.heap.size < W.heap.size := lt_of_blk' k0
  have hJW := hJ.later b0
  have E3 : W.cell? ⟨eb, eoff + k * 4 + 3, none⟩ = some (.int .i64 e.da) := by rw [b0.cell (p := ⟨eb, eoff + k * 4 + 3, none⟩) hbl]; exact e3
  have leb : eb < W.heap.size := by have := b0.size; omega
  have m17 := hJW.m.dat
  have m0 := hJW.m.reg (k := 0) (by decide)
  have m19 := hJW.m.held
  have lsb := hJW.m.lt
  obtain ⟨dA, dcap, hdv⟩ : ∃ dA dcap, s.d = .slice dA dl.length dcap := by
    rcases hJ.d.2 with ⟨h, h'⟩ | ⟨g, cap, cur, h, _⟩
    · exact ⟨_, _, by rw [h, h']⟩
    · exact ⟨_, _, h⟩
  rw [hdv] at m17
  obtain ⟨r0, hr0⟩ : ∃ r0, s.r.getD 0 0 = r0 := ⟨_, rfl⟩
  obtain ⟨hd, hhd⟩ : ∃ hd, s.held = hd := ⟨_, rfl⟩
  obtain ⟨dn, hdn⟩ : ∃ dn, dl.length = dn := ⟨_, rfl⟩
  rw [hdn]
  obtain ⟨da, hda⟩ : ∃ da, e.da = da := ⟨_, rfl⟩
  rw [hr0] at m0 hfe
  rw [hhd] at m19 hfe
  rw [hdn] at m17 hfe
  rw [hda] at E3 hfe
  have HFE := Lib.hid hfe
  have B0 := Lib.hid b0
  have d1 : decide ((0 : Int) ≤ (k : Int)) = true := decide_eq_true (by omega)
  have d2 : decide ((k : Int) < (ents.length : Int)) = true := decide_eq_true (by omega)
  have d3 : decide (k < ents.length) = true := decide_eq_true hk
  have d4 : decide (ents.length ≤ k) = false := decide_eq_false (by omega)
  have hki : (k : Int) < (ents.length : Int) := by omega
  clear hJ hJW hc e0 e1 e2 e3 he HE hed k0 b0 hfe hr0 hhd hdn hda hdv
  go_enter Tryd.func56, Tryd.ntmps56
  go_upto_region 1 with fail
  clear hW
  have key : ∀ (y : Ext W) (r : Bool), r = (decide ((dn : Int) = da) && decide (r0 = 0) && decide (-1 ≤ hd) && (decide (hd < 0) || decide (hd < lk))) → (Ending.returned (.bool r) = Ending.returned (.bool (fitsB ents lk k s dn)) ∧ Below w.heap.size w y.w) := fun y r h => ⟨by rw [h, HFE.out], Ext.below B0.out B0.out.size y⟩
  by_cases c1 : (dn : Int) = da
  case neg =>
    have f1 : ((dn : Int) == da) = false := by simpa using c1
    have g1 := decide_eq_false c1
    clear c1
    refine wp_region_ext (by kernel_rfl) (by kernel_rfl) ?_
    repeat (go_big_quiet_step (fail))
    refine wpQuiet_nil ?_
    rintro _ ⟨y, rfl⟩
    go_wp2_with fail
    go_ret
    exact key y _ (by simp only [g1]; simp)
  have f1 : ((dn : Int) == da) = true := by simpa using c1
  have g1 := decide_eq_true c1
  clear c1
  by_cases c2 : r0 = 0
  case neg =>
    have f2 : (r0 == 0) = false := by simpa using c2
    have g2 := decide_eq_false c2
    clear c2
    refine wp_region_ext (by kernel_rfl) (by kernel_rfl) ?_
    repeat (go_big_quiet_step (fail))
    refine wpQuiet_nil ?_
    rintro _ ⟨y, rfl⟩
    go_wp2_with fail
    go_ret
    exact key y _ (by simp only [g1, g2]; simp)
  subst c2
  have g2 : decide ((0 : Int) = 0) = true := by simp
  by_cases c3 : -1 ≤ hd
  case neg =>
    have f3 : decide (-1 ≤ hd) = false := decide_eq_false c3
    clear c3
    refine wp_region_ext (by kernel_rfl) (by kernel_rfl) ?_
    repeat (go_big_quiet_step (fail))
    refine wpQuiet_nil ?_
    rintro _ ⟨y, rfl⟩
    go_wp2_with fail
    go_ret
    exact key y _ (by simp only [g1, g2, f3]; simp)
  have f3 : decide (-1 ≤ hd) = true := decide_eq_true c3
  clear c3
  by_cases c4 : hd < 0
  case pos =>
    have f4 : decide (hd < 0) = true := decide_eq_true c4
    clear c4
    refine wp_region_ext (by kernel_rfl) (by kernel_rfl) ?_
    repeat (go_big_quiet_step (fail))
    refine wpQuiet_nil ?_
    rintro _ ⟨y, rfl⟩
    go_wp2_with fail
    go_ret
    exact key y _ (by simp only [g1, g2, f3, f4]; simp)
  have f4 : decide (hd < 0) = false := decide_eq_false c4
  clear c4
  by_cases c5 : hd < lk
  case pos =>
    have f5 : decide (hd < lk) = true := decide_eq_true c5
    clear c5
    refine wp_region_ext (by kernel_rfl) (by kernel_rfl) ?_
    repeat (go_big_quiet_step (fail))
    refine wpQuiet_nil ?_
    rintro _ ⟨y, rfl⟩
    go_wp2_with fail
    go_ret
    exact key y _ (by simp only [g1, g2, f3, f4, f5]; simp)
  have f5 : decide (hd < lk) = false := decide_eq_false c5
  clear c5
  refine wp_region_ext (by kernel_rfl) (by kernel_rfl) ?_
  repeat (go_big_quiet_step (fail))
  refine wpQuiet_nil ?_
  rintro _ ⟨y, rfl⟩
  go_wp2_with fail
  go_ret
  exact key y _ (by simp only [g1, g2, f3, f4, f5]; simp)

end Go.Proofs.YtfceodpdipniaaaDoor
