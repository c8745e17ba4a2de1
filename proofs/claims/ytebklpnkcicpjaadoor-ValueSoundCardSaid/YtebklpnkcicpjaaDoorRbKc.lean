/-
 What is proved here: execution follows the graph (plain).
-/
import Derived.Test.YtebklpnkcicpjaaDoorRbKb
import Derived.Test.YtebklpnkcicpjaaDoorRbT
import Derived.Laws.CopyOwn
import Derived.Test.YtebklpnkcicpjaaDoorRbKd
import Derived.Laws.MakeOwn
import Derived.Handy
import Derived.Test.YtebklpnkcicpjaaDoorRbCd
namespace Go.Proofs.YtebklpnkcicpjaaDoor
open Go.RowKit
set_option linter.unusedVariables false
set_option linter.unusedSimpArgs false

def OpTab (w : World) : Prop := 1 < w.heap.size ∧ ∀ k, 2 ≤ k → k ≤ 13 → w.cell? ⟨1, k, none⟩ = some (.int .u8 (opr (k : Int)))
theorem OpTab.below {w w' : World} (h : OpTab w) (b : Below w.heap.size w w') : OpTab w' := ⟨Nat.lt_of_lt_of_le h.1 b.size, fun k h1 h2 => (b.cell (p := ⟨1, k, none⟩) h.1).trans (h.2 k h1 h2)⟩
theorem shp_hi : ∀ k, k < 30 → (shpOf k).aHi ≤ 15 ∧ (shpOf k).bHi ≤ 15 ∧ (shpOf k).cHi ≤ 15 ∧ -131072 ≤ immLo k ∧ immHi k ≤ 131071 ∧ (k = 16 → immLo k = 0 ∧ immHi k = 31) := by decide
theorem prepare_any (xb sb : Nat) (I : Ins) (k : Nat) (hI : Good I k) (lk : Int) (s : St) (hpc : 0 ≤ s.pc ∧ s.pc ≤ 1000000) (dl : List Int) (sv : Value) (sl : List Int) (pv : Value) (Sp : Nat → Prop) (Rp : World → Prop) (w : World)
  (hx : w.heap[xb]? = some (.cells (xCells I s.pc false (-1) 0 sb (s.pc + 1)) 126 (0, 0))) (hJ : Job w sb s dl sv sl) (hxj : ¬ Jb sb s.d sv xb) (hT : OpTab w) (HP : Port w pv Sp Rp) (hsx : ¬ Sp xb) (hsj : ∀ k, Jb sb s.d sv k → ¬ Sp k) :
  Calls Tryd.prog 53 #[.pointer (some ⟨xb, 0, none⟩), .int .i64 lk, sv, pv] w (PrepPost w xb sb I lk s dl sv sl Sp Rp) := by
 obtain ⟨op, ia, ib, ic, im⟩ := I
 obtain ⟨h1, h2, ⟨a1, a2⟩, ⟨b1, b2⟩, ⟨c1, c2⟩, i1, i2⟩ := hI
 obtain ⟨s1, s2, s3, s4, s5, s6⟩ := shp_hi k h2
 simp only at h1 a1 a2 b1 b2 c1 c2 i1 i2
 subst h1
 obtain ⟨a, rfl⟩ : ∃ a : Nat, ia = (a : Int) := ⟨ia.toNat, by omega⟩
 obtain ⟨b, rfl⟩ : ∃ b : Nat, ib = (b : Int) := ⟨ib.toNat, by omega⟩
 obtain ⟨c, rfl⟩ : ∃ c : Nat, ic = (c : Int) := ⟨ic.toNat, by omega⟩
 have ha : a < 16 := by omega
 have hb : b < 16 := by omega
 have hc : c < 16 := by omega
 have him : -131072 ≤ im ∧ im ≤ 131071 := by omega
 exact prep_all xb sb (k : Int) im lk a b c ha hb hc him s hpc dl sv sl pv Sp Rp w hx hJ hxj (by omega) (fun e => by have := s6 (by omega); omega) hT.2 hT.1 HP hsx hsj

def fitsB (ents : List Ent) (lk : Int) (k : Nat) (s : St) (dn : Nat) : Bool := decide ((dn : Int) = (ents.getD k ⟨⟨#[]⟩, 0, 0, 0⟩).da) && decide (s.r.getD 0 0 = 0) && decide (-1 ≤ s.held) && (decide (s.held < 0) || decide (s.held < lk))
set_option maxRecDepth 20000 in
set_option maxHeartbeats 4000000 in
theorem fits_any (cv ev : Value) (sh lk : Int) (ents : List Ent) (k : Nat) (e : Ent) (sb : Nat) (s : St) (dl : List Int) (sv : Value) (sl : List Int) (w : World) (HE : Ents w ev ents) (he : ents[k]? = some e) (hJ : Job w sb s dl sv sl) :
  Calls Tryd.prog 52 #[.agg #[cv, ev, .int .i64 sh, .int .i64 lk], .int .i64 (k : Int), .pointer (some ⟨sb, 0, none⟩)] w fun x w' => x = .returned (.bool (fitsB ents lk k s dl.length)) ∧ Below w.heap.size w w' := by
 have hk := (List.getElem?_eq_some_iff.1 he).1
 obtain ⟨EA, ecap, hev, he1, he2, hed⟩ := HE.at_
 obtain ⟨eb, eoff, rfl, hbl, hc⟩ := hed (by omega)
 obtain ⟨e0, e1, e2, e3⟩ := hc k e he
 subst hev
 have hfe : fitsB ents lk k s dl.length = (decide ((dl.length : Int) = e.da) && decide (s.r.getD 0 0 = 0) && decide (-1 ≤ s.held) && (decide (s.held < 0) || decide (s.held < lk))) := by
  unfold fitsB
  rw [show ents.getD k ⟨⟨#[]⟩, 0, 0, 0⟩ = e by simp [List.getD, he]]
 have h63 : ents.length ≤ 2 ^ 63 - 1 := by unfold maxLen at he2; omega
 obtain ⟨W, hW⟩ : ∃ W, w.alloc (.cells #[cv, .slice (some ⟨eb, eoff, none⟩) ents.length ecap, .int .i64 sh, .int .i64 lk] 38) = W := ⟨_, rfl⟩
 have b0 : Below w.heap.size w W := hW ▸ (Below.refl _ _).alloc (Nat.le_refl _) _
 have k0 : W.heap[w.heap.size]? = some (.cells #[cv, .slice (some ⟨eb, eoff, none⟩) ents.length ecap, .int .i64 sh, .int .i64 lk] 38) := by rw [← hW]; exact heap_alloc_new _ _
 have w1 : W.cell? ⟨w.heap.size, 1, none⟩ = some (.slice (some ⟨eb, eoff, none⟩) ents.length ecap) := by simp [World.cell?, k0]
 have w3 : W.cell? ⟨w.heap.size, 3, none⟩ = some (.int .i64 lk) := by simp [World.cell?, k0]
 have lw : w.heap.size < W.heap.size := lt_of_blk' k0
 have hJW := hJ.later b0
 have E3 : W.cell? ⟨eb, eoff + k * 4 + 3, none⟩ = some (.int .i64 e.da) := by rw [b0.cell (p := ⟨eb, eoff + k * 4 + 3, none⟩) hbl]; exact e3
 have leb : eb < W.heap.size := by have := b0.size; omega
 have m17 := hJW.m.dat
 have m0 := hJW.m.reg (k := 0) (by decide)
 have m19 := hJW.m.held
 have lsb := hJW.m.lt
 obtain ⟨dA, dcap, hdv⟩ : ∃ dA dcap, s.d = .slice dA dl.length dcap := by
  rcases hJ.d.2 with ⟨h, h'⟩ | ⟨g, cap, cur, h, _⟩
  ·exact ⟨_, _, by rw [h, h']⟩
  ·exact ⟨_, _, h⟩
 rw [hdv] at m17
 obtain ⟨r0, hr0⟩ : ∃ r0, s.r.getD 0 0 = r0 := ⟨_, rfl⟩
 obtain ⟨hd, hhd⟩ : ∃ hd, s.held = hd := ⟨_, rfl⟩
 obtain ⟨dn, hdn⟩ : ∃ dn, dl.length = dn := ⟨_, rfl⟩
 rw [hdn]
 obtain ⟨da, hda⟩ : ∃ da, e.da = da := ⟨_, rfl⟩
 rw [hr0] at m0 hfe
 rw [hhd] at m19 hfe
 rw [hdn] at m17 hfe
 rw [hda] at E3 hfe
 have HFE := Lib.hid hfe
 have B0 := Lib.hid b0
 have d1 : decide ((0 : Int) ≤ (k : Int)) = true := decide_eq_true (by omega)
 have d2 : decide ((k : Int) < (ents.length : Int)) = true := decide_eq_true (by omega)
 have d3 : decide (k < ents.length) = true := decide_eq_true hk
 have d4 : decide (ents.length ≤ k) = false := decide_eq_false (by omega)
 have hki : (k : Int) < (ents.length : Int) := by omega
 clear hJ hJW hc e0 e1 e2 e3 he HE hed k0 b0 hfe hr0 hhd hdn hda hdv
 go_enter Tryd.func52, Tryd.ntmps52
 go_upto_region 1 with fail
 clear hW
 have key : ∀ (y : Ext W) (r : Bool), r = (decide ((dn : Int) = da) && decide (r0 = 0) && decide (-1 ≤ hd) && (decide (hd < 0) || decide (hd < lk))) → (Ending.returned (.bool r) = Ending.returned (.bool (fitsB ents lk k s dn)) ∧ Below w.heap.size w y.w) := fun y r h => ⟨by rw [h, HFE.out], Ext.below B0.out B0.out.size y⟩
 by_cases c1 : (dn : Int) = da
 case neg =>
  have f1 : ((dn : Int) == da) = false := by simpa using c1
  have g1 := decide_eq_false c1
  clear c1
  refine wp_region_ext (by kernel_rfl) (by kernel_rfl) ?_
  repeat (go_big_quiet_step (fail))
  refine wpQuiet_nil ?_
  rintro _ ⟨y, rfl⟩
  go_wp2_with fail
  go_ret
  exact key y _ (by simp only [g1]; simp)
 have f1 : ((dn : Int) == da) = true := by simpa using c1
 have g1 := decide_eq_true c1
 clear c1
 by_cases c2 : r0 = 0
 case neg =>
  have f2 : (r0 == 0) = false := by simpa using c2
  have g2 := decide_eq_false c2
  clear c2
  refine wp_region_ext (by kernel_rfl) (by kernel_rfl) ?_
  repeat (go_big_quiet_step (fail))
  refine wpQuiet_nil ?_
  rintro _ ⟨y, rfl⟩
  go_wp2_with fail
  go_ret
  exact key y _ (by simp only [g1, g2]; simp)
 subst c2
 have g2 : decide ((0 : Int) = 0) = true := by simp
 by_cases c3 : -1 ≤ hd
 case neg =>
  have f3 : decide (-1 ≤ hd) = false := decide_eq_false c3
  clear c3
  refine wp_region_ext (by kernel_rfl) (by kernel_rfl) ?_
  repeat (go_big_quiet_step (fail))
  refine wpQuiet_nil ?_
  rintro _ ⟨y, rfl⟩
  go_wp2_with fail
  go_ret
  exact key y _ (by simp only [g1, g2, f3]; simp)
 have f3 : decide (-1 ≤ hd) = true := decide_eq_true c3
 clear c3
 by_cases c4 : hd < 0
 case pos =>
  have f4 : decide (hd < 0) = true := decide_eq_true c4
  clear c4
  refine wp_region_ext (by kernel_rfl) (by kernel_rfl) ?_
  repeat (go_big_quiet_step (fail))
  refine wpQuiet_nil ?_
  rintro _ ⟨y, rfl⟩
  go_wp2_with fail
  go_ret
  exact key y _ (by simp only [g1, g2, f3, f4]; simp)
 have f4 : decide (hd < 0) = false := decide_eq_false c4
 clear c4
 by_cases c5 : hd < lk
 case pos =>
  have f5 : decide (hd < lk) = true := decide_eq_true c5
  clear c5
  refine wp_region_ext (by kernel_rfl) (by kernel_rfl) ?_
  repeat (go_big_quiet_step (fail))
  refine wpQuiet_nil ?_
  rintro _ ⟨y, rfl⟩
  go_wp2_with fail
  go_ret
  exact key y _ (by simp only [g1, g2, f3, f4, f5]; simp)
 have f5 : decide (hd < lk) = false := decide_eq_false c5
 clear c5
 refine wp_region_ext (by kernel_rfl) (by kernel_rfl) ?_
 repeat (go_big_quiet_step (fail))
 refine wpQuiet_nil ?_
 rintro _ ⟨y, rfl⟩
 go_wp2_with fail
 go_ret
 exact key y _ (by simp only [g1, g2, f3, f4, f5]; simp)

end Go.Proofs.YtebklpnkcicpjaaDoor

namespace Go.Proofs.YtebklpnkcicpjaaDoor
open Go.RowKit
set_option linter.unusedVariables false
set_option linter.unusedSimpArgs false

def effL (I : Ins) (pc : Int) (tk : Bool) (ad vl : Int) : List Value := [.int .u8 I.op, .int .i64 I.a, .int .i64 I.b, .int .i64 I.c, .int .i64 I.imm, .int .i64 pc, .bool tk, .int .i64 ad, .int .i32 vl]
theorem Port.later {w W : World} {pv : Value} {Sp : Nat → Prop} {Rp : World → Prop} (h : Port w pv Sp Rp) (b : Below w.heap.size w W) : Port W pv Sp Rp :=
 ⟨fun k hk => Nat.lt_of_lt_of_le (h.old k hk) b.size, h.st, by
  rcases h.fn with h1 | ⟨fid, caps, h1, h2, h3, h4⟩
  ·exact .inl h1
  ·exact .inr ⟨fid, caps, h1, h2, h3, fun x W' hW => h4 x W' (b.trans (hW.mono b.size))⟩⟩
theorem setRow_fr' (w : World) (g : Nat) (c : Array Value) : Fr (· = g) w (w.setRow g c) :=
 ⟨rfl, rfl, rfl, by simp [World.setRow], fun k h1 h2 => by simp [World.setRow, Array.getElem?_modify]; intro e; exact absurd e.symm h2⟩
theorem StepOk.dat {I : Ins} {lk : Int} {s : St} {dl sl : List Int} {nx : Int} {s' : St} {dl' sl' : List Int} (h : StepOk I lk s dl sl nx s' dl' sl') : s'.d = s.d := by
 cases h <;> rfl
def StepPost (w : World) (sb : Nat) (cd : Nat → Int) (e : Ent) (lk : Int) (s : St) (dl : List Int) (sv : Value) (sl : List Int) (Sp : Nat → Prop) (Rp : World → Prop) (x : Ending) (w' : World) : Prop :=
 (∃ er, er ≠ 0 ∧ x = .returned (.tuple #[.agg #[.int .u8 0, .int .i64 0, .int .i64 0, .int .i64 0, .int .i64 0, .int .i64 0, .bool false, .int .i64 0, .int .i32 0], .int .i64 er]) ∧ Below w.heap.size w w') ∨
 (∃ nx tk ad vl s' dl' sl', s.hal = false ∧ e.st ≤ s.pc ∧ s.pc < e.en ∧ (decI (cd s.pc.toNat)).2 = 0 ∧ StepOk (insAt cd s.pc) lk s dl sl nx s' dl' sl' ∧ ((insAt cd s.pc).op = 27 → vl = reg s (insAt cd s.pc).a) ∧
  x = .returned (.tuple #[.agg (effL (insAt cd s.pc) s.pc tk ad vl).toArray, .int .i64 0]) ∧ Job w' sb { s' with pc := nx } dl' sv sl' ∧ Fr (fun k => Jb sb s.d sv k ∨ Sp k) w w' ∧ (Fr (Jb sb s.d sv) w w' ∨ Rp w'))
set_option maxRecDepth 20000 in
set_option maxHeartbeats 4000000 in
theorem step_any (cv ev : Value) (sh lk : Int) (n : Nat) (cd : Nat → Int) (ents : List Ent) (k : Nat) (e : Ent) (sb : Nat) (s : St) (dl : List Int) (sv : Value) (sl : List Int) (pv : Value) (Sp : Nat → Prop) (Rp : World → Prop) (w : World) (T : Tab w) (OT : OpTab w)
  (HW : WordsN w cv n cd) (hn : n ≤ 1000000) (HE : Ents w ev ents) (he : ents[k]? = some e) (hJ : Job w sb s dl sv sl) (HP : Port w pv Sp Rp) (hsj : ∀ k, Jb sb s.d sv k → ¬ Sp k) :
  Calls Tryd.prog 26 #[.agg #[cv, ev, .int .i64 sh, .int .i64 lk], .int .i64 (k : Int), .pointer (some ⟨sb, 0, none⟩), sv, pv] w (StepPost w sb cd e lk s dl sv sl Sp Rp) := by
 have hk := (List.getElem?_eq_some_iff.1 he).1
 obtain ⟨EA, ecap, hev, he1, he2, hed⟩ := HE.at_
 obtain ⟨eb, eoff, rfl, hbl, hc⟩ := hed (by omega)
 obtain ⟨A, cap, hcv, hc1, hc2, hcd⟩ := HW.at_
 have HWH := Lib.hid HW
 have HEH := Lib.hid HE
 have HT := Lib.hid T
 have HO := Lib.hid OT
 have HJ := Lib.hid hJ
 have HEN := Lib.hid he
 have HPO := Lib.hid HP
 have HSJ := Lib.hid hsj
 have h63 : ents.length ≤ 2 ^ 63 - 1 := by unfold maxLen at he2; omega
 subst hcv hev
 obtain ⟨W, hW⟩ : ∃ W, (w.alloc (.cells #[.slice A n cap, .slice (some ⟨eb, eoff, none⟩) ents.length ecap, .int .i64 sh, .int .i64 lk] 38)).alloc (.cells #[.int .u8 0, .int .i64 0, .int .i64 0, .int .i64 0, .int .i64 0, .int .i64 0, .bool false, .int .i64 0, .int .i32 0] 80) = W := ⟨_, rfl⟩
 have b0 : Below w.heap.size w W := hW ▸ ((Below.refl _ _).alloc (Nat.le_refl _) _).alloc (by simp) _
 have kI : W.heap[w.heap.size]? = some (.cells #[.slice A n cap, .slice (some ⟨eb, eoff, none⟩) ents.length ecap, .int .i64 sh, .int .i64 lk] 38) := by rw [← hW, heap_alloc_old _ _ (by simp)]; exact heap_alloc_new _ _
 have kR : W.heap[w.heap.size + 1]? = some (.cells #[.int .u8 0, .int .i64 0, .int .i64 0, .int .i64 0, .int .i64 0, .int .i64 0, .bool false, .int .i64 0, .int .i32 0] 80) := by rw [← hW]; exact heap_alloc_at _ _ (by simp)
 have y0 : W.cell? ⟨w.heap.size, 0, none⟩ = some (.slice A n cap) := by simp [World.cell?, kI]
 have y1 : W.cell? ⟨w.heap.size, 1, none⟩ = some (.slice (some ⟨eb, eoff, none⟩) ents.length ecap) := by simp [World.cell?, kI]
 have y2 : W.cell? ⟨w.heap.size, 2, none⟩ = some (.int .i64 sh) := by simp [World.cell?, kI]
 have y3 : W.cell? ⟨w.heap.size, 3, none⟩ = some (.int .i64 lk) := by simp [World.cell?, kI]
 have HJW := Lib.hid (hJ.later b0)
 have B0 := Lib.hid b0
 have KI := Lib.hid kI
 have KR := Lib.hid kR
 have lw : w.heap.size < W.heap.size := lt_of_blk' kI
 have lr : w.heap.size + 1 < W.heap.size := lt_of_blk' kR
 have lsb := HJW.out.m.lt
 have mh := HJW.out.m.hal
 have HFI := Lib.hid (show Calls Tryd.prog 52 #[.agg #[.slice A n cap, .slice (some ⟨eb, eoff, none⟩) ents.length ecap, .int .i64 sh, .int .i64 lk], .int .i64 (k : Int), .pointer (some ⟨sb, 0, none⟩)] W fun x w' => x = .returned (.bool (fitsB ents lk k s dl.length)) ∧ ∃ y : Ext W, y.w = w' from (fits_any _ _ sh lk ents k e sb s dl sv sl W (HEH.out.below b0) HEN.out HJW.out).mono fun x w' ⟨h1, h2⟩ => ⟨h1, ⟨w', h2⟩, rfl⟩)
 obtain ⟨fb, hfb⟩ : ∃ fb, fitsB ents lk k s dl.length = fb := ⟨_, rfl⟩
 rw [hfb] at HFI
 obtain ⟨hal, hhal⟩ : ∃ hal, s.hal = hal := ⟨_, rfl⟩
 rw [hhal] at mh
 have HH := Lib.hid hhal
 have d1 : decide ((k : Int) < 0) = false := decide_eq_false (by omega)
 have d2 : decide ((ents.length : Int) ≤ (k : Int)) = false := decide_eq_false (by omega)
 have d3 : decide (ents.length ≤ k) = false := decide_eq_false (by omega)
 have hki : (k : Int) < (ents.length : Int) := by omega
 clear HW HE T OT hJ he HP hsj hed hc hcd kI kR b0 hfb hhal
 go_enter Tryd.func26, Tryd.ntmps26
 go_upto_region 3 with fail
 clear hW
 have key : ∀ (W' : World) (er : Int), Below w.heap.size w W' → er ≠ 0 → StepPost w sb cd e lk s dl sv sl Sp Rp (.returned (.tuple #[.agg #[.int .u8 0, .int .i64 0, .int .i64 0, .int .i64 0, .int .i64 0, .int .i64 0, .bool false, .int .i64 0, .int .i32 0], .int .i64 er])) W' := fun W' er h1 h2 => .inl ⟨er, h2, rfl, h1⟩
 by_cases hf : fb = true ∧ hal = false
 case neg =>
  have hf' : fb = false ∨ (fb = true ∧ hal = true) := by cases fb <;> cases hal <;> simp_all
  clear hf
  rcases hf' with rfl | ⟨rfl, rfl⟩
  all_goals
   go_upto_region 4 with (go_at_call 52; refine HFI.out.mono ?_; rintro e' w' ⟨rfl, y, rfl⟩)
   have kr := (y.h.block _ lr).trans KR.out
   go_wp2_with (refine wpList_store_row rfl 80 (.tmp 10) (.tmp 31) rfl (w.heap.size + 1) #[.int .u8 0, .int .i64 0, .int .i64 0, .int .i64 0, .int .i64 0, .int .i64 0, .bool false, .int .i64 0, .int .i32 0] rfl rfl 80 _ kr (by kernel_rfl) rfl (by simp [Value.oneCell']) ?_)
   refine bodyPost_ret (results_cell_tmp (P := Tryd.prog) Tryd.results26 _ _ (w.heap.size + 1) [.int .u8 0, .int .i64 0, .int .i64 0, .int .i64 0, .int .i64 0, .int .i64 0, .bool false, .int .i64 0, .int .i32 0] _ rfl (rangeAt_block (setRow_heap _ _ _ _ _ _ kr)) Tryd.underlying80 rfl (by kernel_rfl)) rfl (key _ _ (below_setRow (Ext.below B0.out B0.out.size y) (by omega) _) (by first | decide | assumption))
 obtain ⟨rfl, rfl⟩ := hf
 go_upto_region 5 with (go_at_call 52; refine HFI.out.mono ?_; rintro e' w' ⟨rfl, y, rfl⟩)
 obtain ⟨Y, hY⟩ : ∃ Y, y.w = Y := ⟨_, rfl⟩
 have hyb := y.h
 rw [hY] at hyb ⊢
 have hys := hyb.size
 have BY := Lib.hid (B0.out.trans (hyb.mono B0.out.size))
 have KRY := Lib.hid ((hyb.block _ lr).trans KR.out)
 have HJY := Lib.hid (HJW.out.later hyb)
 have YY := Lib.hid hyb
 have u0 : Y.cell? ⟨w.heap.size, 0, none⟩ = some (.slice A n cap) := by rw [hyb.cell (p := ⟨w.heap.size, 0, none⟩) lw]; exact y0
 have u1 : Y.cell? ⟨w.heap.size, 1, none⟩ = some (.slice (some ⟨eb, eoff, none⟩) ents.length ecap) := by rw [hyb.cell (p := ⟨w.heap.size, 1, none⟩) lw]; exact y1
 have u3 : Y.cell? ⟨w.heap.size, 3, none⟩ = some (.int .i64 lk) := by rw [hyb.cell (p := ⟨w.heap.size, 3, none⟩) lw]; exact y3
 obtain ⟨e2, eb', eoff', he2', hea, hbl2, m0, m1, m2, m3⟩ := HEH.out.cells BY.out hk
 obtain rfl : e = e2 := by have h := HEN.out; rw [h] at he2'; exact Option.some.inj he2'
 cases hea
 have leb : eb < Y.heap.size := by have := BY.out.size; omega
 have lwy : w.heap.size < Y.heap.size := by omega
 have lry : w.heap.size + 1 < Y.heap.size := by omega
 obtain ⟨st, hst⟩ : ∃ st, e.st = st := ⟨_, rfl⟩
 obtain ⟨en, hen⟩ : ∃ en, e.en = en := ⟨_, rfl⟩
 rw [hst] at m1
 rw [hen] at m2
 have HST := Lib.hid hst
 have HENN := Lib.hid hen
 obtain ⟨X, hX⟩ : ∃ X, Y.alloc (.cells #[.string e.nm, .int .i64 st, .int .i64 en, .int .i64 e.da] 102) = X := ⟨_, rfl⟩
 have bX : Below Y.heap.size Y X := hX ▸ (Below.refl _ _).alloc (Nat.le_refl _) _
 have kX : X.heap[Y.heap.size]? = some (.cells #[.string e.nm, .int .i64 st, .int .i64 en, .int .i64 e.da] 102) := hX ▸ heap_alloc_new _ _
 have sX : X.heap.size = Y.heap.size + 1 := by rw [← hX]; simp
 clear hY hyb y0 y1 y2 y3 he2' hst hen mh HFI
 go_upto_region 6 with fail
 try rw [hX]
 obtain ⟨qb, hqb⟩ : ∃ qb, Y.heap.size = qb := ⟨_, rfl⟩
 rw [hqb] at kX sX
 try rw [hqb]
 have r1 : X.cell? ⟨qb, 1, none⟩ = some (.int .i64 st) := by simp [World.cell?, kX]
 have r2 : X.cell? ⟨qb, 2, none⟩ = some (.int .i64 en) := by simp [World.cell?, kX]
 have v0 : X.cell? ⟨w.heap.size, 0, none⟩ = some (.slice A n cap) := by rw [bX.cell (p := ⟨w.heap.size, 0, none⟩) lwy]; exact u0
 have v3 : X.cell? ⟨w.heap.size, 3, none⟩ = some (.int .i64 lk) := by rw [bX.cell (p := ⟨w.heap.size, 3, none⟩) lwy]; exact u3
 have HJX := Lib.hid (HJY.out.later bX)
 have BX := Lib.hid (BY.out.trans (bX.mono (by omega)))
 have KRX := Lib.hid ((bX.block _ lry).trans KRY.out)
 have KQ := Lib.hid kX
 have lqx : qb < X.heap.size := by omega
 have lwx : w.heap.size < X.heap.size := by omega
 have lrx : w.heap.size + 1 < X.heap.size := by omega
 have lsx := HJX.out.m.lt
 have mp := HJX.out.m.pc
 obtain ⟨pc, hpc⟩ : ∃ pc, s.pc = pc := ⟨_, rfl⟩
 rw [hpc] at mp
 have HPC := Lib.hid hpc
 clear hX bX kX sX u0 u1 u3 m0 m1 m2 m3 hpc hqb
 have hlc := HWH.out
 by_cases hbad : st ≤ pc ∧ pc < en ∧ 0 ≤ pc ∧ pc < (n : Int)
 case neg =>
  have hsp : (pc < st) ∨ (¬ pc < st ∧ en ≤ pc) ∨ (¬ pc < st ∧ ¬ en ≤ pc ∧ pc < 0) ∨ (¬ pc < st ∧ ¬ en ≤ pc ∧ ¬ pc < 0 ∧ (n : Int) ≤ pc) := by omega
  clear hbad hlc
  rcases hsp with c1 | ⟨c1, c2⟩ | ⟨c1, c2, c3⟩ | ⟨c1, c2, c3, c4⟩
  all_goals
   try (first | have g1 := decide_eq_false c1 | have g1 := decide_eq_true c1)
   try (first | have g2 := decide_eq_false c2 | have g2 := decide_eq_true c2)
   try (first | have g3 := decide_eq_false c3 | have g3 := decide_eq_true c3)
   try (have g4 := decide_eq_true c4)
   clear c1
   try clear c2
   try clear c3
   try clear c4
   refine wp_region_ext (by kernel_rfl) (by kernel_rfl) ?_
   repeat (go_big_quiet_step (fail))
   refine wpQuiet_nil ?_
   rintro _ ⟨z, rfl⟩
   have kr := (z.h.block _ lrx).trans KRX.out
   go_upto_region 7 with fail
   go_wp2_with (refine wpList_store_row rfl 80 (.tmp 10) (.tmp 70) rfl (w.heap.size + 1) #[.int .u8 0, .int .i64 0, .int .i64 0, .int .i64 0, .int .i64 0, .int .i64 0, .bool false, .int .i64 0, .int .i32 0] rfl rfl 80 _ kr (by kernel_rfl) rfl (by simp [Value.oneCell']) ?_)
   refine bodyPost_ret (results_cell_tmp (P := Tryd.prog) Tryd.results26 _ _ (w.heap.size + 1) [.int .u8 0, .int .i64 0, .int .i64 0, .int .i64 0, .int .i64 0, .int .i64 0, .bool false, .int .i64 0, .int .i32 0] _ rfl (rangeAt_block (setRow_heap _ _ _ _ _ _ kr)) Tryd.underlying80 rfl (by kernel_rfl)) rfl (key _ _ (below_setRow (Ext.below BX.out BX.out.size z) (by omega) _) (by first | decide | assumption))
 obtain ⟨p, hp⟩ : ∃ p : Nat, pc = (p : Int) := ⟨pc.toNat, by omega⟩
 subst hp
 have HBAD := Lib.hid hbad
 have hpn : p < n := by omega
 have g1 : decide ((p : Int) < st) = false := decide_eq_false (by omega)
 have g2 : decide (en ≤ (p : Int)) = false := decide_eq_false (by omega)
 have g3 : decide ((p : Int) < 0) = false := decide_eq_false (by omega)
 have g4 : decide ((n : Int) ≤ (p : Int)) = false := decide_eq_false (by omega)
 have g5 : decide (n ≤ p) = false := decide_eq_false (by omega)
 obtain ⟨A2, cap2, hA2, _, _, hcd2⟩ := hlc.at_
 cases hA2
 obtain ⟨cb, coff, hAe, hcb, hcc⟩ := hcd2 (by omega)
 have c0 : X.cell? ⟨cb, coff + p, none⟩ = some (.int .u32 (cd p)) := by rw [BX.out.cell (p := ⟨cb, coff + p, none⟩) hcb]; exact hcc p hpn
 have hwd := hlc.wd p hpn
 subst hAe
 have lcx : cb < X.heap.size := Nat.lt_of_lt_of_le hcb BX.out.size
 have hpi : (p : Int) < (n : Int) := by omega
 clear hbad hlc hcc hcd2
 refine wp_region_ext (by kernel_rfl) (by kernel_rfl) ?_
 repeat (go_big_quiet_step (fail))
 refine wpQuiet_nil ?_
 rintro _ ⟨z, rfl⟩
 obtain ⟨X1, hX1⟩ : ∃ X1, z.w = X1 := ⟨_, rfl⟩
 have hzb := z.h
 rw [hX1] at hzb ⊢
 have hzs := hzb.size
 have a0 : X1.cell? ⟨w.heap.size, 0, none⟩ = some (.slice (some ⟨cb, coff, none⟩) n cap) := by rw [hzb.cell (p := ⟨w.heap.size, 0, none⟩) lwx]; exact v0
 have a3 : X1.cell? ⟨w.heap.size, 3, none⟩ = some (.int .i64 lk) := by rw [hzb.cell (p := ⟨w.heap.size, 3, none⟩) lwx]; exact v3
 have ap : X1.cell? ⟨sb, 0, none⟩ = some (.int .i64 (p : Int)) := by rw [hzb.cell (p := ⟨sb, 0, none⟩) lsx]; exact mp
 have ac : X1.cell? ⟨cb, coff + p, none⟩ = some (.int .u32 (cd p)) := by rw [hzb.cell (p := ⟨cb, coff + p, none⟩) lcx]; exact c0
 have HJ1 := Lib.hid (HJX.out.later hzb)
 have B1 := Lib.hid (BX.out.trans (hzb.mono BX.out.size))
 have KR1 := Lib.hid ((hzb.block _ lrx).trans KRX.out)
 have lw1 : w.heap.size < X1.heap.size := by omega
 have lr1 : w.heap.size + 1 < X1.heap.size := by omega
 have ls1 := HJ1.out.m.lt
 have lc1 : cb < X1.heap.size := by omega
 have HDE := Lib.hid (show ∀ W', Below X1.heap.size X1 W' → Calls Tryd.prog 19 #[.int .u32 (cd p)] W' fun x w' => x = .returned (.tuple #[(decI (cd p)).1.val, .int .i64 (decI (cd p)).2]) ∧ Below X1.heap.size X1 w' from fun W' hW' => (decode_any (cd p) hwd.1 hwd.2 W' (HT.out.below (B1.out.trans (hW'.mono B1.out.size)))).mono fun x w' ⟨h1, h2⟩ => ⟨h1, hW'.trans (h2.mono hW'.size)⟩)
 have HDE1 := Lib.hid (HDE.out X1.drew (Below.drew (Below.refl _ _)))
 have HDE2 := Lib.hid (show Calls Tryd.prog 19 #[.int .u32 (cd p)] ((X1.alloc (.cells #[.int .u8 0, .int .i64 0, .int .i64 0, .int .i64 0, .int .i64 0] 23)).drew) fun x w' => x = .returned (.tuple #[(decI (cd p)).1.val, .int .i64 (decI (cd p)).2]) ∧ w'.heap[X1.heap.size]? = some (.cells #[.int .u8 0, .int .i64 0, .int .i64 0, .int .i64 0, .int .i64 0] 23 (0, 0)) ∧ Below X1.heap.size X1 w' from (decode_any (cd p) hwd.1 hwd.2 _ (HT.out.below (B1.out.trans ((Below.drew ((Below.refl _ _).alloc (Nat.le_refl _) _)).mono B1.out.size)))).mono fun x w' ⟨h1, h2⟩ => ⟨h1, (h2.block X1.heap.size (by simp)).trans (heap_alloc_new X1 _), (Below.drew ((Below.refl _ _).alloc (Nat.le_refl _) _)).trans (h2.mono (by simp))⟩)
 have HIA := Lib.hid (show insAt cd (p : Int) = (decI (cd p)).1 by simp [insAt])
 obtain ⟨I, hI⟩ : ∃ I, (decI (cd p)).1 = I := ⟨_, rfl⟩
 obtain ⟨er, her⟩ : ∃ er, (decI (cd p)).2 = er := ⟨_, rfl⟩
 rw [hI] at HIA HDE1 HDE2
 rw [her] at HDE1 HDE2
 have HDG := Lib.hid (show er = 0 → ∃ q, Good I q from fun h => by obtain ⟨q, hq, _⟩ := decI_good hwd.1 (her.trans h); rw [hI] at hq; exact ⟨q, hq⟩)
 have HER := Lib.hid her
 obtain ⟨op, ia, ib, ic, im⟩ := I
 simp only [Ins.val] at HDE1 HDE2
 clear hX1 hzb hI her c0 v0 v3 mp hwd r1 r2 g1 g2 g3
 go_upto_region 8 with fail
 go_cut [13, 14] from 71 to 82 (fun a13 a14 wx => ∃ jb, a13 = .pointer (some ⟨jb, 0, none⟩) ∧ a14 = .int .i64 er ∧ wx.heap[jb]? = some (.cells #[.int .u8 op, .int .i64 ia, .int .i64 ib, .int .i64 ic, .int .i64 im] 23 (0, 0)) ∧ Below X1.heap.size X1 wx)
 case first =>
  go_region_held3 (fun w' => (∀ b o, b < X1.heap.size → w'.cell? ⟨b, o, none⟩ = X1.cell? ⟨b, o, none⟩) ∧ Below X1.heap.size X1 w') ((refine keepsJ ?_; (repeat (first | (with_reducible assumption) | exact Below.refl _ _ | (with_reducible exact Ext.h _) | (with_reducible refine Below.drew ?_) | (with_reducible refine Below.alloc ?_ ?_ _) | (with_reducible refine Below.setCell ?_ ?_ _) | exact Nat.le_refl _ | exact (Ext.h _).size | (exact Below.size (by assumption)) | (simp; done) | (simp; omega))))) (first | (go_at_call 19; first | (with_reducible refine HDE1.out.mono ?_; rintro e' W3 ⟨rfl, hb3⟩) | (go_loud (refine HDE2.out.mono ?_); go_loud (rintro e' W3 ⟨rfl, hk3, hb3⟩); go_loud (have t0 : W3.cell? ⟨X1.heap.size, 0, none⟩ = some (.int .u8 0) := by simp [World.cell?, hk3]); go_loud (have f0 : W3.frozen? ⟨X1.heap.size, 0, none⟩ = false := by simp [World.frozen?, hk3]); go_loud (have t1 : W3.cell? ⟨X1.heap.size, 1, none⟩ = some (.int .i64 0) := by simp [World.cell?, hk3]); go_loud (have f1 : W3.frozen? ⟨X1.heap.size, 1, none⟩ = false := by simp [World.frozen?, hk3]); go_loud (have t2 : W3.cell? ⟨X1.heap.size, 2, none⟩ = some (.int .i64 0) := by simp [World.cell?, hk3]); go_loud (have f2 : W3.frozen? ⟨X1.heap.size, 2, none⟩ = false := by simp [World.frozen?, hk3]); go_loud (have t3 : W3.cell? ⟨X1.heap.size, 3, none⟩ = some (.int .i64 0) := by simp [World.cell?, hk3]); go_loud (have f3 : W3.frozen? ⟨X1.heap.size, 3, none⟩ = false := by simp [World.frozen?, hk3]); go_loud (have t4 : W3.cell? ⟨X1.heap.size, 4, none⟩ = some (.int .i64 0) := by simp [World.cell?, hk3]); go_loud (have f4 : W3.frozen? ⟨X1.heap.size, 4, none⟩ = false := by simp [World.frozen?, hk3]); go_loud (have l3 : X1.heap.size < W3.heap.size := lt_of_blk' hk3))))
  all_goals
   go_wp2_with fail
   go_meet
   case rel => first
    | exact ⟨_, rfl, rfl, heap_setCell_same _ _ _ _ _ _ (heap_setCell_same _ _ _ _ _ _ (heap_setCell_same _ _ _ _ _ _ (heap_setCell_same _ _ _ _ _ _ (heap_setCell_same _ _ _ _ _ _ hk3)))), Below.setCell (Below.setCell (Below.setCell (Below.setCell (Below.setCell hb3 (Nat.le_refl _) _) (Nat.le_refl _) _) (Nat.le_refl _) _) (Nat.le_refl _) _) (Nat.le_refl _) _⟩
    | exact ⟨_, rfl, rfl, heap_alloc_new _ _, Below.alloc hb3 hb3.size _⟩
 case rest =>
  obtain ⟨jb, rfl, rfl, kj, hbc⟩ := hcut
  obtain ⟨X2, hX2⟩ : ∃ X2 : World, X2 = wc := ⟨_, rfl⟩
  subst hX2
  have B2 := Lib.hid (B1.out.trans (hbc.mono B1.out.size))
  have hs2 := hbc.size
  have KR2 := Lib.hid ((hbc.block _ lr1).trans KR1.out)
  have HJ2 := Lib.hid (HJ1.out.later hbc)
  have lr2 : w.heap.size + 1 < X2.heap.size := by omega
  have ls2 := HJ2.out.m.lt
  have ap2 : X2.cell? ⟨sb, 0, none⟩ = some (.int .i64 (p : Int)) := by rw [hbc.cell (p := ⟨sb, 0, none⟩) ls1]; exact ap
  have b3 : X2.cell? ⟨w.heap.size, 3, none⟩ = some (.int .i64 lk) := by rw [hbc.cell (p := ⟨w.heap.size, 3, none⟩) lw1]; exact a3
  have lw2 : w.heap.size < X2.heap.size := by omega
  obtain ⟨j0, j1, j2, j3, j4, lj⟩ := ins_cells kj
  clear kj hbc ac ap a0 a3 g4 g5
  by_cases hez : er = 0
  case neg =>
   have gz : (er != 0) = true := by simpa using hez
   have kr := KR2.out
   clear hez
   go_wp2_with (refine wpList_store_row rfl 80 (.tmp 10) (.tmp 85) rfl (w.heap.size + 1) #[.int .u8 0, .int .i64 0, .int .i64 0, .int .i64 0, .int .i64 0, .int .i64 0, .bool false, .int .i64 0, .int .i32 0] rfl rfl 80 _ kr (by kernel_rfl) rfl (by simp [Value.oneCell']) ?_)
   refine bodyPost_ret (results_cell_tmp (P := Tryd.prog) Tryd.results26 _ _ (w.heap.size + 1) [.int .u8 0, .int .i64 0, .int .i64 0, .int .i64 0, .int .i64 0, .int .i64 0, .bool false, .int .i64 0, .int .i32 0] _ rfl (rangeAt_block (setRow_heap _ _ _ _ _ _ kr)) Tryd.underlying80 rfl (by kernel_rfl)) rfl (key _ _ (below_setRow B2.out (by omega) _) (by first | decide | assumption))
  have gz : (er != 0) = false := by simpa using hez
  have HEZ := Lib.hid hez
  obtain ⟨q, hgq⟩ := HDG.out hez
  have HGQ := Lib.hid hgq
  have wpc : IntKind.i64.wrap ((p : Int) + 1) = (p : Int) + 1 := IntWalk.i64_in _ (by omega)
  clear hgq
  go_upto_region 11 with fail
  clear gz
  go_cut [15] from 86 to 98 (fun a15 wx => ∃ xb, a15 = .pointer (some ⟨xb, 0, none⟩) ∧ X2.heap.size ≤ xb ∧ wx.heap[xb]? = some (.cells (xCells ⟨op, ia, ib, ic, im⟩ (p : Int) false (-1) 0 sb ((p : Int) + 1)) 126 (0, 0)) ∧ Below X2.heap.size X2 wx)
  case first =>
   go_region
   all_goals
    go_wp2_with fail
    go_meet
    case rel => exact ⟨_, rfl, by simp, by first | exact heap_alloc_new _ _ | (rw [World.drew]; exact heap_alloc_new _ _), (Below.drew (Below.refl _ _)).alloc (by simp) _⟩
  case rest =>
   obtain ⟨xb, rfl, hxb, kx, hbc⟩ := hcut
   obtain ⟨X3, hX3⟩ : ∃ X3 : World, X3 = wc := ⟨_, rfl⟩
   subst hX3
   have hs3 := hbc.size
   have B3 := Lib.hid (B2.out.trans (hbc.mono B2.out.size))
   have KR3 := Lib.hid ((hbc.block _ lr2).trans KR2.out)
   have HJ3 := Lib.hid (HJ2.out.later hbc)
   have HXJ := Lib.hid (show ¬ Jb sb s.d sv xb from fun h => by have := HJ2.out.lt h; omega)
   have HPX := Lib.hid (HPO.out.later B3.out)
   have HSX := Lib.hid (show ¬ Sp xb from fun h => by have := HPO.out.old _ h; omega)
   have hxe : xCells ⟨op, ia, ib, ic, im⟩ (p : Int) false (-1) 0 sb ((p : Int) + 1) = xCells ⟨op, ia, ib, ic, im⟩ s.pc false (-1) 0 sb (s.pc + 1) := by rw [HPC.out]
   rw [hxe] at kx
   have c3 : X3.cell? ⟨w.heap.size, 3, none⟩ = some (.int .i64 lk) := by rw [hbc.cell (p := ⟨w.heap.size, 3, none⟩) lw2]; exact b3
   have lw3 : w.heap.size < X3.heap.size := by omega
   have lr3 : w.heap.size + 1 < X3.heap.size := by omega
   have lx3 : xb < X3.heap.size := lt_of_blk' kx
   have HPR := Lib.hid (prepare_any xb sb ⟨op, ia, ib, ic, im⟩ q HGQ.out lk s (by rw [HPC.out]; have := HBAD.out; omega) dl sv sl pv Sp Rp X3 kx HJ3.out HXJ.out (HO.out.below B3.out) HPX.out HSX.out HSJ.out)
   have HHB := Lib.hid hxb
   clear kx hbc b3 j0 j1 j2 j3 j4 ap2 hxe hxb wpc
   go_upto_region 13 with (go_at_call 53; refine HPR.out.mono ?_; rintro e' W4 (⟨fv, er2, hne, rfl, hb4⟩ | ⟨fv, nx, tk, ad, vl, s', dl', sl', rfl, kx4, f4, hrr, hok, hvl, hcm⟩))
   case _ =>
    have gz : (er2 != 0) = true := by simpa using hne
    have kr := (hb4.block _ lr3).trans KR3.out
    go_wp2_with (refine wpList_store_row rfl 80 (.tmp 10) (.tmp 109) rfl (w.heap.size + 1) #[.int .u8 0, .int .i64 0, .int .i64 0, .int .i64 0, .int .i64 0, .int .i64 0, .bool false, .int .i64 0, .int .i32 0] rfl rfl 80 _ kr (by kernel_rfl) rfl (by simp [Value.oneCell']) ?_)
    refine bodyPost_ret (results_cell_tmp (P := Tryd.prog) Tryd.results26 _ _ (w.heap.size + 1) [.int .u8 0, .int .i64 0, .int .i64 0, .int .i64 0, .int .i64 0, .int .i64 0, .bool false, .int .i64 0, .int .i32 0] _ rfl (rangeAt_block (setRow_heap _ _ _ _ _ _ kr)) Tryd.underlying80 rfl (by kernel_rfl)) rfl (key _ _ (below_setRow (B3.out.trans (hb4.mono B3.out.size)) (by omega) _) hne)
   case _ =>
    obtain ⟨fid, caps, rfl, hen, hcl⟩ := hcm
    have HCL := Lib.hid hcl
    have lr4 : w.heap.size + 1 < W4.heap.size := Nat.lt_of_lt_of_le lr3 f4.size
    have lx4 : xb < W4.heap.size := lt_of_blk' kx4
    have hrx : w.heap.size + 1 ≠ xb := by have := HHB.out; omega
    have hrj : ¬ Jb sb s.d sv (w.heap.size + 1) := fun h => by have := HJ.out.lt h; omega
    have HRJ := Lib.hid hrj
    have KR4 := Lib.hid ((f4.block _ lr3 (fun h => by rcases h with h | h; exact hrx h; have := HPO.out.old _ h; omega)).trans KR3.out)
    have KX4 := Lib.hid kx4
    have F4 := Lib.hid ((Fr.of (S := fun k => Jb sb s.d sv k ∨ Sp k) B3.out).since f4 (fun k hk => by rcases hk with rfl | hk; exact .inr (by have := HHB.out; omega); exact .inl (.inr hk)))
    have HR4 := Lib.hid (show Fr (Jb sb s.d sv) w W4 ∨ Rp W4 from hrr.imp (fun h => (Fr.of B3.out).since h (fun k hk => .inr (by have := HHB.out; have h9 : k = xb := hk; omega))) id)
    have HOK := Lib.hid hok
    have HVL := Lib.hid hvl
    have HSP : sb ≠ xb := fun h => HXJ.out (.inl h.symm)
    have HIS := Lib.hid (show insAt cd s.pc = ⟨op, ia, ib, ic, im⟩ by rw [HPC.out]; exact HIA.out)
    clear hrr hok hvl kx4 f4 hcl hrj c3
    go_upto_region 16 with (with_reducible refine HCL.out.mono ?_; rintro e' W5 ⟨rfl, hJ5, f5⟩)
    have kx5 := (f5.block xb lx4 HXJ.out).trans KX4.out
    have kr5 := (f5.block _ lr4 HRJ.out).trans KR4.out
    obtain ⟨z0, z1, z2, z3, z4, z5, z6, z7, z8, z9, z10, -⟩ := x_cells kx5
    have lx5 := lt_of_blk' kx5
    have mp5 := hJ5.m.pc
    have mf5 := hJ5.m.fz 0
    have ls5 := hJ5.m.lt
    have HJ5 := Lib.hid hJ5
    have KX5 := Lib.hid kx5
    have KR5 := Lib.hid kr5
    have HR5 := Lib.hid (HR4.out.imp (fun h => h.trans f5) (fun h => HPO.out.st _ _ _ h f5 (fun k hk h9 => HSJ.out k h9 hk)))
    have F5 := Lib.hid (F4.out.trans (f5.mono fun k _ h => .inl h))
    clear hJ5 kx5 kr5 f5 hen
    go_upto_region 17 with fail
    obtain ⟨W6, hW6⟩ : ∃ W6, W5.setCell ⟨sb, 0, none⟩ (.int .i64 nx) = W6 := ⟨_, rfl⟩
    have f6 : Fr (· = sb) W5 W6 := hW6 ▸ (Fr.refl (· = sb) _).set _ (.inl rfl)
    have HJ6 := Lib.hid (show Job W6 sb { s' with pc := nx } dl' sv sl' from HJ5.out.state (by rw [← hW6]; exact HJ5.out.m.setPc nx) f6 rfl)
    have kx6 := (f6.block xb lx5 (fun h => HSP h.symm)).trans KX5.out
    have kr := (f6.block _ (lt_of_blk' KR5.out) (fun h => HRJ.out (.inl h))).trans KR5.out
    obtain ⟨a0, a1, a2, a3, a4, a5, a6, a7, a8, a9, a10, -⟩ := x_cells kx6
    have lx6 := lt_of_blk' kx6
    have HR6 := Lib.hid (HR5.out.imp (fun h => h.trans (f6.mono fun k _ e => .inl e)) (fun h => HPO.out.st _ _ _ h f6 (fun k hk h9 => HSJ.out k (.inl h9) hk)))
    have F6 := Lib.hid (F5.out.trans (f6.mono fun k _ e => .inl (.inl e)))
    rw [hW6]
    simp only at a0 a1 a2 a3 a4
    rw [HPC.out] at a5
    clear hW6 f6 kx6 z0 z1 z2 z3 z4 z5 z6 z7 z8 z9 z10 mp5 mf5
    go_wp2_with (refine wpList_store_row rfl 80 (.tmp 10) (.tmp 119) rfl (w.heap.size + 1) #[.int .u8 op, .int .i64 ia, .int .i64 ib, .int .i64 ic, .int .i64 im, .int .i64 (p : Int), .bool tk, .int .i64 ad, .int .i32 vl] rfl rfl 80 _ kr (by kernel_rfl) rfl (by simp [Value.oneCell']) ?_)
    refine bodyPost_ret (results_cell_tmp (P := Tryd.prog) Tryd.results26 _ _ (w.heap.size + 1) [.int .u8 op, .int .i64 ia, .int .i64 ib, .int .i64 ic, .int .i64 im, .int .i64 (p : Int), .bool tk, .int .i64 ad, .int .i32 vl] _ rfl (rangeAt_block (setRow_heap _ _ _ _ _ _ kr)) Tryd.underlying80 rfl (by kernel_rfl)) rfl ?_
    have f7 : Fr (· = w.heap.size + 1) W6 (W6.setRow (w.heap.size + 1) #[.int .u8 op, .int .i64 ia, .int .i64 ib, .int .i64 ic, .int .i64 im, .int .i64 (p : Int), .bool tk, .int .i64 ad, .int .i32 vl]) := setRow_fr' _ _ _
    refine .inr ⟨nx, tk, ad, vl, s', dl', sl', HH.out, by rw [HST.out, HPC.out]; exact HBAD.out.1, by rw [HENN.out, HPC.out]; exact HBAD.out.2.1, by rw [HPC.out, Int.toNat_natCast, HER.out]; exact HEZ.out, by rw [HIS.out]; exact HOK.out, by rw [HIS.out]; exact HVL.out, by rw [HIS.out, HPC.out]; rfl, HJ6.out.keep f7 (fun k hk e => ?_), F6.out.since f7 (fun k hk => .inr (by have h9 : k = w.heap.size + 1 := hk; omega)), HR6.out.imp (fun h => h.since f7 (fun k hk => .inr (by have h9 : k = w.heap.size + 1 := hk; omega))) (fun h => HPO.out.st _ _ _ h f7 (fun k hk h9 => by have h8 : k = w.heap.size + 1 := h9; have := HPO.out.old k hk; omega))⟩
    have h6 := HOK.out.dat
    rcases hk with h | h | h
    ·exact HRJ.out (.inl (by rw [← e]; exact h))
    ·exact HRJ.out (.inr (.inl (by rw [← e, ← h6]; exact h)))
    ·exact HRJ.out (.inr (.inr (by rw [← e]; exact h)))

end Go.Proofs.YtebklpnkcicpjaaDoor

namespace Go.Proofs.YtebklpnkcicpjaaDoor
open Go.RowKit
set_option linter.unusedVariables false
set_option linter.unusedSimpArgs false

theorem infoW32 : (Tryd.prog.info? 21).map (fun i => (i.zero, i.size, i.bytes)) = some (some (.int .i32 0), 1, 4) := by kernel_rfl
theorem setRow_same (w : World) (g : Nat) (t : TypeId) (c : Array Value) {old : Array Value} (h : w.heap[g]? = some (.cells old t (0, 0))) : (w.setRow g c).heap[g]? = some (.cells c t (0, 0)) := by
 simp [World.setRow, Array.getElem?_modify, h]
theorem setRow_fr (w : World) (g : Nat) (c : Array Value) : Fr (· = g) w (w.setRow g c) :=
 ⟨rfl, rfl, rfl, by simp [World.setRow], fun k h1 h2 => by simp [World.setRow, Array.getElem?_modify]; intro e; exact absurd e.symm h2⟩
theorem made_row (w : World) (n : Nat) (hn : n ≤ 512) : (w.alloc (.cells (madeCells (Value.int .i32 0).cells (n * 1)) 21)).ownsRow 0 21 1 (.slice (some ⟨w.heap.size, 0, none⟩) n n) n (i32s (List.replicate n 0)) := by
 have hs : madeCells (Value.int .i32 0).cells (n * 1) = (List.replicate n (Value.int .i32 0)).toArray := by
  rw [Nat.mul_one]
  apply Array.ext
  ·simp [madeCells]
  ·intro i h1 h2
   simp [madeCells, Value.cells, Nat.mod_one]
 refine ⟨by simp, .inr ⟨w.heap.size, n, _, rfl, Nat.zero_le _, heap_alloc_new w _, Nat.le_refl _, by unfold maxLen; omega, by rw [hs]; simp, ?_⟩⟩
 rw [hs]
 simp [i32s]
set_option maxRecDepth 20000 in
set_option maxHeartbeats 4000000 in
theorem new_any (cv ev : Value) (sh lk : Int) (ents : List Ent) (k : Nat) (e : Ent) (w : World) (HE : Ents w ev ents) (he : ents[k]? = some e) (h0 : 0 ≤ e.da) (h1 : e.da ≤ 512) :
  Calls Tryd.prog 28 #[.agg #[cv, ev, .int .i64 sh, .int .i64 lk], .int .i64 (k : Int)] w fun x w' => (∃ g, x = .returned (.tuple #[.agg #[.int .i64 e.st, .int .i32 0, .int .i32 0, .int .i32 0, .int .i32 0, .int .i32 0, .int .i32 0, .int .i32 0, .int .i32 0, .int .i32 0, .int .i32 0, .int .i32 0, .int .i32 0, .int .i32 0, .int .i32 0, .int .i32 0, .int .i32 0, .slice (some ⟨g, 0, none⟩) e.da.toNat e.da.toNat, .bool false, .int .i64 (-1)], .int .i64 0]) ∧ w.heap.size ≤ g ∧ w'.ownsRow 0 21 1 (.slice (some ⟨g, 0, none⟩) e.da.toNat e.da.toNat) e.da.toNat (i32s (List.replicate e.da.toNat 0))) ∧ Below w.heap.size w w' := by
 have hk := (List.getElem?_eq_some_iff.1 he).1
 obtain ⟨EA, ecap, hev, he1, he2, hed⟩ := HE.at_
 obtain ⟨eb, eoff, rfl, hbl, hc⟩ := hed (by omega)
 obtain ⟨e0, e1, e2, e3⟩ := hc k e he
 subst hev
 obtain ⟨nm, st, en, da⟩ := e
 simp only at e0 e1 e2 e3 h0 h1 ⊢
 obtain ⟨n, rfl⟩ : ∃ n : Nat, da = (n : Int) := ⟨da.toNat, by omega⟩
 rw [Int.toNat_natCast]
 obtain ⟨W, hW⟩ : ∃ W, (w.alloc (.cells #[cv, .slice (some ⟨eb, eoff, none⟩) ents.length ecap, .int .i64 sh, .int .i64 lk] 38)).alloc (.cells #[.int .i64 0, .int .i32 0, .int .i32 0, .int .i32 0, .int .i32 0, .int .i32 0, .int .i32 0, .int .i32 0, .int .i32 0, .int .i32 0, .int .i32 0, .int .i32 0, .int .i32 0, .int .i32 0, .int .i32 0, .int .i32 0, .int .i32 0, .slice none 0 0, .bool false, .int .i64 0] 34) = W := ⟨_, rfl⟩
 have b0 : Below w.heap.size w W := hW ▸ ((Below.refl _ _).alloc (Nat.le_refl _) _).alloc (by simp) _
 have d1 : decide ((k : Int) < 0) = false := decide_eq_false (by omega)
 have d2 : decide ((ents.length : Int) ≤ (k : Int)) = false := decide_eq_false (by omega)
 have d3 : decide (ents.length ≤ k) = false := decide_eq_false (by omega)
 have d4 : decide ((n : Int) < 0) = false := decide_eq_false (by omega)
 have d5 : decide ((512 : Int) < (n : Int)) = false := decide_eq_false (by omega)
 have d6 : decide (512 < n) = false := decide_eq_false (by omega)
 go_enter Tryd.func28, Tryd.ntmps28
 go_upto_region 1 with fail
 have kS : W.heap[w.heap.size + 1]? = some (.cells #[.int .i64 0, .int .i32 0, .int .i32 0, .int .i32 0, .int .i32 0, .int .i32 0, .int .i32 0, .int .i32 0, .int .i32 0, .int .i32 0, .int .i32 0, .int .i32 0, .int .i32 0, .int .i32 0, .int .i32 0, .int .i32 0, .int .i32 0, .slice none 0 0, .bool false, .int .i64 0] 34) := by rw [← hW]; exact heap_alloc_at _ _ (by simp)
 have kI : W.heap[w.heap.size]? = some (.cells #[cv, .slice (some ⟨eb, eoff, none⟩) ents.length ecap, .int .i64 sh, .int .i64 lk] 38) := by rw [← hW, heap_alloc_old _ _ (by simp)]; exact heap_alloc_new _ _
 have sW : W.heap.size = w.heap.size + 2 := by rw [← hW]; simp
 have y1 : W.cell? ⟨w.heap.size, 1, none⟩ = some (.slice (some ⟨eb, eoff, none⟩) ents.length ecap) := by simp [World.cell?, kI]
 have E0 : W.cell? ⟨eb, eoff + k * 4, none⟩ = some (.string nm) := by rw [b0.cell (p := ⟨eb, _, none⟩) hbl]; exact e0
 have E1 : W.cell? ⟨eb, eoff + k * 4 + 1, none⟩ = some (.int .i64 st) := by rw [b0.cell (p := ⟨eb, _, none⟩) hbl]; exact e1
 have E2 : W.cell? ⟨eb, eoff + k * 4 + 2, none⟩ = some (.int .i64 en) := by rw [b0.cell (p := ⟨eb, _, none⟩) hbl]; exact e2
 have E3 : W.cell? ⟨eb, eoff + k * 4 + 3, none⟩ = some (.int .i64 (n : Int)) := by rw [b0.cell (p := ⟨eb, _, none⟩) hbl]; exact e3
 have leb : eb < W.heap.size := by omega
 have SW := Lib.hid sW
 have lw : w.heap.size < W.heap.size := by omega
 have B0 := Lib.hid b0
 have KS := Lib.hid kS
 have hki : (k : Int) < (ents.length : Int) := by omega
 clear sW hW hed hc e0 e1 e2 e3 HE he kS kI b0
 obtain ⟨X, hX⟩ : ∃ X, W.alloc (.cells #[.string nm, .int .i64 st, .int .i64 en, .int .i64 (n : Int)] 102) = X := ⟨_, rfl⟩
 go_upto_region 4 with fail
 try rw [hX]
 have bX : Below W.heap.size W X := hX ▸ (Below.refl _ _).alloc (Nat.le_refl _) _
 have kX : X.heap[W.heap.size]? = some (.cells #[.string nm, .int .i64 st, .int .i64 en, .int .i64 (n : Int)] 102) := hX ▸ heap_alloc_new _ _
 have sX : X.heap.size = W.heap.size + 1 := by rw [← hX]; simp
 have sW := SW.out
 obtain ⟨xb, hxb⟩ : ∃ xb, W.heap.size = xb := ⟨_, rfl⟩
 obtain ⟨rb, hrb⟩ : ∃ rb, w.heap.size + 1 = rb := ⟨_, rfl⟩
 rw [hxb] at kX sX
 try rw [hxb]
 try rw [hrb]
 rw [hrb] at KS
 obtain ⟨i1, hi, hz0, hz1, hz2⟩ := info_parts infoW32
 have hr := run_make (P := Tryd.prog) X.drew 28 21 i1 _ Tryd.underlying28 hi hz0 .i64 .i64 (n : Int) (n : Int) (by omega) (Int.le_refl _) (by rw [hz2]; omega) (by omega)
 have sXr : xb < X.heap.size ∧ rb < X.heap.size := by omega
 obtain ⟨lx, lr⟩ := sXr
 rw [hz1, Int.toNat_natCast] at hr
 obtain ⟨Z, hZ⟩ : ∃ Z, X.drew.alloc (.cells (madeCells (Value.int .i32 0).cells (n * 1)) 21) = Z := ⟨_, rfl⟩
 have bZ : Below X.heap.size X Z := hZ ▸ ((Below.drew (Below.refl _ _)).alloc (by simp) _)
 have kZ : Z.heap[rb]? = some (.cells #[.int .i64 0, .int .i32 0, .int .i32 0, .int .i32 0, .int .i32 0, .int .i32 0, .int .i32 0, .int .i32 0, .int .i32 0, .int .i32 0, .int .i32 0, .int .i32 0, .int .i32 0, .int .i32 0, .int .i32 0, .int .i32 0, .int .i32 0, .slice none 0 0, .bool false, .int .i64 0] 34) := by rw [bZ.block _ (by omega), bX.block _ (by omega)]; exact KS.out
 have kZx : Z.heap[xb]? = some (.cells #[.string nm, .int .i64 st, .int .i64 en, .int .i64 (n : Int)] 102) := by rw [bZ.block _ (by omega)]; exact kX
 have HRO := Lib.hid (show Z.ownsRow 0 21 1 (.slice (some ⟨X.heap.size, 0, none⟩) n n) n (i32s (List.replicate n 0)) from by rw [← hZ]; exact made_row X.drew n (by omega))
 rw [hZ] at hr
 clear hX hZ
 have lx' : xb < Z.heap.size := by have := bZ.size; omega
 have lr' : rb < Z.heap.size := by have := bZ.size; omega
 have HXS := Lib.hid (show rb < X.heap.size ∧ w.heap.size ≤ rb ∧ W.heap.size ≤ X.heap.size ∧ w.heap.size ≤ W.heap.size from by omega)
 have BX := Lib.hid bX
 have BZ := Lib.hid bZ
 have KZ := Lib.hid kZ
 have q1 : X.cell? ⟨xb, 1, none⟩ = some (.int .i64 st) := by simp [World.cell?, kX]
 have q3 : X.cell? ⟨xb, 3, none⟩ = some (.int .i64 (n : Int)) := by simp [World.cell?, kX]
 have q1' : Z.cell? ⟨xb, 1, none⟩ = some (.int .i64 st) := by simp [World.cell?, kZx]
 obtain ⟨Z2, hZ2⟩ : ∃ Z2, Z.setRow rb #[.int .i64 st, .int .i32 0, .int .i32 0, .int .i32 0, .int .i32 0, .int .i32 0, .int .i32 0, .int .i32 0, .int .i32 0, .int .i32 0, .int .i32 0, .int .i32 0, .int .i32 0, .int .i32 0, .int .i32 0, .int .i32 0, .int .i32 0, .slice (some ⟨X.heap.size, 0, none⟩) n n, .bool false, .int .i64 (-1)] = Z2 := ⟨_, rfl⟩
 have hs1 := run_storeVar_row (P := Tryd.prog) Z rb 34 34 _ #[.int .i64 st, .int .i32 0, .int .i32 0, .int .i32 0, .int .i32 0, .int .i32 0, .int .i32 0, .int .i32 0, .int .i32 0, .int .i32 0, .int .i32 0, .int .i32 0, .int .i32 0, .int .i32 0, .int .i32 0, .int .i32 0, .int .i32 0, .slice (some ⟨X.heap.size, 0, none⟩) n n, .bool false, .int .i64 (-1)] kZ (by kernel_rfl) rfl (by simp [Value.oneCell'])
 have hs2 := run_storeAt_mid (P := Tryd.prog)
 rw [hZ2] at hs1
 obtain ⟨vS, hV⟩ : ∃ vS, Value.agg #[.int .i64 st, .int .i32 0, .int .i32 0, .int .i32 0, .int .i32 0, .int .i32 0, .int .i32 0, .int .i32 0, .int .i32 0, .int .i32 0, .int .i32 0, .int .i32 0, .int .i32 0, .int .i32 0, .int .i32 0, .int .i32 0, .int .i32 0, .slice (some ⟨X.heap.size, 0, none⟩) n n, .bool false, .int .i64 (-1)] = vS := ⟨_, rfl⟩
 have hvc : vS.cells.size = 20 := by rw [← hV]; rfl
 have hs4 : (storeCells ⟨rb, 0, none⟩ vS.cells.toList).run Tryd.prog Z = .ok () Z2 := by
  rw [← hV, ← hZ2]
  exact run_storeCells_from (P := Tryd.prog) rb 34 #[.int .i64 st, .int .i32 0, .int .i32 0, .int .i32 0, .int .i32 0, .int .i32 0, .int .i32 0, .int .i32 0, .int .i32 0, .int .i32 0, .int .i32 0, .int .i32 0, .int .i32 0, .int .i32 0, .int .i32 0, .int .i32 0, .int .i32 0, .slice (some ⟨X.heap.size, 0, none⟩) n n, .bool false, .int .i64 (-1)].toList 0 _ Z kZ rfl (by simp [Value.oneCell'])
 clear hs2 hs1
 unfold Value.cells at hvc hs4
 have kZ2 : Z2.heap[rb]? = some (.cells #[.int .i64 st, .int .i32 0, .int .i32 0, .int .i32 0, .int .i32 0, .int .i32 0, .int .i32 0, .int .i32 0, .int .i32 0, .int .i32 0, .int .i32 0, .int .i32 0, .int .i32 0, .int .i32 0, .int .i32 0, .int .i32 0, .int .i32 0, .slice (some ⟨X.heap.size, 0, none⟩) n n, .bool false, .int .i64 (-1)] 34 (0, 0)) := by rw [← hZ2]; exact setRow_same Z rb _ _ kZ
 have FZ2 := Lib.hid (show Fr (· = rb) Z Z2 from by rw [← hZ2]; exact setRow_fr Z rb _)
 have KZ2 := Lib.hid kZ2
 have z0 : Z2.cell? ⟨rb, 0, none⟩ = some (.int .i64 st) := by simp [World.cell?, kZ2]
 have z1 : Z2.cell? ⟨rb, 1, none⟩ = some (.int .i32 0) := by simp [World.cell?, kZ2]
 have z2 : Z2.cell? ⟨rb, 2, none⟩ = some (.int .i32 0) := by simp [World.cell?, kZ2]
 have z3 : Z2.cell? ⟨rb, 3, none⟩ = some (.int .i32 0) := by simp [World.cell?, kZ2]
 have z4 : Z2.cell? ⟨rb, 4, none⟩ = some (.int .i32 0) := by simp [World.cell?, kZ2]
 have z5 : Z2.cell? ⟨rb, 5, none⟩ = some (.int .i32 0) := by simp [World.cell?, kZ2]
 have z6 : Z2.cell? ⟨rb, 6, none⟩ = some (.int .i32 0) := by simp [World.cell?, kZ2]
 have z7 : Z2.cell? ⟨rb, 7, none⟩ = some (.int .i32 0) := by simp [World.cell?, kZ2]
 have z8 : Z2.cell? ⟨rb, 8, none⟩ = some (.int .i32 0) := by simp [World.cell?, kZ2]
 have z9 : Z2.cell? ⟨rb, 9, none⟩ = some (.int .i32 0) := by simp [World.cell?, kZ2]
 have z10 : Z2.cell? ⟨rb, 10, none⟩ = some (.int .i32 0) := by simp [World.cell?, kZ2]
 have z11 : Z2.cell? ⟨rb, 11, none⟩ = some (.int .i32 0) := by simp [World.cell?, kZ2]
 have z12 : Z2.cell? ⟨rb, 12, none⟩ = some (.int .i32 0) := by simp [World.cell?, kZ2]
 have z13 : Z2.cell? ⟨rb, 13, none⟩ = some (.int .i32 0) := by simp [World.cell?, kZ2]
 have z14 : Z2.cell? ⟨rb, 14, none⟩ = some (.int .i32 0) := by simp [World.cell?, kZ2]
 have z15 : Z2.cell? ⟨rb, 15, none⟩ = some (.int .i32 0) := by simp [World.cell?, kZ2]
 have z16 : Z2.cell? ⟨rb, 16, none⟩ = some (.int .i32 0) := by simp [World.cell?, kZ2]
 have z17 : Z2.cell? ⟨rb, 17, none⟩ = some (.slice (some ⟨X.heap.size, 0, none⟩) n n) := by simp [World.cell?, kZ2]
 have z18 : Z2.cell? ⟨rb, 18, none⟩ = some (.bool false) := by simp [World.cell?, kZ2]
 have z19 : Z2.cell? ⟨rb, 19, none⟩ = some (.int .i64 (-1)) := by simp [World.cell?, kZ2]
 clear kZ2 hZ2 sX sW hxb hrb bX bZ kX kZ kZx E0 E1 E2 E3 y1 hz0 hz1 hz2 hi
 go_upto_region 6 with fail
 go_region
 all_goals
  clear hr hvc hs4 q1 q3 q1'
  have HV := Lib.hid hV
  clear z0 z1 z2 z3 z4 z5 z6 z7 z8 z9 z10 z11 z12 z13 z14 z15 z16 z17 z18 z19
  go_wp2_with fail
  refine bodyPost_ret (results_cell_tmp (P := Tryd.prog) Tryd.results28 _ Z2 rb [.int .i64 st, .int .i32 0, .int .i32 0, .int .i32 0, .int .i32 0, .int .i32 0, .int .i32 0, .int .i32 0, .int .i32 0, .int .i32 0, .int .i32 0, .int .i32 0, .int .i32 0, .int .i32 0, .int .i32 0, .int .i32 0, .int .i32 0, .slice (some ⟨X.heap.size, 0, none⟩) n n, .bool false, .int .i64 (-1)] _ rfl (rangeAt_block KZ2.out) Tryd.underlying34 rfl (by kernel_rfl)) rfl ?_
  refine ⟨⟨X.heap.size, ?_, by have := HXS.out; omega, FZ2.out.own HRO.out (fun q hq e => by have := HXS.out; simp [Value.ownBlock] at hq; omega)⟩, B0.out.trans ((BX.out.mono (by have := HXS.out; omega)).trans ((BZ.out.mono (by have := HXS.out; omega)).trans (FZ2.out.below (by have := HXS.out; have := BZ.out.size; omega) (fun q hq => by have := HXS.out; omega))))⟩
  first | rfl | (rw [← HV.out]) | trace_state

end Go.Proofs.YtebklpnkcicpjaaDoor

namespace Go.Proofs.YtebklpnkcicpjaaDoor
open Go.RowKit
set_option linter.unusedVariables false
set_option linter.unusedSimpArgs false

structure I32s (w : World) (v : Value) (l : List Int) : Prop where
 wd : ∀ x ∈ l, W32 x
 at_ : ∃ A cap, v = .slice A l.length cap ∧ l.length ≤ cap ∧ cap ≤ maxLen ∧ (0 < l.length → ∃ b off, A = some ⟨b, off, none⟩ ∧ b < w.heap.size ∧ ∀ i, i < l.length → w.cell? ⟨b, off + i, none⟩ = some (.int .i32 (l.getD i 0)))
theorem I32s.later {w w' : World} {v : Value} {l : List Int} {S : Nat → Prop} (h : I32s w v l) (f : Fr S w w') (hS : ∀ k, k < w.heap.size → ¬ S k) : I32s w' v l := by
 obtain ⟨A, cap, h1, h2, h3, h4⟩ := h.at_
 refine ⟨h.wd, A, cap, h1, h2, h3, fun h0 => ?_⟩
 obtain ⟨b, off, ha, hlt, hc⟩ := h4 h0
 exact ⟨b, off, ha, Nat.lt_of_lt_of_le hlt f.size, fun i hi => (f.cell _ hlt (hS b hlt)).trans (hc i hi)⟩
theorem I32s.below {w w' : World} {v : Value} {l : List Int} (h : I32s w v l) (hb : Below w.heap.size w w') : I32s w' v l := h.later (S := fun _ => False) (Fr.of hb) (fun _ _ h => h)
theorem addAt' (b off j : Nat) : (⟨b, off, none⟩ : Addr).add j = ⟨b, off + j, none⟩ := by cases j <;> simp [Addr.add]
theorem wpList_copy_words {w : World} {ops : Array Oper} {rest : List Oper} {o : Oper} {a : Act} {Q : Exit → Act → World → Prop} (hgd : o.guard = none) (d s : Operand)
  (ho : o.op = .call { callee := .builtin .copy, args := #[d, s], argTypes := #[28, 28] }) (g n cap : Nat) (ml : List Int) (l : List Int) (sv : Value)
  (hd : a.eval d = .slice (some ⟨g, 0, none⟩) n cap) (hs : a.eval s = sv) (hr : w.ownsRow 0 21 1 (.slice (some ⟨g, 0, none⟩) n cap) n (i32s ml)) (hm : ∀ x ∈ ml, W32 x) (hl : I32s w sv l)
  (h : ∀ (w' : World) (ml' : List Int) (k : Int), ml'.length = ml.length → (∀ x ∈ ml', W32 x) → w'.ownsRow 0 21 1 (.slice (some ⟨g, 0, none⟩) n cap) n (i32s ml') → Fr (· = g) w w' → wpList Tryd.prog ops Q rest (a.put o.dst (.int .i64 k)) w') :
  wpList Tryd.prog ops Q (o :: rest) a w := by
 obtain ⟨A, c, rfl, h1, h2, h3⟩ := hl.at_
 have hml : ml.length = n := by have := hr.1; simpa using this
 obtain ⟨m, hmm⟩ : ∃ m, Nat.min l.length n = m := ⟨_, rfl⟩
 have hmin : m ≤ n := hmm ▸ Nat.min_le_right _ _
 have hmin2 : m ≤ l.length := hmm ▸ Nat.min_le_left _ _
 by_cases h0 : m = 0
 ·refine wpList_copy_nothing hgd d s _ _ ho 21 Tryd.underlying28 (by kernel_rfl) _ _ _ _ _ _ hd hs (by rw [hmm]; exact h0) ?_
  exact h w ml 0 rfl hm hr (Fr.refl _ _)
 ·obtain ⟨b, off, rfl, hb, hc⟩ := h3 (by omega)
  rcases hr.2 with ⟨h, _⟩ | ⟨g', cap', cur, hv, hb0, hg, hn, hcm, hsz, htk⟩
  ·cases h
  ·cases hv
   have hcl : (i32s (l.take m)).length = m := by simp; omega
   refine wpList_copy_own hgd d s _ _ ho 21 Tryd.underlying28 (by kernel_rfl) g 0 n cap ⟨b, off, none⟩ l.length c hd hs cur 21 hg (i32s (l.take m)) (by rw [hcl, hmm]) (fun j v hv => ?_) (by rw [hcl]; omega) (fun v hv => by obtain ⟨x, _, rfl⟩ := List.mem_map.1 hv; rfl) ?_
   ·have hj : j < m := by have := (List.getElem?_eq_some_iff.1 hv).1; omega
    rw [addAt', hc j (by omega), ← hv]
    simp [i32s, List.getElem?_take, hj, List.getElem?_map, List.getD, List.getElem?_eq_getElem (show j < l.length by omega)]
   ·refine h _ (l.take m ++ ml.drop m) _ (by simp; omega) (fun x hx => ?_) ?_ ?_
    ·rcases List.mem_append.1 hx with hx | hx
     ·exact hl.wd x (List.mem_of_mem_take hx)
     ·exact hm x (List.mem_of_mem_drop hx)
    ·refine ⟨by simp; omega, .inr ⟨g, cap, _, rfl, Nat.zero_le _, setRow_heap w g _ _ _ _ hg, hn, hcm, ?_, ?_⟩⟩
     ·simp; omega
     ·simp only [List.take_zero, List.nil_append, Nat.zero_add]
      rw [hcl, List.take_append, hcl, List.take_of_length_le (by rw [hcl]; omega), ← List.drop_take, htk]
      simp [i32s, List.map_drop]
    ·exact ⟨rfl, rfl, rfl, by simp [World.setRow], fun k h1 h2 => setRow_other w g k _ h2⟩

end Go.Proofs.YtebklpnkcicpjaaDoor

namespace Go.Proofs.YtebklpnkcicpjaaDoor
open Go.ChangeShapes Go.WideShapes Go.ChangeAt Go.RowKit
set_option linter.unusedVariables false
set_option linter.unusedSimpArgs false

theorem laidMet_head {P : Program} {x : String × DataW Unit} {r : List (String × DataW Unit)} {W : World} (h : laidMet P (x :: r) W) : laidMet P [x] W := by
 obtain ⟨ps, ⟨g, t, cs, fuel, p, q, hg, ht, hv, hd, hq, rfl⟩, hn, hm⟩ := h
 refine ⟨_, ⟨g, t, cs, fuel, p, [], hg, ht, hv, hd, rfl, rfl⟩, ?_, fun b off hb => hm b off ?_⟩
 ·rw [List.append_nil]
  exact (List.nodup_append.1 hn).1
 ·rw [List.append_nil] at hb
  exact List.mem_append_left _ hb
theorem laidMet_tail {P : Program} {x : String × DataW Unit} {r : List (String × DataW Unit)} {W : World} (h : laidMet P (x :: r) W) : laidMet P r W := by
 obtain ⟨ps, ⟨g, t, cs, fuel, p, q, hg, ht, hv, hd, hq, rfl⟩, hn, hm⟩ := h
 exact ⟨q, hq, (List.nodup_append.1 hn).2.1, fun b off hb => hm b off (List.mem_append_right _ hb)⟩

def opv : List Int := [0, 0, 6, 7, 8, 9, 10, 11, 12, 13, 14, 15, 16, 18, 0, 0, 0, 0, 0, 0, 0, 0, 0, 0, 0, 0, 0, 0, 0, 0]
theorem laid_opv {H : Type} : (Rows.laid_ontime_core_operators : DataW H) = .agg (opv.map fun n => .lit (.int .u8 n)) := by kernel_rfl
def opCells : List Value := opv.map (.int .u8)
theorem ops_of_laid {W : World} (h : laidMet Tryd.prog [("ontime/core.operators", Rows.laid_ontime_core_operators)] W) : W.var? Tryd.prog "ontime/core.operators" = some opCells.toArray := by
 obtain ⟨ps, ⟨g, t, cs, fuel, p, q, hg, ht, hvar, hd, _, _⟩, _⟩ := h
 obtain rfl := Option.some.inj ((show Tryd.prog.globalNamed "ontime/core.operators" = some 1 by kernel_rfl).symm.trans hg)
 obtain rfl := Option.some.inj ((show (Tryd.prog.globals[1]?).map (·.type) = some 149 by kernel_rfl).symm.trans ht)
 rw [hvar]
 congr 1
 obtain ⟨l⟩ := cs
 cases fuel with
 | zero => simp [DataW.trod] at hd
 | succ fuel =>
  rw [DataW.trod_step] at hd
  unfold DataW.trodStep at hd
  have c0 : Tryd.prog.cellsOf 149 = 30 := by kernel_rfl
  have c1 : Tryd.prog.cellsOf 5 = 1 := by kernel_rfl
  simp only [Tryd.underlying149] at hd
  rw [c0, c1] at hd
  split at hd
  ·rename_i hl
   rw [laid_opv] at hd
   simp only [Option.map_eq_some_iff, Prod.mk.injEq, DataW.agg.injEq] at hd
   obtain ⟨xs, hx, e1, e2⟩ := hd
   obtain ⟨l1, l2⟩ := mapM_rows hx
   have hrow : ∀ i r, (opv.map fun n => [Value.int .u8 n])[i]? = some r → (l.drop (i * 1)).take 1 = r := by
    intro i r hr
    rw [List.getElem?_map] at hr
    obtain ⟨f, hf, rfl⟩ := Option.map_eq_some_iff.mp hr
    have hi : i < 30 := by
     have := (List.getElem?_eq_some_iff.mp hf).1
     exact this
    obtain ⟨a, b, ha, hb, hab⟩ := l2 i (by simpa using hi)
    rw [List.getElem?_range hi] at ha
    obtain rfl := Option.some.inj ha
    have hb' : (xs.map (·.1))[i]? = some b.1 := by rw [List.getElem?_map, hb]; rfl
    rw [e1, List.getElem?_map, hf] at hb'
    have hb2 : DataW.lit (.int .u8 f) = b.1 := Option.some.inj hb'
    obtain ⟨z, hz, hzz, _⟩ := DataW.trod_int Tryd.underlying5 hab
    rw [hzz] at hb2
    simp only [DataW.lit.injEq, Lit.int.injEq, true_and] at hb2
    rw [hb2]
    exact hz
   have := chunks_eq 1 (opv.map fun n => [Value.int .u8 n]) l (by rw [show (opv.map fun n => [Value.int .u8 n]).length = 30 from rfl]; exact hl) hrow
   rw [this]
   rfl
  ·cases hd

abbrev LAID2 : List (String × DataW Unit) := [("ontime/isa.formats", Rows.laid_ontime_isa_formats), ("ontime/core.operators", Rows.laid_ontime_core_operators)]
theorem tab_of_laid2 {W : World} (h : laidMet Tryd.prog LAID2 W) : Tab W := tab_of_laid (laidMet_head h)
theorem opv_at : ∀ k, 2 ≤ k → k ≤ 13 → opCells.toArray[k]? = some (.int .u8 (opr (k : Int))) := by
 intro k h1 h2
 have : k = 2 ∨ k = 3 ∨ k = 4 ∨ k = 5 ∨ k = 6 ∨ k = 7 ∨ k = 8 ∨ k = 9 ∨ k = 10 ∨ k = 11 ∨ k = 12 ∨ k = 13 := by omega
 rcases this with rfl | rfl | rfl | rfl | rfl | rfl | rfl | rfl | rfl | rfl | rfl | rfl <;> rfl
theorem optab_of_laid2 {W : World} (h : laidMet Tryd.prog LAID2 W) : OpTab W := by
 have hv := ops_of_laid (laidMet_tail h)
 have hg : Tryd.prog.globalNamed "ontime/core.operators" = some 1 := by kernel_rfl
 have hc : ∀ k, W.cell? ⟨1, k, none⟩ = opCells.toArray[k]? := fun k => World.var?_cell hg hv k
 refine ⟨?_, fun k h1 h2 => (hc k).trans (opv_at k h1 h2)⟩
 have h0 : W.cell? ⟨1, 0, none⟩ = some (.int .u8 0) := by rw [hc 0]; rfl
 exact block_of_cell h0

def layB (c : Array Value) : Obj → Obj
 | .cells _ t frozen => .cells c t frozen
 | o => o
noncomputable def laidWorld2 (os : Os) : World :=
 { World.holding Tryd.prog os ⟨#[], #[], []⟩ with heap := ((World.holding Tryd.prog os ⟨#[], #[], []⟩).heap.modify 0 (layB fmCells.toArray)).modify 1 (layB opCells.toArray) }
theorem laidWorld2_row0 (os : Os) (args : Array Value) : ((laidWorld2 os).forCall (fun _ _ => 0) ⟨#[], args, []⟩).memory.heap[0]? = some (.cells fmCells.toArray 94 (0, 0)) := by kernel_rfl
theorem laidWorld2_row1 (os : Os) (args : Array Value) : ((laidWorld2 os).forCall (fun _ _ => 0) ⟨#[], args, []⟩).memory.heap[1]? = some (.cells opCells.toArray 149 (0, 0)) := by kernel_rfl
set_option maxRecDepth 100000 in
theorem laid_met2 (os : Os) (args : Array Value) : laidMet Tryd.prog LAID2 ((laidWorld2 os).forCall (fun _ _ => 0) ⟨#[], args, []⟩).memory := by
 refine ⟨_, ⟨0, 94, fmCells.toArray, 8, [], _, by kernel_rfl, by kernel_rfl, by kernel_rfl, by kernel_rfl, ⟨1, 149, opCells.toArray, 8, [], [], by kernel_rfl, by kernel_rfl, by kernel_rfl, by kernel_rfl, rfl, rfl⟩, rfl⟩, by decide +kernel, fun b off h => ?_⟩
 have hb : b = 0 ∨ b = 1 := by
  have h' : MemPlace.cell b off ∈ (List.range 180).map (fun i => MemPlace.cell 0 (0 + i)) ++ (List.range 30).map (fun i => MemPlace.cell 1 (0 + i)) := by
   have e : (MemPlace.row ⟨0, 0, none⟩ fmCells.toArray.size ++ [] ++ (MemPlace.row ⟨1, 0, none⟩ opCells.toArray.size ++ [] ++ []) : List MemPlace) = (List.range 180).map (fun i => MemPlace.cell 0 (0 + i)) ++ (List.range 30).map (fun i => MemPlace.cell 1 (0 + i)) := by decide +kernel
   rw [e] at h
   exact h
  rcases List.mem_append.1 h' with h2 | h2
  ·obtain ⟨i, _, e⟩ := List.mem_map.1 h2
   cases e
   exact .inl rfl
  ·obtain ⟨i, _, e⟩ := List.mem_map.1 h2
   cases e
   exact .inr rfl
 rcases hb with rfl | rfl
 ·refine ⟨⟨fmCells.toArray, 94, laidWorld2_row0 os args⟩, fun u v hc => ?_⟩
  simp only [World.cell?, laidWorld2_row0 os args] at hc
  exfalso
  have hm : Value.iface u v ∈ fmCells := List.mem_of_getElem? (by simpa using hc)
  unfold fmCells at hm
  obtain ⟨f, _, hf⟩ := List.mem_flatMap.1 hm
  simp [Fm.cells] at hf
 ·refine ⟨⟨opCells.toArray, 149, laidWorld2_row1 os args⟩, fun u v hc => ?_⟩
  simp only [World.cell?, laidWorld2_row1 os args] at hc
  exfalso
  have hm : Value.iface u v ∈ opCells := List.mem_of_getElem? (by simpa using hc)
  unfold opCells at hm
  obtain ⟨f, _, hf⟩ := List.mem_map.1 hm
  cases hf

theorem i32_in {p : Int} (h : (Lit.int .i32 p).wf = true) : W32 p := by
 simp [Lit.wf] at h
 have e1 : IntKind.i32.min = -2147483648 := by decide
 have e2 : IntKind.i32.max = 2147483647 := by decide
 unfold W32
 omega
set_option maxRecDepth 100000 in
theorem open_i32s {H : Type} {enc : TypeId × Value → H} {w : World} {base : Nat} {spare : Nat → Bool} {held : Bool} {r : Reach} {b0 : Nat} {v : Value} {d : DataW H} {p : List MemPlace} (hv : Value.okWide Tryd.prog w r b0 28 v) (h : DataW.Trod enc Tryd.prog w base spare held 28 v d p) : ∃ l, I32s w v l := by
 obtain ⟨l, ⟨A, cap, rfl, h1, h2, hc⟩, hw⟩ := open_ints_as Tryd.underlying28 Tryd.underlying21 (by kernel_rfl) hv h
 refine ⟨l, fun x hx => i32_in (hw x hx), A, cap, rfl, h1, h2, fun h0 => ?_⟩
 obtain ⟨b, off, rfl, hb, hx⟩ := hc h0
 refine ⟨b, off, rfl, hb, fun i hi => ?_⟩
 obtain ⟨cs, rfl, _, hj⟩ := hx i hi
 simpa using hj 0 (by omega)

end Go.Proofs.YtebklpnkcicpjaaDoor

namespace Go.Proofs.YtebklpnkcicpjaaDoor
open Go.RowKit
set_option linter.unusedVariables false
set_option linter.unusedSimpArgs false

theorem StepOk.next {I : Ins} {lk : Int} {s : St} {dl sl : List Int} {nx : Int} {s' : St} {dl' sl' : List Int} (h : StepOk I lk s dl sl nx s' dl' sl') (hh : s.hal = false) (ho : 0 ≤ I.op) :
  (s'.hal = true ∧ I.op = 1) ∨ (s'.hal = false ∧ I.op ≠ 1 ∧ nx ∈ succI I s.pc ∧ (isBr I.op = false → nx = s.pc + 1)) := by
 have plain : I.op ≠ 1 → isBr I.op = false → s.pc + 1 ∈ succI I s.pc := fun h1 h2 => by
  unfold succI
  unfold isBr at h2
  simp only [Bool.or_eq_false_iff, decide_eq_false_iff_not] at h2
  rw [if_neg h1, if_neg h2.2, if_neg (by omega)]
  simp
 cases h with
 | plain h => exact .inr ⟨hh, by omega, plain (by omega) (by unfold isBr; simp; omega), fun _ => rfl⟩
 | set v h =>
  have : I.op ≠ 1 ∧ ¬ (I.op = 22 ∨ I.op = 23 ∨ I.op = 24) := by rcases h with h | h | h | h | h | h | h | h <;> omega
  exact .inr ⟨hh, this.1, plain this.1 (by unfold isBr; simp; omega), fun _ => rfl⟩
 | st h => exact .inr ⟨hh, by omega, plain (by omega) (by unfold isBr; simp; omega), fun _ => rfl⟩
 | sts h => exact .inr ⟨hh, by omega, plain (by omega) (by unfold isBr; simp; omega), fun _ => rfl⟩
 | br h =>
  have hb := h
  unfold isBr at hb
  simp only [Bool.or_eq_true, decide_eq_true_eq] at hb
  refine .inr ⟨hh, by omega, ?_, fun e => by rw [h] at e; cases e⟩
  unfold succI
  rw [if_neg (by omega)]
  by_cases h24 : I.op = 24
  ·rw [if_pos h24, if_pos (by unfold taken; simp [h24])]
   simp
  ·rw [if_neg h24, if_pos (by omega)]
   split <;> simp
 | lock h => exact .inr ⟨hh, by omega, plain (by omega) (by unfold isBr; simp; omega), fun _ => rfl⟩
 | unlock h => exact .inr ⟨hh, by omega, plain (by omega) (by unfold isBr; simp; omega), fun _ => rfl⟩
 | halt h => exact .inl ⟨rfl, h⟩
section
variable {c : Int → Ins} {st en : Int} {D : List Int}
structure At (c : Int → Ins) (D : List Int) (L : List (Int × Int)) (pc : Int) (b : Nat) : Prop where
 lt : b < L.length
 lo : (L[b]).1 ≤ pc
 hi : pc < (L[b]).2
 mem : pc ∈ D
theorem find_first {L : List (Int × Int)} (h : GInv c st en D L) {b : Nat} (hb : b < L.length) : findB (gBlks c L) (L[b]).1 = some b := by
 have hlo := h.b.lo _ (List.getElem_mem hb)
 refine findB_some (gBlks_at c L hb) ⟨Int.le_refl _, hlo.2.1⟩ (fun y hy => ?_)
 obtain ⟨i, hi, e⟩ := List.getElem_of_mem hy
 rw [List.getElem_take] at e
 have hib : i < b := by simp at hi; omega
 have hiL : i < L.length := by omega
 have hx := gBlks_at c L hiL
 have he : (gBlks c L)[i]? = some y := by rw [List.getElem?_eq_getElem (by rw [gBlks_len]; exact hiL), e]
 rw [hx] at he
 cases he
 rintro ⟨h1, h2⟩
 have := (List.pairwise_iff_getElem.1 h.b.ordd) i b hiL hb hib
 simp only at h1 h2
 omega
theorem At.step {L : List (Int × Int)} (hL : blk c st D (en - st).toNat = L) (h : GInv c st en D L) {pc : Int} {b : Nat} (ha : At c D L pc b) {nx : Int} (ho : (c pc).op ≠ 1) (hn : nx ∈ succI (c pc) pc) (hp : isBr (c pc).op = false → nx = pc + 1) :
  (pc < (L[b]'ha.lt).2 - 1 → nx = pc + 1 ∧ At c D L nx b) ∧
  (pc = (L[b]'ha.lt).2 - 1 → ∃ k : Nat, k < L.length ∧ (L.getD k (0, 0)).1 = nx ∧ findB (gBlks c L) nx = some k ∧ (k : Int) ∈ nextOf c L b ∧ At c D L nx k) := by
 subst hL
 have hlt := ha.lt
 refine ⟨fun hlt' => ?_, fun he => ?_⟩
 ·have hin := h.inn (List.getElem_mem hlt) (x := pc + 1) (by have := ha.lo; omega) (by omega)
  have hbr := hin.2.br
  rw [show pc + 1 - 1 = pc by omega] at hbr
  have e := hp hbr
  subst e
  exact ⟨rfl, hlt, by have := ha.lo; omega, by omega, hin.1⟩
 ·have hn' : nx ∈ succI (c ((blk c st D (en - st).toNat)[b].2 - 1)) ((blk c st D (en - st).toNat)[b].2 - 1) := by rw [← he]; exact hn
  obtain ⟨hD, q, hq, e⟩ := h.succ (List.getElem_mem hlt) hn'
  obtain ⟨k, hk, e2⟩ := List.getElem_of_mem hq
  have e3 : ((blk c st D (en - st).toNat)[k]).1 = nx := by rw [e2]; exact e
  refine ⟨k, hk, by simp [List.getD, List.getElem?_eq_getElem hk, e3], by rw [← e3]; exact find_first h hk, ?_, hk, by rw [e3]; exact Int.le_refl _, by have := h.b.lo _ (List.getElem_mem hk); omega, hD⟩
  unfold nextOf
  rw [mem_nxl]
  refine ⟨nx, ?_, ?_⟩
  ·have hla : lastI (blk c st D (en - st).toNat) b = (blk c st D (en - st).toNat)[b].2 - 1 := by simp [lastI, List.getD, List.getElem?_eq_getElem hlt]
   rw [hla]
   exact hn'
  ·rw [← e3, idx_of h hk]
theorem At.halt {L : List (Int × Int)} (hL : blk c st D (en - st).toNat = L) (h : GInv c st en D L) {pc : Int} {b : Nat} (ha : At c D L pc b) (ho : (c pc).op = 1) : pc = (L[b]'ha.lt).2 - 1 ∧ nextOf c L b = [] := by
 subst hL
 have hlt := ha.lt
 have he : pc = ((blk c st D (en - st).toNat)[b]).2 - 1 := by
  rcases Int.lt_or_le pc (((blk c st D (en - st).toNat)[b]).2 - 1) with h1 | h1
  ·have hin := h.inn (List.getElem_mem hlt) (x := pc + 1) (by have := ha.lo; omega) (by omega)
   have := hin.2.halt
   rw [show pc + 1 - 1 = pc by omega] at this
   exact absurd ho this
  ·have := ha.hi; omega
 exact ⟨he, GInv.halts hlt (by rw [← he]; exact ho)⟩
end

end Go.Proofs.YtebklpnkcicpjaaDoor


