/-
  What is proved here: what Step returns, and what it does to the job.
-/
import Derived.Test.YtfceodpdipniaaaDoorCoStep0
import Derived.Test.YtfceodpdipniaaaDoorRowRes
import Derived.Laws.CopyOwn
namespace Go.Proofs.YtfceodpdipniaaaDoor
open Go.RowKit
set_option linter.unusedVariables false
set_option linter.unusedSimpArgs false

/-- An effect. -/
def effL (I : Ins) (pc : Int) (tk : Bool) (ad vl : Int) : List Value := [.int .u8 I.op, .int .i64 I.a, .int .i64 I.b, .int .i64 I.c, .int .i64 I.imm, .int .i64 pc, .bool tk, .int .i64 ad, .int .i32 vl]
theorem Port.later {w W : World} {pv : Value} {Sp : Nat → Prop} {Rp : World → Prop} (h : Port w pv Sp Rp) (b : Below w.heap.size w W) : Port W pv Sp Rp :=
  ⟨fun k hk => Nat.lt_of_lt_of_le (h.old k hk) b.size, h.st, by
    rcases h.fn with h1 | ⟨fid, caps, h1, h2, h3, h4⟩
    · exact .inl h1
    · exact .inr ⟨fid, caps, h1, h2, h3, fun x W' hW => h4 x W' (b.trans (hW.mono b.size))⟩⟩
theorem setRow_fr' (w : World) (g : Nat) (c : Array Value) : Fr (· = g) w (w.setRow g c) :=
  ⟨rfl, rfl, rfl, by simp [World.setRow], fun k h1 h2 => by simp [World.setRow, Array.getElem?_modify]; intro e; exact absurd e.symm h2⟩
theorem StepOk.dat {I : Ins} {lk : Int} {s : St} {dl sl : List Int} {nx : Int} {s' : St} {dl' sl' : List Int} (h : StepOk I lk s dl sl nx s' dl' sl') : s'.d = s.d := by
  cases h <;> rfl
/-- What Step does. -/
def StepPost (w : World) (sb : Nat) (cd : Nat → Int) (e : Ent) (lk : Int) (s : St) (dl : List Int) (sv : Value) (sl : List Int) (Sp : Nat → Prop) (Rp : World → Prop) (x : Ending) (w' : World) : Prop :=
  (∃ er, er ≠ 0 ∧ x = .returned (.tuple #[.agg #[.int .u8 0, .int .i64 0, .int .i64 0, .int .i64 0, .int .i64 0, .int .i64 0, .bool false, .int .i64 0, .int .i32 0], .int .i64 er]) ∧ Below w.heap.size w w') ∨
  (∃ nx tk ad vl s' dl' sl', s.hal = false ∧ e.st ≤ s.pc ∧ s.pc < e.en ∧ (decI (cd s.pc.toNat)).2 = 0 ∧ StepOk (insAt cd s.pc) lk s dl sl nx s' dl' sl' ∧ ((insAt cd s.pc).op = 27 → vl = reg s (insAt cd s.pc).a) ∧
    x = .returned (.tuple #[.agg (effL (insAt cd s.pc) s.pc tk ad vl).toArray, .int .i64 0]) ∧ Job w' sb { s' with pc := nx } dl' sv sl' ∧ Fr (fun k => Jb sb s.d sv k ∨ Sp k) w w' ∧ (Fr (Jb sb s.d sv) w w' ∨ Rp w'))
set_option maxRecDepth 20000 in
set_option maxHeartbeats 4000000 in
theorem step_any (cv ev : Value) (sh lk : Int) (n : Nat) (cd : Nat → Int) (ents : List Ent) (k : Nat) (e : Ent) (sb : Nat) (s : St) (dl : List Int) (sv : Value) (sl : List Int) (pv : Value) (Sp : Nat → Prop) (Rp : World → Prop) (w : World) (T : Tab w) (OT : OpTab w)
    (HW : WordsN w cv n cd) (hn : n ≤ 1000000) (HE : Ents w ev ents) (he : ents[k]? = some e) (hJ : Job w sb s dl sv sl) (HP : Port w pv Sp Rp) (hsj : ∀ k, Jb sb s.d sv k → ¬ Sp k) :
    Calls Tryd.prog 34 #[.agg #[cv, ev, .int .i64 sh, .int .i64 lk], .int .i64 (k : Int), .pointer (some ⟨sb, 0, none⟩), sv, pv] w (StepPost w sb cd e lk s dl sv sl Sp Rp) := by
  have hk := (List.getElem?_eq_some_iff.1 he).1
  obtain ⟨EA, ecap, hev, he1, he2, hed⟩ := HE.at_
  obtain ⟨eb, eoff, rfl, hbl, hc⟩ := hed (by omega)
  obtain ⟨A, cap, hcv, hc1, hc2, hcd⟩ := HW.at_
  have HWH := Lib.hid HW
  have HEH := Lib.hid HE
  have HT := Lib.hid T
  have HO := Lib.hid OT
  have HJ := Lib.hid hJ
  have HEN := Lib.hid he
  have HPO := Lib.hid HP
  have HSJ := Lib.hid hsj
  have h63 : ents.length ≤ 2 ^ 63 - 1 := by unfold maxLen at he2; omega
  subst hcv hev
  obtain ⟨W, hW⟩ : ∃ W, (w.alloc (.cells #[.slice A n cap, .slice (some ⟨eb, eoff, none⟩) ents.length ecap, .int .i64 sh, .int .i64 lk] 25)).alloc (.cells #[.int .u8 0, .int .i64 0, .int .i64 0, .int .i64 0, .int .i64 0, .int .i64 0, .bool false, .int .i64 0, .int .i32 0] 82) = W := ⟨_, rfl⟩
  have b0 : Below w.heap.size w W := hW ▸ ((Below.refl _ _).alloc (Nat.le_refl _) _).alloc (by simp) _
  have kI : W.heap[w.heap.size]? = some (.cells #[.slice A n cap, .slice (some ⟨eb, eoff, none⟩) ents.length ecap, .int .i64 sh, .int .i64 lk] 25) := by rw [← hW, heap_alloc_old _ _ (by simp)]; exact heap_alloc_new _ _
  have kR : W.heap[w.heap.size + 1]? = some (.cells #[.int .u8 0, .int .i64 0, .int .i64 0, .int .i64 0, .int .i64 0, .int .i64 0, .bool false, .int .i64 0, .int .i32 0] 82) := by rw [← hW]; exact heap_alloc_at _ _ (by simp)
  have y0 : W.cell? ⟨w.heap.size, 0, none⟩ = some (.slice A n cap) := by simp [World.cell?, kI]
  have y1 : W.cell? ⟨w.heap.size, 1, none⟩ = some (.slice (some ⟨eb, eoff, none⟩) ents.length ecap) := by simp [World.cell?, kI]
  have y2 : W.cell? ⟨w.heap.size, 2, none⟩ = some (.int .i64 sh) := by simp [World.cell?, kI]
  have y3 : W.cell? ⟨w.heap.size, 3, none⟩ = some (.int .i64 lk) := by simp [World.cell?, kI]
  have HJW := Lib.hid (hJ.later b0)
  have B0 := Lib.hid b0
  have KI := Lib.hid kI
  have KR := Lib.hid kR
  have lw : w.heap.size < W.heap.size := lt_of_blk' kI
  have lr : w.heap.size + 1 < W.heap.size := lt_of_blk' kR
  have lsb := HJW.out.m.lt
  have mh := HJW.out.m.hal
  have HFI := Lib.hid (show Calls Tryd.prog 56 #[.agg #[.slice A n cap, .slice (some ⟨eb, eoff, none⟩) ents.length ecap, .int .i64 sh, .int .i64 lk], .int .i64 (k : Int), .pointer (some ⟨sb, 0, none⟩)] W fun x w' => x = .returned (.bool (fitsB ents lk k s dl.length)) ∧ ∃ y : Ext W, y.w = w' from (fits_any _ _ sh lk ents k e sb s dl sv sl W (HEH.out.below b0) HEN.out HJW.out).mono fun x w' ⟨h1, h2⟩ => ⟨h1, ⟨w', h2⟩, rfl⟩)
  obtain ⟨fb, hfb⟩ : ∃ fb, fitsB ents lk k s dl.length = fb := ⟨_, rfl⟩
  rw [hfb] at HFI
  obtain ⟨hal, hhal⟩ : ∃ hal, s.hal = hal := ⟨_, rfl⟩
  rw [hhal] at mh
  have HH := Lib.hid hhal
  have d1 : decide ((k : Int) < 0) = false := decide_eq_false (by omega)
  have d2 : decide ((ents.length : Int) ≤ (k : Int)) = false := decide_eq_false (by omega)
  have d3 : decide (ents.length ≤ k) = false := decide_eq_false (by omega)
  have hki : (k : Int) < (ents.length : Int) := by omega
  clear HW HE T OT hJ he HP hsj hed hc hcd kI kR b0 hfb hhal
  go_enter Tryd.func34, Tryd.ntmps34
  go_upto_region 3 with fail
  clear hW
  have key : ∀ (W' : World) (er : Int), Below w.heap.size w W' → er ≠ 0 → StepPost w sb cd e lk s dl sv sl Sp Rp (.returned (.tuple #[.agg #[.int .u8 0, .int .i64 0, .int .i64 0, .int .i64 0, .int .i64 0, .int .i64 0, .bool false, .int .i64 0, .int .i32 0], .int .i64 er])) W' := fun W' er h1 h2 => .inl ⟨er, h2, rfl, h1⟩
  by_cases hf : fb = true ∧ hal = false
  case neg =>
    have hf' : fb = false ∨ (fb = true ∧ hal = true) := by cases fb <;> cases hal <;> simp_all
    clear hf
    rcases hf' with rfl | ⟨rfl, rfl⟩
    all_goals
      go_upto_region 4 with (go_at_call 56; refine HFI.out.mono ?_; rintro e' w' ⟨rfl, y, rfl⟩)
      have kr := (y.h.block _ lr).trans KR.out
      go_wp2_with (refine wpList_store_row rfl 82 (.tmp 10) (.tmp 31) rfl (w.heap.size + 1) #[.int .u8 0, .int .i64 0, .int .i64 0, .int .i64 0, .int .i64 0, .int .i64 0, .bool false, .int .i64 0, .int .i32 0] rfl rfl 82 _ kr (by kernel_rfl) rfl (by simp [Value.oneCell']) ?_)
      refine bodyPost_ret (results_cell_tmp (P := Tryd.prog) Tryd.results34 _ _ (w.heap.size + 1) [.int .u8 0, .int .i64 0, .int .i64 0, .int .i64 0, .int .i64 0, .int .i64 0, .bool false, .int .i64 0, .int .i32 0] _ rfl (rangeAt_block (setRow_heap _ _ _ _ _ _ kr)) Tryd.underlying82 rfl (by kernel_rfl)) rfl (key _ _ (below_setRow (Ext.below B0.out B0.out.size y) (by omega) _) (by first | decide | assumption))
  obtain ⟨rfl, rfl⟩ := hf
  go_upto_region 5 with (go_at_call 56; refine HFI.out.mono ?_; rintro e' w' ⟨rfl, y, rfl⟩)
  obtain ⟨Y, hY⟩ : ∃ Y, y.w = Y := ⟨_, rfl⟩
  have hyb := y.h
  rw [hY] at hyb ⊢
  have hys := hyb.size
  have BY := Lib.hid (B0.out.trans (hyb.mono B0.out.size))
  have KRY := Lib.hid ((hyb.block _ lr).trans KR.out)
  have HJY := Lib.hid (HJW.out.later hyb)
  have YY := Lib.hid hyb
  have u0 : Y.cell? ⟨w.heap.size, 0, none⟩ = some (.slice A n cap) := by rw [hyb.cell (p := ⟨w.heap.size, 0, none⟩) lw]; exact y0
  have u1 : Y.cell? ⟨w.heap.size, 1, none⟩ = some (.slice (some ⟨eb, eoff, none⟩) ents.length ecap) := by rw [hyb.cell (p := ⟨w.heap.size, 1, none⟩) lw]; exact y1
  have u3 : Y.cell? ⟨w.heap.size, 3, none⟩ = some (.int .i64 lk) := by rw [hyb.cell (p := ⟨w.heap.size, 3, none⟩) lw]; exact y3
  obtain ⟨e2, eb', eoff', he2', hea, hbl2, m0, m1, m2, m3⟩ := HEH.out.cells BY.out hk
  obtain rfl : e = e2 := by have h := HEN.out; rw [h] at he2'; exact Option.some.inj he2'
  cases hea
  have leb : eb < Y.heap.size := by have := BY.out.size; omega
  have lwy : w.heap.size < Y.heap.size := by omega
  have lry : w.heap.size + 1 < Y.heap.size := by omega
  obtain ⟨st, hst⟩ : ∃ st, e.st = st := ⟨_, rfl⟩
  obtain ⟨en, hen⟩ : ∃ en, e.en = en := ⟨_, rfl⟩
  rw [hst] at m1
  rw [hen] at m2
  have HST := Lib.hid hst
  have HENN := Lib.hid hen
  obtain ⟨X, hX⟩ : ∃ X, Y.alloc (.cells #[.string e.nm, .int .i64 st, .int .i64 en, .int .i64 e.da] 39) = X := ⟨_, rfl⟩
  have bX : Below Y.heap.size Y X := hX ▸ (Below.refl _ _).alloc (Nat.le_refl _) _
  have kX : X.heap[Y.heap.size]? = some (.cells #[.string e.nm, .int .i64 st, .int .i64 en, .int .i64 e.da] 39) := hX ▸ heap_alloc_new _ _
  have sX : X.heap.size = Y.heap.size + 1 := by rw [← hX]; simp
  clear hY hyb y0 y1 y2 y3 he2' hst hen mh HFI
  go_upto_region 6 with fail
  try rw [hX]
  obtain ⟨qb, hqb⟩ : ∃ qb, Y.heap.size = qb := ⟨_, rfl⟩
  rw [hqb] at kX sX
  try rw [hqb]
  have r1 : X.cell? ⟨qb, 1, none⟩ = some (.int .i64 st) := by simp [World.cell?, kX]
  have r2 : X.cell? ⟨qb, 2, none⟩ = some (.int .i64 en) := by simp [World.cell?, kX]
  have v0 : X.cell? ⟨w.heap.size, 0, none⟩ = some (.slice A n cap) := by rw [bX.cell (p := ⟨w.heap.size, 0, none⟩) lwy]; exact u0
  have v3 : X.cell? ⟨w.heap.size, 3, none⟩ = some (.int .i64 lk) := by rw [bX.cell (p := ⟨w.heap.size, 3, none⟩) lwy]; exact u3
  have HJX := Lib.hid (HJY.out.later bX)
  have BX := Lib.hid (BY.out.trans (bX.mono (by omega)))
  have KRX := Lib.hid ((bX.block _ lry).trans KRY.out)
  have KQ := Lib.hid kX
  have lqx : qb < X.heap.size := by omega
  have lwx : w.heap.size < X.heap.size := by omega
  have lrx : w.heap.size + 1 < X.heap.size := by omega
  have lsx := HJX.out.m.lt
  have mp := HJX.out.m.pc
  obtain ⟨pc, hpc⟩ : ∃ pc, s.pc = pc := ⟨_, rfl⟩
  rw [hpc] at mp
  have HPC := Lib.hid hpc
  clear hX bX kX sX u0 u1 u3 m0 m1 m2 m3 hpc hqb
  have hlc := HWH.out
  by_cases hbad : st ≤ pc ∧ pc < en ∧ 0 ≤ pc ∧ pc < (n : Int)
  case neg =>
    have hsp : (pc < st) ∨ (¬ pc < st ∧ en ≤ pc) ∨ (¬ pc < st ∧ ¬ en ≤ pc ∧ pc < 0) ∨ (¬ pc < st ∧ ¬ en ≤ pc ∧ ¬ pc < 0 ∧ (n : Int) ≤ pc) := by omega
    clear hbad hlc
    rcases hsp with c1 | ⟨c1, c2⟩ | ⟨c1, c2, c3⟩ | ⟨c1, c2, c3, c4⟩
    all_goals
      try (first | have g1 := decide_eq_false c1 | have g1 := decide_eq_true c1)
      try (first | have g2 := decide_eq_false c2 | have g2 := decide_eq_true c2)
      try (first | have g3 := decide_eq_false c3 | have g3 := decide_eq_true c3)
      try (have g4 := decide_eq_true c4)
      clear c1
      try clear c2
      try clear c3
      try clear c4
      refine wp_region_ext (by kernel_rfl) (by kernel_rfl) ?_
      repeat (go_big_quiet_step (fail))
      refine wpQuiet_nil ?_
      rintro _ ⟨z, rfl⟩
      have kr := (z.h.block _ lrx).trans KRX.out
      go_upto_region 7 with fail
      go_wp2_with (refine wpList_store_row rfl 82 (.tmp 10) (.tmp 70) rfl (w.heap.size + 1) #[.int .u8 0, .int .i64 0, .int .i64 0, .int .i64 0, .int .i64 0, .int .i64 0, .bool false, .int .i64 0, .int .i32 0] rfl rfl 82 _ kr (by kernel_rfl) rfl (by simp [Value.oneCell']) ?_)
      refine bodyPost_ret (results_cell_tmp (P := Tryd.prog) Tryd.results34 _ _ (w.heap.size + 1) [.int .u8 0, .int .i64 0, .int .i64 0, .int .i64 0, .int .i64 0, .int .i64 0, .bool false, .int .i64 0, .int .i32 0] _ rfl (rangeAt_block (setRow_heap _ _ _ _ _ _ kr)) Tryd.underlying82 rfl (by kernel_rfl)) rfl (key _ _ (below_setRow (Ext.below BX.out BX.out.size z) (by omega) _) (by first | decide | assumption))
  obtain ⟨p, hp⟩ : ∃ p : Nat, pc = (p : Int) := ⟨pc.toNat, by omega⟩
  subst hp
  have HBAD := Lib.hid hbad
  have hpn : p < n := by omega
  have g1 : decide ((p : Int) < st) = false := decide_eq_false (by omega)
  have g2 : decide (en ≤ (p : Int)) = false := decide_eq_false (by omega)
  have g3 : decide ((p : Int) < 0) = false := decide_eq_false (by omega)
  have g4 : decide ((n : Int) ≤ (p : Int)) = false := decide_eq_false (by omega)
  have g5 : decide (n ≤ p) = false := decide_eq_false (by omega)
  obtain ⟨A2, cap2, hA2, _, _, hcd2⟩ := hlc.at_
  cases hA2
  obtain ⟨cb, coff, hAe, hcb, hcc⟩ := hcd2 (by omega)
  have c0 : X.cell? ⟨cb, coff + p, none⟩ = some (.int .u32 (cd p)) := by rw [BX.out.cell (p := ⟨cb, coff + p, none⟩) hcb]; exact hcc p hpn
  have hwd := hlc.wd p hpn
  subst hAe
  have lcx : cb < X.heap.size := Nat.lt_of_lt_of_le hcb BX.out.size
  have hpi : (p : Int) < (n : Int) := by omega
  clear hbad hlc hcc hcd2
  refine wp_region_ext (by kernel_rfl) (by kernel_rfl) ?_
  repeat (go_big_quiet_step (fail))
  refine wpQuiet_nil ?_
  rintro _ ⟨z, rfl⟩
  obtain ⟨X1, hX1⟩ : ∃ X1, z.w = X1 := ⟨_, rfl⟩
  have hzb := z.h
  rw [hX1] at hzb ⊢
  have hzs := hzb.size
  have a0 : X1.cell? ⟨w.heap.size, 0, none⟩ = some (.slice (some ⟨cb, coff, none⟩) n cap) := by rw [hzb.cell (p := ⟨w.heap.size, 0, none⟩) lwx]; exact v0
  have a3 : X1.cell? ⟨w.heap.size, 3, none⟩ = some (.int .i64 lk) := by rw [hzb.cell (p := ⟨w.heap.size, 3, none⟩) lwx]; exact v3
  have ap : X1.cell? ⟨sb, 0, none⟩ = some (.int .i64 (p : Int)) := by rw [hzb.cell (p := ⟨sb, 0, none⟩) lsx]; exact mp
  have ac : X1.cell? ⟨cb, coff + p, none⟩ = some (.int .u32 (cd p)) := by rw [hzb.cell (p := ⟨cb, coff + p, none⟩) lcx]; exact c0
  have HJ1 := Lib.hid (HJX.out.later hzb)
  have B1 := Lib.hid (BX.out.trans (hzb.mono BX.out.size))
  have KR1 := Lib.hid ((hzb.block _ lrx).trans KRX.out)
  have lw1 : w.heap.size < X1.heap.size := by omega
  have lr1 : w.heap.size + 1 < X1.heap.size := by omega
  have ls1 := HJ1.out.m.lt
  have lc1 : cb < X1.heap.size := by omega
  have HDE := Lib.hid (show ∀ W', Below X1.heap.size X1 W' → Calls Tryd.prog 23 #[.int .u32 (cd p)] W' fun x w' => x = .returned (.tuple #[(decI (cd p)).1.val, .int .i64 (decI (cd p)).2]) ∧ Below X1.heap.size X1 w' from fun W' hW' => (decode_any (cd p) hwd.1 hwd.2 W' (HT.out.below (B1.out.trans (hW'.mono B1.out.size)))).mono fun x w' ⟨h1, h2⟩ => ⟨h1, hW'.trans (h2.mono hW'.size)⟩)
  have HDE1 := Lib.hid (HDE.out X1.drew (Below.drew (Below.refl _ _)))
  have HDE2 := Lib.hid (show Calls Tryd.prog 23 #[.int .u32 (cd p)] ((X1.alloc (.cells #[.int .u8 0, .int .i64 0, .int .i64 0, .int .i64 0, .int .i64 0] 53)).drew) fun x w' => x = .returned (.tuple #[(decI (cd p)).1.val, .int .i64 (decI (cd p)).2]) ∧ w'.heap[X1.heap.size]? = some (.cells #[.int .u8 0, .int .i64 0, .int .i64 0, .int .i64 0, .int .i64 0] 53 (0, 0)) ∧ Below X1.heap.size X1 w' from (decode_any (cd p) hwd.1 hwd.2 _ (HT.out.below (B1.out.trans ((Below.drew ((Below.refl _ _).alloc (Nat.le_refl _) _)).mono B1.out.size)))).mono fun x w' ⟨h1, h2⟩ => ⟨h1, (h2.block X1.heap.size (by simp)).trans (heap_alloc_new X1 _), (Below.drew ((Below.refl _ _).alloc (Nat.le_refl _) _)).trans (h2.mono (by simp))⟩)
  have HIA := Lib.hid (show insAt cd (p : Int) = (decI (cd p)).1 by simp [insAt])
  obtain ⟨I, hI⟩ : ∃ I, (decI (cd p)).1 = I := ⟨_, rfl⟩
  obtain ⟨er, her⟩ : ∃ er, (decI (cd p)).2 = er := ⟨_, rfl⟩
  rw [hI] at HIA HDE1 HDE2
  rw [her] at HDE1 HDE2
  have HDG := Lib.hid (show er = 0 → ∃ q, Good I q from fun h => by obtain ⟨q, hq, _⟩ := decI_good hwd.1 (her.trans h); rw [hI] at hq; exact ⟨q, hq⟩)
  have HER := Lib.hid her
  obtain ⟨op, ia, ib, ic, im⟩ := I
  simp only [Ins.val] at HDE1 HDE2
  clear hX1 hzb hI her c0 v0 v3 mp hwd r1 r2 g1 g2 g3
  go_upto_region 8 with fail
  go_cut [13, 14] from 71 to 82 (fun a13 a14 wx => ∃ jb, a13 = .pointer (some ⟨jb, 0, none⟩) ∧ a14 = .int .i64 er ∧ wx.heap[jb]? = some (.cells #[.int .u8 op, .int .i64 ia, .int .i64 ib, .int .i64 ic, .int .i64 im] 53 (0, 0)) ∧ Below X1.heap.size X1 wx)
  case first =>
    go_region_held3 (fun w' => (∀ b o, b < X1.heap.size → w'.cell? ⟨b, o, none⟩ = X1.cell? ⟨b, o, none⟩) ∧ Below X1.heap.size X1 w') ((refine keepsJ ?_; (repeat (first | (with_reducible assumption) | exact Below.refl _ _ | (with_reducible exact Ext.h _) | (with_reducible refine Below.drew ?_) | (with_reducible refine Below.alloc ?_ ?_ _) | (with_reducible refine Below.setCell ?_ ?_ _) | exact Nat.le_refl _ | exact (Ext.h _).size | (exact Below.size (by assumption)) | (simp; done) | (simp; omega))))) (first | (go_at_call 23; first | (with_reducible refine HDE1.out.mono ?_; rintro e' W3 ⟨rfl, hb3⟩) | (go_loud (refine HDE2.out.mono ?_); go_loud (rintro e' W3 ⟨rfl, hk3, hb3⟩); go_loud (have t0 : W3.cell? ⟨X1.heap.size, 0, none⟩ = some (.int .u8 0) := by simp [World.cell?, hk3]); go_loud (have f0 : W3.frozen? ⟨X1.heap.size, 0, none⟩ = false := by simp [World.frozen?, hk3]); go_loud (have t1 : W3.cell? ⟨X1.heap.size, 1, none⟩ = some (.int .i64 0) := by simp [World.cell?, hk3]); go_loud (have f1 : W3.frozen? ⟨X1.heap.size, 1, none⟩ = false := by simp [World.frozen?, hk3]); go_loud (have t2 : W3.cell? ⟨X1.heap.size, 2, none⟩ = some (.int .i64 0) := by simp [World.cell?, hk3]); go_loud (have f2 : W3.frozen? ⟨X1.heap.size, 2, none⟩ = false := by simp [World.frozen?, hk3]); go_loud (have t3 : W3.cell? ⟨X1.heap.size, 3, none⟩ = some (.int .i64 0) := by simp [World.cell?, hk3]); go_loud (have f3 : W3.frozen? ⟨X1.heap.size, 3, none⟩ = false := by simp [World.frozen?, hk3]); go_loud (have t4 : W3.cell? ⟨X1.heap.size, 4, none⟩ = some (.int .i64 0) := by simp [World.cell?, hk3]); go_loud (have f4 : W3.frozen? ⟨X1.heap.size, 4, none⟩ = false := by simp [World.frozen?, hk3]); go_loud (have l3 : X1.heap.size < W3.heap.size := lt_of_blk' hk3))))
    all_goals
      go_wp2_with fail
      go_meet
      case rel => first
        | exact ⟨_, rfl, rfl, heap_setCell_same _ _ _ _ _ _ (heap_setCell_same _ _ _ _ _ _ (heap_setCell_same _ _ _ _ _ _ (heap_setCell_same _ _ _ _ _ _ (heap_setCell_same _ _ _ _ _ _ hk3)))), Below.setCell (Below.setCell (Below.setCell (Below.setCell (Below.setCell hb3 (Nat.le_refl _) _) (Nat.le_refl _) _) (Nat.le_refl _) _) (Nat.le_refl _) _) (Nat.le_refl _) _⟩
        | exact ⟨_, rfl, rfl, heap_alloc_new _ _, Below.alloc hb3 hb3.size _⟩
  case rest =>
    obtain ⟨jb, rfl, rfl, kj, hbc⟩ := hcut
    obtain ⟨X2, hX2⟩ : ∃ X2 : World, X2 = wc := ⟨_, rfl⟩
    subst hX2
    have B2 := Lib.hid (B1.out.trans (hbc.mono B1.out.size))
    have hs2 := hbc.size
    have KR2 := Lib.hid ((hbc.block _ lr1).trans KR1.out)
    have HJ2 := Lib.hid (HJ1.out.later hbc)
    have lr2 : w.heap.size + 1 < X2.heap.size := by omega
    have ls2 := HJ2.out.m.lt
    have ap2 : X2.cell? ⟨sb, 0, none⟩ = some (.int .i64 (p : Int)) := by rw [hbc.cell (p := ⟨sb, 0, none⟩) ls1]; exact ap
    have b3 : X2.cell? ⟨w.heap.size, 3, none⟩ = some (.int .i64 lk) := by rw [hbc.cell (p := ⟨w.heap.size, 3, none⟩) lw1]; exact a3
    have lw2 : w.heap.size < X2.heap.size := by omega
    obtain ⟨j0, j1, j2, j3, j4, lj⟩ := ins_cells kj
    clear kj hbc ac ap a0 a3 g4 g5
    by_cases hez : er = 0
    case neg =>
      have gz : (er != 0) = true := by simpa using hez
      have kr := KR2.out
      clear hez
      go_wp2_with (refine wpList_store_row rfl 82 (.tmp 10) (.tmp 85) rfl (w.heap.size + 1) #[.int .u8 0, .int .i64 0, .int .i64 0, .int .i64 0, .int .i64 0, .int .i64 0, .bool false, .int .i64 0, .int .i32 0] rfl rfl 82 _ kr (by kernel_rfl) rfl (by simp [Value.oneCell']) ?_)
      refine bodyPost_ret (results_cell_tmp (P := Tryd.prog) Tryd.results34 _ _ (w.heap.size + 1) [.int .u8 0, .int .i64 0, .int .i64 0, .int .i64 0, .int .i64 0, .int .i64 0, .bool false, .int .i64 0, .int .i32 0] _ rfl (rangeAt_block (setRow_heap _ _ _ _ _ _ kr)) Tryd.underlying82 rfl (by kernel_rfl)) rfl (key _ _ (below_setRow B2.out (by omega) _) (by first | decide | assumption))
    have gz : (er != 0) = false := by simpa using hez
    have HEZ := Lib.hid hez
    obtain ⟨q, hgq⟩ := HDG.out hez
    have HGQ := Lib.hid hgq
    have wpc : IntKind.i64.wrap ((p : Int) + 1) = (p : Int) + 1 := IntWalk.i64_in _ (by omega)
    clear hgq
    go_upto_region 11 with fail
    clear gz
    go_cut [15] from 86 to 98 (fun a15 wx => ∃ xb, a15 = .pointer (some ⟨xb, 0, none⟩) ∧ X2.heap.size ≤ xb ∧ wx.heap[xb]? = some (.cells (xCells ⟨op, ia, ib, ic, im⟩ (p : Int) false (-1) 0 sb ((p : Int) + 1)) 119 (0, 0)) ∧ Below X2.heap.size X2 wx)
    case first =>
      go_region
      all_goals
        go_wp2_with fail
        go_meet
        case rel => exact ⟨_, rfl, by simp, by first | exact heap_alloc_new _ _ | (rw [World.drew]; exact heap_alloc_new _ _), (Below.drew (Below.refl _ _)).alloc (by simp) _⟩
    case rest =>
      obtain ⟨xb, rfl, hxb, kx, hbc⟩ := hcut
      obtain ⟨X3, hX3⟩ : ∃ X3 : World, X3 = wc := ⟨_, rfl⟩
      subst hX3
      have hs3 := hbc.size
      have B3 := Lib.hid (B2.out.trans (hbc.mono B2.out.size))
      have KR3 := Lib.hid ((hbc.block _ lr2).trans KR2.out)
      have HJ3 := Lib.hid (HJ2.out.later hbc)
      have HXJ := Lib.hid (show ¬ Jb sb s.d sv xb from fun h => by have := HJ2.out.lt h; omega)
      have HPX := Lib.hid (HPO.out.later B3.out)
      have HSX := Lib.hid (show ¬ Sp xb from fun h => by have := HPO.out.old _ h; omega)
      have hxe : xCells ⟨op, ia, ib, ic, im⟩ (p : Int) false (-1) 0 sb ((p : Int) + 1) = xCells ⟨op, ia, ib, ic, im⟩ s.pc false (-1) 0 sb (s.pc + 1) := by rw [HPC.out]
      rw [hxe] at kx
      have c3 : X3.cell? ⟨w.heap.size, 3, none⟩ = some (.int .i64 lk) := by rw [hbc.cell (p := ⟨w.heap.size, 3, none⟩) lw2]; exact b3
      have lw3 : w.heap.size < X3.heap.size := by omega
      have lr3 : w.heap.size + 1 < X3.heap.size := by omega
      have lx3 : xb < X3.heap.size := lt_of_blk' kx
      have HPR := Lib.hid (prepare_any xb sb ⟨op, ia, ib, ic, im⟩ q HGQ.out lk s (by rw [HPC.out]; have := HBAD.out; omega) dl sv sl pv Sp Rp X3 kx HJ3.out HXJ.out (HO.out.below B3.out) HPX.out HSX.out HSJ.out)
      have HHB := Lib.hid hxb
      clear kx hbc b3 j0 j1 j2 j3 j4 ap2 hxe hxb wpc
      go_upto_region 13 with (go_at_call 57; refine HPR.out.mono ?_; rintro e' W4 (⟨fv, er2, hne, rfl, hb4⟩ | ⟨fv, nx, tk, ad, vl, s', dl', sl', rfl, kx4, f4, hrr, hok, hvl, hcm⟩))
      case _ =>
        have gz : (er2 != 0) = true := by simpa using hne
        have kr := (hb4.block _ lr3).trans KR3.out
        go_wp2_with (refine wpList_store_row rfl 82 (.tmp 10) (.tmp 109) rfl (w.heap.size + 1) #[.int .u8 0, .int .i64 0, .int .i64 0, .int .i64 0, .int .i64 0, .int .i64 0, .bool false, .int .i64 0, .int .i32 0] rfl rfl 82 _ kr (by kernel_rfl) rfl (by simp [Value.oneCell']) ?_)
        refine bodyPost_ret (results_cell_tmp (P := Tryd.prog) Tryd.results34 _ _ (w.heap.size + 1) [.int .u8 0, .int .i64 0, .int .i64 0, .int .i64 0, .int .i64 0, .int .i64 0, .bool false, .int .i64 0, .int .i32 0] _ rfl (rangeAt_block (setRow_heap _ _ _ _ _ _ kr)) Tryd.underlying82 rfl (by kernel_rfl)) rfl (key _ _ (below_setRow (B3.out.trans (hb4.mono B3.out.size)) (by omega) _) hne)
      case _ =>
        obtain ⟨fid, caps, rfl, hen, hcl⟩ := hcm
        have HCL := Lib.hid hcl
        have lr4 : w.heap.size + 1 < W4.heap.size := Nat.lt_of_lt_of_le lr3 f4.size
        have lx4 : xb < W4.heap.size := lt_of_blk' kx4
        have hrx : w.heap.size + 1 ≠ xb := by have := HHB.out; omega
        have hrj : ¬ Jb sb s.d sv (w.heap.size + 1) := fun h => by have := HJ.out.lt h; omega
        have HRJ := Lib.hid hrj
        have KR4 := Lib.hid ((f4.block _ lr3 (fun h => by rcases h with h | h; exact hrx h; have := HPO.out.old _ h; omega)).trans KR3.out)
        have KX4 := Lib.hid kx4
        have F4 := Lib.hid ((Fr.of (S := fun k => Jb sb s.d sv k ∨ Sp k) B3.out).since f4 (fun k hk => by rcases hk with rfl | hk; exact .inr (by have := HHB.out; omega); exact .inl (.inr hk)))
        have HR4 := Lib.hid (show Fr (Jb sb s.d sv) w W4 ∨ Rp W4 from hrr.imp (fun h => (Fr.of B3.out).since h (fun k hk => .inr (by have := HHB.out; have h9 : k = xb := hk; omega))) id)
        have HOK := Lib.hid hok
        have HVL := Lib.hid hvl
        have HSP : sb ≠ xb := fun h => HXJ.out (.inl h.symm)
        have HIS := Lib.hid (show insAt cd s.pc = ⟨op, ia, ib, ic, im⟩ by rw [HPC.out]; exact HIA.out)
        clear hrr hok hvl kx4 f4 hcl hrj c3
        go_upto_region 16 with (with_reducible refine HCL.out.mono ?_; rintro e' W5 ⟨rfl, hJ5, f5⟩)
        have kx5 := (f5.block xb lx4 HXJ.out).trans KX4.out
        have kr5 := (f5.block _ lr4 HRJ.out).trans KR4.out
        obtain ⟨z0, z1, z2, z3, z4, z5, z6, z7, z8, z9, z10, -⟩ := x_cells kx5
        have lx5 := lt_of_blk' kx5
        have mp5 := hJ5.m.pc
        have mf5 := hJ5.m.fz 0
        have ls5 := hJ5.m.lt
        have HJ5 := Lib.hid hJ5
        have KX5 := Lib.hid kx5
        have KR5 := Lib.hid kr5
        have HR5 := Lib.hid (HR4.out.imp (fun h => h.trans f5) (fun h => HPO.out.st _ _ _ h f5 (fun k hk h9 => HSJ.out k h9 hk)))
        have F5 := Lib.hid (F4.out.trans (f5.mono fun k _ h => .inl h))
        clear hJ5 kx5 kr5 f5 hen
        go_upto_region 17 with fail
        obtain ⟨W6, hW6⟩ : ∃ W6, W5.setCell ⟨sb, 0, none⟩ (.int .i64 nx) = W6 := ⟨_, rfl⟩
        have f6 : Fr (· = sb) W5 W6 := hW6 ▸ (Fr.refl (· = sb) _).set _ (.inl rfl)
        have HJ6 := Lib.hid (show Job W6 sb { s' with pc := nx } dl' sv sl' from HJ5.out.state (by rw [← hW6]; exact HJ5.out.m.setPc nx) f6 rfl)
        have kx6 := (f6.block xb lx5 (fun h => HSP h.symm)).trans KX5.out
        have kr := (f6.block _ (lt_of_blk' KR5.out) (fun h => HRJ.out (.inl h))).trans KR5.out
        obtain ⟨a0, a1, a2, a3, a4, a5, a6, a7, a8, a9, a10, -⟩ := x_cells kx6
        have lx6 := lt_of_blk' kx6
        have HR6 := Lib.hid (HR5.out.imp (fun h => h.trans (f6.mono fun k _ e => .inl e)) (fun h => HPO.out.st _ _ _ h f6 (fun k hk h9 => HSJ.out k (.inl h9) hk)))
        have F6 := Lib.hid (F5.out.trans (f6.mono fun k _ e => .inl (.inl e)))
        rw [hW6]
        simp only at a0 a1 a2 a3 a4
        rw [HPC.out] at a5
        clear hW6 f6 kx6 z0 z1 z2 z3 z4 z5 z6 z7 z8 z9 z10 mp5 mf5
        go_wp2_with (refine wpList_store_row rfl 82 (.tmp 10) (.tmp 119) rfl (w.heap.size + 1) #[.int .u8 op, .int .i64 ia, .int .i64 ib, .int .i64 ic, .int .i64 im, .int .i64 (p : Int), .bool tk, .int .i64 ad, .int .i32 vl] rfl rfl 82 _ kr (by kernel_rfl) rfl (by simp [Value.oneCell']) ?_)
        refine bodyPost_ret (results_cell_tmp (P := Tryd.prog) Tryd.results34 _ _ (w.heap.size + 1) [.int .u8 op, .int .i64 ia, .int .i64 ib, .int .i64 ic, .int .i64 im, .int .i64 (p : Int), .bool tk, .int .i64 ad, .int .i32 vl] _ rfl (rangeAt_block (setRow_heap _ _ _ _ _ _ kr)) Tryd.underlying82 rfl (by kernel_rfl)) rfl ?_
        have f7 : Fr (· = w.heap.size + 1) W6 (W6.setRow (w.heap.size + 1) #[.int .u8 op, .int .i64 ia, .int .i64 ib, .int .i64 ic, .int .i64 im, .int .i64 (p : Int), .bool tk, .int .i64 ad, .int .i32 vl]) := setRow_fr' _ _ _
        refine .inr ⟨nx, tk, ad, vl, s', dl', sl', HH.out, by rw [HST.out, HPC.out]; exact HBAD.out.1, by rw [HENN.out, HPC.out]; exact HBAD.out.2.1, by rw [HPC.out, Int.toNat_natCast, HER.out]; exact HEZ.out, by rw [HIS.out]; exact HOK.out, by rw [HIS.out]; exact HVL.out, by rw [HIS.out, HPC.out]; rfl, HJ6.out.keep f7 (fun k hk e => ?_), F6.out.since f7 (fun k hk => .inr (by have h9 : k = w.heap.size + 1 := hk; omega)), HR6.out.imp (fun h => h.since f7 (fun k hk => .inr (by have h9 : k = w.heap.size + 1 := hk; omega))) (fun h => HPO.out.st _ _ _ h f7 (fun k hk h9 => by have h8 : k = w.heap.size + 1 := h9; have := HPO.out.old k hk; omega))⟩
        have h6 := HOK.out.dat
        rcases hk with h | h | h
        · exact HRJ.out (.inl (by rw [← e]; exact h))
        · exact HRJ.out (.inr (.inl (by rw [← e, ← h6]; exact h)))
        · exact HRJ.out (.inr (.inr (by rw [← e]; exact h)))

end Go.Proofs.YtfceodpdipniaaaDoor
