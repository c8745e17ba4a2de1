/-
  What is proved here: parts dPrM, dPr, dSp, dBd, dCt, dFd, dCode, dTrP, dSmp, lGr.
-/
import Derived.Test.YtlmgkipmfgijiaaGreatDoorYa
import Derived.Test.YtlmgkipmfgijiaaGreatDoorYo
import Derived.Test.YtlmgkipmfgijiaaGreatDoorYl
import Derived.Test.YtlmgkipmfgijiaaGreatDoorYe
import Derived.Test.YtlmgkipmfgijiaaGreatDoorYb
import Derived.BigRegion
import Derived.Deep.RegionHeld3
import Derived.Deep.DeepCutAuto
import Derived.Test.YtlmgkipmfgijiaaGreatDoorYd
namespace Go.Proofs.YtlmgkipmfgijiaaGreatDoor
set_option linter.unusedVariables false
set_option linter.unusedSimpArgs false
set_option maxRecDepth 100000
set_option maxHeartbeats 8000000
section
open Go.RowKit
theorem kQ.lo {n : Nat} : ∀ {l : List aZ} {a z : Int}, kQ n a l z → 0 ≤ a → ∀ x ∈ l, 0 ≤ x.lo
 | y :: l, a, z, h, h0, x, hx => by
  have h1 := h.1.lo
  have h2 := h.1.hi
  rcases List.mem_cons.1 hx with rfl | hx
  ·omega
  ·exact kQ.lo h.2 agO x hx
def I2 (n : Nat) (cd : Nat → Int) (x : aZ) : Prop := ∀ a : Nat, x.lo ≤ (a : Int) → (a : Int) < x.hi → a < n ∧ (cg (cd a)).2 = 0
def jK (n : Nat) (cd : Nat → Int) (G : List aZ) : Prop := ∀ x ∈ G, I2 n cd x
def jF (cd : Nat → Int) (G : List aZ) : List (List Ins) := (List.range G.length).map (cN cd G)
def fy (cd : Nat → Int) (G : List aZ) : List Bool := (jF cd G).map fun l => l.any mZ
theorem Ej (cd : Nat → Int) (G : List aZ) : (jF cd G).length = G.length := by simp [jF]
theorem El (n : Nat) (f : Nat → Bool) (b : Nat) (x : Bool) : ((List.range n).map fun i => Value.bool (f i)).set b (.bool x) = (List.range n).map fun i => Value.bool (upd f b x i) := by
 apply List.ext_getElem
 ·simp
 ·intro i h1 h2
  rw [List.getElem_set]
  simp only [List.getElem_map, List.getElem_range, upd]
  by_cases e : b = i
  ·rw [if_pos e, if_pos e.symm]
  ·rw [if_neg e, if_neg (Ne.symm e)]
structure oB (V wr : World) (sp cb rb n : Nat) (bv pv : Value) (val : Nat → Value) (dI : Nat → List Ins) (rl : Nat → Bool) : Prop where
 aC : Below V.heap.size V wr
 sV : V.heap.size ≤ sp
 rV : V.heap.size ≤ rb
 head : wr.heap[sp]? = some (.cells #[bv, pv, .slice (some ⟨cb, 0, none⟩) n n, .slice (some ⟨rb, 0, none⟩) n n, .slice none 0 0] 159 (0, 0))
 pm : wH V.heap.size wr cb n val dI
 eY : wr.heap[rb]? = some (.cells ((List.range n).map fun i => Value.bool (rl i)).toArray 4 (0, 0))
section
variable {V wr : World} {sp cb rb n : Nat} {bv pv : Value} {val : Nat → Value} {dI : Nat → List Ins} {rl : Nat → Bool}
theorem oB.lt (h : oB V wr sp cb rb n bv pv val dI rl) : sp < wr.heap.size ∧ cb < wr.heap.size ∧ rb < wr.heap.size := ⟨aB h.head, h.pm.rg.2, aB h.eY⟩
theorem oB.below {wr' : World} (h : oB V wr sp cb rb n bv pv val dI rl) (hb : Below wr.heap.size wr wr') : oB V wr' sp cb rb n bv pv val dI rl := by
 obtain ⟨l1, l2, l3⟩ := h.lt
 exact ⟨h.aC.trans (hb.mono h.aC.size), h.sV, h.rV, (hb.block _ l1).trans h.head, h.pm.below hb, (hb.block _ l3).trans h.eY⟩
theorem oB.cells (h : oB V wr sp cb rb n bv pv val dI rl) : wr.cell? ⟨sp, 0, none⟩ = some bv ∧ wr.cell? ⟨sp, 1, none⟩ = some pv ∧ wr.cell? ⟨sp, 2, none⟩ = some (.slice (some ⟨cb, 0, none⟩) n n) ∧ wr.cell? ⟨sp, 3, none⟩ = some (.slice (some ⟨rb, 0, none⟩) n n) := by
 refine ⟨?_, ?_, ?_, ?_⟩ <;> simp [World.cell?, h.head]
theorem oB.rat (h : oB V wr sp cb rb n bv pv val dI rl) {i : Nat} (hi : i < n) : wr.cell? ⟨rb, i, none⟩ = some (.bool (rl i)) ∧ wr.frozen? ⟨rb, i, none⟩ = false := by
 constructor
 ·simp [World.cell?, h.eY, hi]
 ·simp [World.frozen?, h.eY]
theorem oB.yM (h : oB V wr sp cb rb n bv pv val dI rl) {i : Nat} (hi : i < n) : ∀ q, (val i).ownBlock = some q → V.heap.size ≤ q ∧ q ≠ sp ∧ q ≠ cb ∧ q ≠ rb := fun q hq => by
 have oi := h.pm.own i hi
 obtain ⟨cs, hc⟩ := dG oi hq
 exact ⟨(oi.lt q hq).1, aQ hc h.head agQ, fun e => cT oi h.pm.cG agQ q hq ahg, aQ hc h.eY agQ⟩
theorem oB.PT (h : oB V wr sp cb rb n bv pv val dI rl) : sp ≠ cb ∧ rb ≠ cb ∧ sp ≠ rb := by
 obtain ⟨cs, hc⟩ := dG h.pm.cG (q := cb) rfl
 exact ⟨aQ h.head hc agQ, aQ h.eY hc agQ, aQ h.head h.eY agQ⟩
theorem oB.app {w2 W' : World} {i : Nat} {y : Ins} {v' : Value} (h : oB V wr sp cb rb n bv pv val dI rl) (hi : i < n) (hb : Below wr.heap.size wr w2) (hg : w2.grownBy W' (val i).ownBlock)
  (hown : W'.ownsRow V.heap.size 67 5 v' ((dI i).length + 1) (ku (dI i ++ [y]))) (jR : v'.ownBlock = (val i).ownBlock ∨ v'.ownBlock = some w2.heap.size) :
  oB V (W'.setCell ⟨cb, i, none⟩ v') sp cb rb n bv pv (upd val i v') (upd dI i (dI i ++ [y])) rl := by
 have G := grown_of hb hg
 have S := aO W' cb i v'
 obtain ⟨l1, l2, l3⟩ := h.lt
 obtain ⟨c1, c2, c3⟩ := h.PT
 have DR := h.aC.size
 have wF := G.size
 have ob := h.yM hi
 have p1 := h.pm.rg.1
 have same : ∀ k, k < wr.heap.size → k ≠ cb → (∀ q, (val i).ownBlock = some q → k ≠ q) → (W'.setCell ⟨cb, i, none⟩ v').heap[k]? = wr.heap[k]? := fun k hk hkc WU => by
  rw [Below.heap_setCell _ _ _ _ (by show k ≠ cb; exact hkc)]
  exact G.block k hk (fun e => WU k e.symm rfl)
 exact ⟨(h.aC.grown G DR (fun k hk => (ob k hk).1)).grown S agO (fun k hk => by cases hk; exact p1), h.sV, h.rV, (same sp l1 c1 (fun q hq => (ob q hq).2.1.symm)).trans h.head, h.pm.app hi hb hg hown jR, (same rb l3 c2 (fun q hq => (ob q hq).2.2.2.symm)).trans h.eY⟩
theorem oB.mark (h : oB V wr sp cb rb n bv pv val dI rl) (i : Nat) (x : Bool) : oB V (wr.setCell ⟨rb, i, none⟩ (.bool x)) sp cb rb n bv pv val dI (upd rl i x) := by
 have S := aO wr rb i (.bool x)
 obtain ⟨l1, l2, l3⟩ := h.lt
 obtain ⟨c1, c2, c3⟩ := h.PT
 have DR := h.aC.size
 refine ⟨h.aC.grown S DR (fun k hk => by cases hk; exact h.rV), h.sV, h.rV, ?_, h.pm.kept S (fun e => c2 (by simpa using e)) (fun j hj q hq e => (h.yM hj q hq).2.2.2 (by simpa using e.symm)), ?_⟩
 ·rw [Below.heap_setCell _ _ _ _ (by show sp ≠ rb; exact c3)]; exact h.head
 ·rw [heap_setCell_same _ _ _ _ _ _ h.eY, ahQ, El]
theorem oB.done {W' : World} {G : List aZ} {dv : Value} {D : List Int} (h : oB V wr sp cb rb n bv pv val dI rl) (hb : Below wr.heap.size wr W') (hB : fF V bv G) (hG : G.length = n) (hI : Ints W' dv D) (hD : D.length = n) (mH : ∃ A k c, bv = .slice A k c) (hpv : ∃ A k c, pv = .slice A k c) :
  Ez (W'.setCell ⟨sp, 4, none⟩ dv) sp bv pv (.slice (some ⟨cb, 0, none⟩) n n) (.slice (some ⟨rb, 0, none⟩) n n) dv G ((List.range n).map dI) ((List.range n).map rl) D := by
 have h' := h.below hb
 have S := aO W' sp 4 dv
 obtain ⟨l1, l2, l3⟩ := h'.lt
 obtain ⟨c1, c2, c3⟩ := h'.PT
 have WH := h'.pm.kept S (fun e => c1 (by simpa using e)) (fun j hj q hq e => (h'.yM hj q hq).2.1 (by simpa using e.symm))
 have hbl : Below V.heap.size V (W'.setCell ⟨sp, 4, none⟩ dv) := h'.aC.grown S h'.aC.size (fun k hk => by cases hk; exact h.sV)
 have hmx : n ≤ maxLen := by
  rcases h.pm.cG.2 with ⟨e, _⟩ | ⟨_, _, _, e, _, _, h1, h2, _⟩
  ·cases e
  ·cases e; exact h2
 refine ⟨?_, hB.below hbl, by have := WH.XH; exact this, ?_, ?_, by simp [hG], by simp [hG], by rw [hD, hG]⟩
 ·rw [heap_setCell_same _ _ _ _ _ _ h'.head]; rfl
 ·refine ⟨some ⟨rb, 0, none⟩, n, by simp, by simp, hmx, fun _ => ⟨rb, 0, rfl, by have := S.size; omega, fun k hk => ?_⟩⟩
  have hk' : k < n := by simpa using hk
  have hr : (W'.setCell ⟨sp, 4, none⟩ dv).heap[rb]? = some (.cells ((List.range n).map fun i => Value.bool (rl i)).toArray 4 (0, 0)) := by
   rw [Below.heap_setCell _ _ _ _ (by show rb ≠ sp; exact c3.symm)]; exact h'.eY
  simp [World.cell?, hr, hk', List.getD]
 ·obtain ⟨A, cap, e3, h1, h2, h4⟩ := hI
  refine ⟨A, cap, e3, h1, h2, fun h0 => ?_⟩
  obtain ⟨b, o, e5, h6, h7⟩ := h4 h0
  have hne : b ≠ sp := fun e => by
   subst e
   have h8 := h7 0 h0
   obtain ⟨a1, k1, d1, rfl⟩ := mH
   obtain ⟨a2, k2, d2, rfl⟩ := hpv
   have h9 : ∀ (j : Nat) (v : Value), (#[Value.slice a1 k1 d1, Value.slice a2 k2 d2, .slice (some ⟨cb, 0, none⟩) n n, .slice (some ⟨rb, 0, none⟩) n n, .slice none 0 0] : Array Value)[j]? = some v → ∃ A k c, v = Value.slice A k c := fun j v hv => by
    match j, hv with
    | 0, hv => simp at hv; exact ⟨_, _, _, hv.symm⟩
    | 1, hv => simp at hv; exact ⟨_, _, _, hv.symm⟩
    | 2, hv => simp at hv; exact ⟨_, _, _, hv.symm⟩
    | 3, hv => simp at hv; exact ⟨_, _, _, hv.symm⟩
    | 4, hv => simp at hv; exact ⟨_, _, _, hv.symm⟩
    | j + 5, hv => simp at hv
   have h10 : W'.cell? ⟨b, o + 0, none⟩ = _ := h8
   simp only [World.cell?, h'.head] at h10
   obtain ⟨_, _, _, h11⟩ := h9 _ _ h10
   cases h11
  refine ⟨b, o, e5, by have := S.size; omega, fun k hk => ?_⟩
  rw [← h7 k hk]
  exact World.cell?_setCell_far _ _ _ _ (fun e => hne e.symm)
end
end
section
open Go.RowKit
def SS (n : Nat) (cd : Nat → Int) (G : List aZ) (P : List (List Int)) (bv pv : Value) (e : Ending) (w' : World) : Prop :=
 (cm G P ∧ jK n cd G ∧ ∃ sp XD VT XB D, e = .returned (.tuple #[.pointer (some ⟨sp, 0, none⟩), .bool true]) ∧ Ez w' sp bv pv XD VT XB G (jF cd G) (fy cd G) D ∧ fD G D) ∨ (¬ (cm G P ∧ jK n cd G) ∧ e = .returned (.tuple #[.pointer none, .bool false]))
theorem nZ (cv ev bv pv : Value) (sh lk : Int) (n : Nat) (cd : Nat → Int) (G : List aZ) (P : List (List Int)) (w : World) (T : gL w) (HW : Words w cv n cd) (HG : fF w bv G) (HP : l9 w pv P) (hn : G.length ≤ 5000) (eV : ∀ x ∈ G, x.nx.length ≤ 5000) :
  Calls Tryz.prog 44 #[.agg #[cv, ev, .int .i64 sh, .int .i64 lk], .agg #[bv, pv]] w fun e w' => SS n cd G P bv pv e w' ∧ Below w.heap.size w w' := by
 obtain ⟨GA, aW, mH, g2, g3, g4⟩ := id HG
 have g3' := dY g3
 obtain ⟨PA, aT, hpv, p2, p3, p4⟩ := id HP
 obtain ⟨CA, cV, hcv, c2, c3, c4⟩ := HW.at_
 have c3' := dY c3
 have hn6 := HW.le
 obtain ⟨V, hV⟩ : ∃ V, (w.alloc (.cells #[cv, ev, .int .i64 sh, .int .i64 lk] 25)).alloc (.cells #[bv, pv] 31) = V := ⟨_, rfl⟩
 have k0 : V.heap[w.heap.size]? = some (.cells #[cv, ev, .int .i64 sh, .int .i64 lk] 25 (0, 0)) := by
  rw [← hV, heap_alloc_old _ _ agT]; exact heap_alloc_new _ _
 have k1 : V.heap[w.heap.size + 1]? = some (.cells #[bv, pv] 31 (0, 0)) := by rw [← hV]; exact aG _ _ agT
 have bV : Below w.heap.size w V := hV ▸ ((Below.refl _ _).alloc (Nat.le_refl _) _).alloc agT _
 have sV : V.heap.size = w.heap.size + 1 + 1 := by rw [← hV]; simp
 have b0 : V.cell? ⟨w.heap.size + 1, 0, none⟩ = some bv := by simp [World.cell?, k1]
 have b1 : V.cell? ⟨w.heap.size + 1, 1, none⟩ = some pv := by simp [World.cell?, k1]
 have l1 : w.heap.size + 1 < V.heap.size := by omega
 have kE := ahM (jL bv pv G P V (HG.below bV) (HP.below bV) hn eV)
 obtain ⟨gn, hgn⟩ : ∃ m, G.length = m := ⟨_, rfl⟩
 rw [hgn] at mH g2 hn
 have eM := ahM hgn
 have Jn := ahM HW
 have IP := ahM HG
 have OW := ahM HP
 have HT := ahM T
 have BV := ahM bV
 have SV := ahM sV
 have K0 := ahM k0
 have Vp := ahM g4
 have HC4 := ahM c4
 clear hgn HW HG HP T bV sV k0 k1 g3 g4 p4 p3 c4 c3 eV
 subst mH hpv hcv
 go_enter Tryz.func44, Tryz.ntmps44
 by_cases Pu : cm G P
 case neg =>
  go_wp2_with (go_at_call 35; refine kE.out.mono ?_; rintro e X ⟨⟨r, rfl, hr⟩, Bq⟩; obtain rfl : r = false := (by cases r with | false => rfl | true => exact absurd (hr.1 rfl) Pu); have BX := ahM Bq; clear hr Bq)
  go_ret2
  exact ⟨.inr ⟨fun h => Pu h.1, rfl⟩, BV.out.trans (BX.out.mono BV.out.size)⟩
 have OS := ahM Pu
 clear Pu
 go_upto_region 3 with (go_at_call 35; refine kE.out.mono ?_; rintro e X ⟨⟨r, rfl, hr⟩, Bq⟩; obtain rfl : r = true := hr.2 OS.out)
 have c0 : X.cell? ⟨w.heap.size + 1, 0, none⟩ = _ := (Bq.cell (p := ⟨w.heap.size + 1, 0, none⟩) l1).trans b0
 have c1 : X.cell? ⟨w.heap.size + 1, 1, none⟩ = _ := (Bq.cell (p := ⟨w.heap.size + 1, 1, none⟩) l1).trans b1
 have lX : w.heap.size + 1 < X.heap.size := by have := Bq.size; omega
 have BX := ahM Bq
 clear b0 b1 hr Bq kE hV
 obtain ⟨cS, NU⟩ : ∃ c, ((List.range gn).map fun _ => Value.slice none 0 0).toArray = c := ⟨_, rfl⟩
 obtain ⟨cB, hcB⟩ : ∃ c, ((List.replicate gn false).map Value.bool).toArray = c := ⟨_, rfl⟩
 obtain ⟨iA, Rz, Mn, hA1, Jh⟩ := info_parts Gb
 obtain ⟨iB, Ry, hB0, hB1, hB2⟩ := info_parts Ge
 have mk1 : ∀ W, (Instr.makeSlice 157 (.int .i64 (gn : Int)) (.int .i64 (gn : Int))).run Tryz.prog W = .ok (.slice (some ⟨W.heap.size, 0, none⟩) gn gn) (W.alloc (.cells cS 144)) := fun W => by
  have hr := run_make (P := Tryz.prog) W 157 144 iA _ Tryz.underlying157 Rz Mn .i64 .i64 (gn : Int) (gn : Int) agO (Int.le_refl _) (by rw [Jh]; omega) agO
  rw [hA1, Int.toNat_natCast] at hr
  rw [hr, ← NU, ← LH]
  rfl
 have mk2 : ∀ W, (Instr.makeSlice 55 (.int .i64 (gn : Int)) (.int .i64 (gn : Int))).run Tryz.prog W = .ok (.slice (some ⟨W.heap.size, 0, none⟩) gn gn) (W.alloc (.cells cB 4)) := fun W => by
  have hr := run_make (P := Tryz.prog) W 55 4 iB _ Tryz.underlying55 Ry hB0 .i64 .i64 (gn : Int) (gn : Int) agO (Int.le_refl _) (by rw [hB2]; omega) agO
  rw [hB1, Int.toNat_natCast] at hr
  rw [hr, ← hcB, ← LI]
  rfl
 have TZ := ahM NU
 have T7 := ahM hcB
 clear NU hcB Mn hA1 Jh hB0 hB1 hB2 Rz Ry
 go_cut [6] from 15 to 25 (fun a6 wx => ∃ sp cb rb, a6 = .pointer (some ⟨sp, 0, none⟩) ∧ wx.heap[sp]? = some (.cells #[.slice GA gn aW, .slice PA P.length aT, .slice (some ⟨cb, 0, none⟩) gn gn, .slice (some ⟨rb, 0, none⟩) gn gn, .slice none 0 0] 159 (0, 0)) ∧ wx.heap[cb]? = some (.cells cS 144 (0, 0)) ∧ wx.heap[rb]? = some (.cells cB 4 (0, 0)) ∧ (X.heap.size ≤ sp ∧ X.heap.size ≤ cb ∧ X.heap.size ≤ rb) ∧ Below X.heap.size X wx)
 case first =>
  go_region_held3 (fun w' => (∀ b o, b < X.heap.size → w'.cell? ⟨b, o, none⟩ = X.cell? ⟨b, o, none⟩) ∧ Below X.heap.size X w') ((exact LR (by (repeat (first | (with_reducible exact Below.refl _ _) | (with_reducible refine Below.drew ?_) | (with_reducible refine Below.alloc ?_ ag8 _)))))) (fail)
  all_goals (go_wp2_with fail; go_meet)
  all_goals
   refine ⟨_, _, _, rfl, aG _ _ agT, ?_, ?_, by omega, ?_⟩
   ·(show (World.alloc _ _).heap[_]? = _); (repeat (first | exact heap_alloc_new _ _ | exact aG _ _ ahh | rw [heap_alloc_old _ _ ahc]))
   ·(show (World.alloc _ _).heap[_]? = _); (repeat (first | exact heap_alloc_new _ _ | exact aG _ _ ahh | rw [heap_alloc_old _ _ ahc]))
   ·(repeat (first | (with_reducible exact Below.refl _ _) | (with_reducible refine Below.drew ?_) | (with_reducible refine Below.alloc ?_ ag8 _)))
 obtain ⟨sp, cb, rb, rfl, hd1, hd2, hd3, ⟨ha, hc, hr⟩, bW⟩ := hcut
 obtain ⟨W1, hW1⟩ : ∃ W1 : World, W1 = wc := ⟨_, rfl⟩
 subst hW1
 rw [← TZ.out] at hd2
 rw [← T7.out] at hd3
 have Vv := ahM (show oB X W1 sp cb rb gn (.slice GA gn aW) (.slice PA P.length aT) (fun _ => .slice none 0 0) (fun _ => []) (fun _ => false) from
  ⟨bW, ha, hr, hd1, ⟨⟨by simp, .inr ⟨cb, gn, _, rfl, hc, hd2, Nat.le_refl _, by unfold maxLen; omega, by simp, by simp [List.take_of_length_le]⟩⟩, fun i hi => World.ownsRow_nil _ _ _ _, fun i j hi hj _ q hq => (by cases hq)⟩, by
   rw [hd3]
   congr 3
   apply List.ext_getElem
   ·simp
   ·intro i h1 h2; simp⟩)
 have bW1 := bW.size
 have d0 : W1.cell? ⟨w.heap.size + 1, 0, none⟩ = _ := (bW.cell (p := ⟨w.heap.size + 1, 0, none⟩) lX).trans c0
 have VZ : w.heap.size + 1 < W1.heap.size := by omega
 clear hd1 hd2 hd3 ha hc hr bW TZ T7 mk1 mk2
 obtain ⟨iI, pR, pT, nR, nQ⟩ := info_parts Gd
 go_upto_region 5 with fail
 have C0 := ahM c0
 have C1 := ahM c1
 clear d0 VZ c0 c1
 have Rk := BX.out.size
 have LO := ahM (show ∀ x ∈ G, 0 ≤ x.lo ∧ x.lo < x.hi from fun x hx => by
  obtain ⟨z, hz⟩ := OS.out.ok
  obtain ⟨e, he⟩ := hz.each x hx
  exact ⟨hz.lo agO x hx, he.hi⟩)
 go_loopw [29] (fun a29 wr => ∃ (k : Nat) (val : Nat → Value), k ≤ gn ∧ a29 = .int .i64 (k : Int) ∧ (∀ i x, i < k → G[i]? = some x → I2 n cd x) ∧ oB X wr sp cb rb gn (.slice GA gn aW) (.slice PA P.length aT) val (eA (cN cd G) k []) (fun i => (eA (cN cd G) k [] i).any mZ)) (fun a29 _ => gn - (intOf a29).toNat)
 case atStart => exact ⟨0, _, by omega, rfl, fun i x h => by omega, by rw [uI]; exact Vv.out⟩
 case round =>
  obtain ⟨k, val, hk, rfl, hok, hM⟩ := hrel
  have HM := ahM hM
  have pF := ahM hok
  have ZW := hM.aC.size
  clear hM hok Vv
  by_cases hlt : k < gn
  ·have dl : decide ((k : Int) < (gn : Int)) = true := decide_eq_true agO
   have dk : (k : Int) < (gn : Int) := by omega
   obtain ⟨x, hx⟩ : ∃ x, G[k]? = some x := ⟨_, List.getElem?_eq_getElem (by rw [eM.out]; exact hlt)⟩
   have hlo := LO.out x (List.mem_of_getElem? hx)
   obtain ⟨gq, jT, rfl, GG, gc⟩ := Vp.out ag5
   obtain ⟨e0, e1, nv, e2, NN⟩ := gc k x hx
   obtain ⟨nA, cY, rfl, n1, n2⟩ := ints_at NN
   have n3 := dY n2
   have bw : Below w.heap.size w wr := BV.out.trans ((BX.out.trans (HM.out.aC.mono BX.out.size)).mono BV.out.size)
   have f0 : wr.cell? ⟨gq, jT + k * 3, none⟩ = _ := (bw.cell (p := ⟨gq, _, none⟩) GG).trans e0
   have f1 : wr.cell? ⟨gq, jT + k * 3 + 1, none⟩ = _ := (bw.cell (p := ⟨gq, _, none⟩) GG).trans e1
   have f2 : wr.cell? ⟨gq, jT + k * 3 + 2, none⟩ = _ := (bw.cell (p := ⟨gq, _, none⟩) GG).trans e2
   have lg : gq < wr.heap.size := by have := bw.size; omega
   obtain ⟨xlo, xO⟩ : ∃ v, x.lo = v := ⟨_, rfl⟩
   obtain ⟨xhi, xP⟩ : ∃ v, x.hi = v := ⟨_, rfl⟩
   obtain ⟨xu, I8⟩ : ∃ v, x.nx.length = v := ⟨_, rfl⟩
   rw [xO] at f0 hlo
   rw [xP] at f1 hlo
   rw [I8] at f2 n1
   obtain ⟨ln, rfl⟩ : ∃ ln : Nat, xlo = (ln : Int) := ⟨xlo.toNat, by omega⟩
   obtain ⟨hn', rfl⟩ : ∃ hn' : Nat, xhi = (hn' : Int) := ⟨xhi.toNat, by omega⟩
   have S4 := ahM xO
   have S5 := ahM xP
   have HX := ahM hx
   have O9 := ahM (show cN cd G k = codeFrom cd (ln : Int) (hn' - ln) by
    unfold cN
    rw [show G.getD k ⟨0, 0, []⟩ = x by simp [List.getD, hx], xO, xP]
    congr 1
    omega)
   have Z7 : ln < hn' := by omega
   have HLH := ahM Z7
   clear e0 e1 e2 NN gc bw xO xP I8 hx n2 hlo Z7
   go_upto_region 8 with fail
   obtain ⟨b9, hb9⟩ : ∃ b9, wr.heap.size = b9 := ⟨_, rfl⟩
   obtain ⟨Y, hY⟩ : ∃ Y, wr.alloc (.cells #[.int .i64 (ln : Int), .int .i64 (hn' : Int), .slice nA xu cY] 78) = Y := ⟨_, rfl⟩
   rw [hY]
   have bY : Below wr.heap.size wr Y := hY ▸ (Below.refl _ _).alloc (Nat.le_refl _) _
   have kY : Y.heap[b9]? = some (.cells #[.int .i64 (ln : Int), .int .i64 (hn' : Int), .slice nA xu cY] 78 (0, 0)) := by rw [← hb9, ← hY]; exact heap_alloc_new _ _
   rw [hb9]
   have KY := ahM kY
   have Vi := ahM (HM.out.below bY)
   clear hb9 hY bY kY f0 f1 f2
   obtain ⟨wo, Gg⟩ : ∃ wo : World, wo = wr := ⟨_, rfl⟩
   subst Gg
   go_loopw [9] (fun a9 wz => ∃ (pc : Nat) (kK : Nat → Value), ln ≤ pc ∧ pc ≤ hn' ∧ a9 = .int .i64 (pc : Int) ∧ (∀ a, ln ≤ a → a < pc → a < n ∧ (cg (cd a)).2 = 0) ∧ oB X wz sp cb rb gn (.slice (some ⟨gq, jT, none⟩) gn aW) (.slice PA P.length aT) kK (eA (cN cd G) k (codeFrom cd (ln : Int) (pc - ln))) (fun i => (eA (cN cd G) k (codeFrom cd (ln : Int) (pc - ln)) i).any mZ) ∧ wz.heap[b9]? = some (.cells #[.int .i64 (ln : Int), .int .i64 (hn' : Int), .slice nA xu cY] 78 (0, 0))) (fun a9 _ => hn' - (intOf a9).toNat)
   case atStart => exact ⟨ln, val, Nat.le_refl _, by have := HLH.out; omega, rfl, fun a h1 h2 => by omega, by rw [Nat.sub_self]; exact Vi.out, KY.out⟩
   case round =>
    clear Vi KY
    obtain ⟨pc, kK, hlp, hph, rfl, NQ, hM2, k9⟩ := hrel
    have IE := ahM hM2
    have HJS := ahM NQ
    have K9 := ahM k9
    have hzX := hM2.aC.size
    have z1 : wr.cell? ⟨b9, 1, none⟩ = some (.int .i64 (hn' : Int)) := by simp [World.cell?, k9]
    have lz9 : b9 < wr.heap.size := aB k9
    clear hM2 k9 NQ
    have PV := ahM (((BX.out.trans (IE.out.aC.mono BX.out.size)).block _ aho).trans K0.out)
    by_cases hlt2 : pc < hn'
    ·have dl2 : decide (pc < hn') = true := decide_eq_true hlt2
     have aen : decide ((pc : Int) < (hn' : Int)) = true := decide_eq_true agO
     have Ji : Below w.heap.size w wr := BV.out.trans ((BX.out.trans (IE.out.aC.mono BX.out.size)).mono BV.out.size)
     have LB := ahM Ji
     have t0 : wr.cell? ⟨w.heap.size, 0, none⟩ = some (.slice CA n cV) := by have := PV.out; simp [World.cell?, this]
     have lz0 : w.heap.size < wr.heap.size := by omega
     have adG : decide ((pc : Int) < 0) = false := decide_eq_false agO
     have Ll := ahM (show ¬ (pc < n ∧ (cg (cd pc)).2 = 0) → ¬ (cm G P ∧ jK n cd G) from fun h1 h2 =>
      h1 (h2.2 x (List.mem_of_getElem? HX.out) pc (by rw [S4.out]; omega) (by rw [S5.out]; omega)))
     by_cases hnn : pc < n
     case neg =>
      have dn : decide (n ≤ pc) = true := decide_eq_true agO
      have dn' : decide ((n : Int) ≤ (pc : Int)) = true := decide_eq_true agO
      have HF := ahM (Ll.out (fun h => hnn h.1))
      clear hnn hlt2 Ji
      go_wp2_with fail
      go_ret2
      exact ⟨.inr ⟨HF.out, rfl⟩, LB.out⟩
     have dn : decide (n ≤ pc) = false := decide_eq_false agO
     have dn' : decide ((n : Int) ≤ (pc : Int)) = false := decide_eq_false agO
     obtain ⟨cq, XG, Xr, Mr, cc⟩ := HC4.out agO
     have cx := (Ji.cell (p := ⟨cq, XG + pc, none⟩) Mr).trans (cc pc hnn)
     have lcq : cq < wr.heap.size := by have := Ji.size; omega
     have hwd := Jn.out.wd pc hnn
     have icn : (pc : Int) < (n : Int) := by omega
     have IQ := ahM (jW (cd pc) hwd.1 hwd.2 wr (HT.out.below Ji))
     have hdd : (cg (cd pc)).2 = 0 ∨ cg (cd pc) = (⟨0, 0, 0, 0, 0⟩, 3) := by
      unfold cg
      split
      ·exact .inl rfl
      ·exact .inr rfl
     obtain ⟨cw, hcw⟩ : ∃ c, cd pc = c := ⟨_, rfl⟩
     have Vo := ahM (show (cg cw).2 = 0 → 0 ≤ (cg cw).1.op from fun h => by
      rw [← hcw] at h ⊢
      obtain ⟨k, hk, _⟩ := oW hwd.1 h
      have := hk.op
      omega)
     have YJ := ahM (show au cd (pc : Int) = (cg cw).1 by rw [← hcw]; rfl)
     have TU := ahM hcw
     rw [hcw] at cx IQ hdd Ll
     subst Xr
     clear cc Ji hcw hwd
     by_cases hd0 : (cg cw).2 = 0
     case neg =>
      have hd3 := hdd.resolve_left hd0
      have HF := ahM (Ll.out (fun h => hd0 h.2))
      have HD := ahM (show Calls Tryz.prog 22 #[.int .u32 cw] wr fun e w' => e = .returned (.tuple #[.agg #[.int .u8 0, .int .i64 0, .int .i64 0, .int .i64 0, .int .i64 0], .int .i64 3]) ∧ Below wr.heap.size wr w' from by
       have := IQ.out
       rw [hd3] at this
       exact this)
      clear hd0 hd3 hdd IQ
      go_wp2_with (go_at_call 22; refine HD.out.mono ?_; rintro e w2 ⟨rfl, hb2⟩; have B2 := ahM hb2; have l2 := hb2.size; clear hb2)
      go_ret2
      refine ⟨.inr ⟨HF.out, rfl⟩, ?_⟩
      have h := LB.out.trans (B2.out.mono LB.out.size)
      first
       | exact h
       | exact h.alloc h.size _
     obtain ⟨op, ia, ic, id, im, hi⟩ : ∃ op ia ic id im, (cg cw).1 = ⟨op, ia, ic, id, im⟩ := ⟨_, _, _, _, _, rfl⟩
     have HD := ahM (show Calls Tryz.prog 22 #[.int .u32 cw] wr fun e w' => e = .returned (.tuple #[.agg #[.int .u8 op, .int .i64 ia, .int .i64 ic, .int .i64 id, .int .i64 im], .int .i64 0]) ∧ Below wr.heap.size wr w' from by
      have := IQ.out
      rw [hd0, hi] at this
      exact this)
     have HI := ahM (show au cd (pc : Int) = ⟨op, ia, ic, id, im⟩ by rw [YJ.out]; exact hi)
     have Yt := ahM (show (cg (cd pc)).2 = 0 by rw [TU.out]; exact hd0)
     clear IQ hdd hd0 hi Ll Vo
     go_upto_region 15 with (go_at_call 22; refine HD.out.mono ?_; rintro e w2 ⟨rfl, hb2⟩; have B2 := ahM hb2; have l2 := hb2.size; clear hb2)
     obtain ⟨U, hU⟩ : ∃ U, w2.alloc (.cells #[.int .u8 op, .int .i64 ia, .int .i64 ic, .int .i64 id, .int .i64 im] 67) = U := ⟨_, rfl⟩
     rw [hU]
     have bU : Below w2.heap.size w2 U := hU ▸ (Below.refl _ _).alloc (Nat.le_refl _) _
     have kU : U.heap[w2.heap.size]? = some (.cells #[.int .u8 op, .int .i64 ia, .int .i64 ic, .int .i64 id, .int .i64 im] 67 (0, 0)) := hU ▸ heap_alloc_new _ _
     obtain ⟨y0, y1, y2, y3, y4, lU⟩ := bL kU
     obtain ⟨b10, xX⟩ : ∃ b, w2.heap.size = b := ⟨_, rfl⟩
     have MF : Below wr.heap.size wr U := B2.out.trans (bU.mono B2.out.size)
     rw [xX] at y0 y1 y2 y3 y4 lU kU
     rw [xX]
     have KU := ahM kU
     have sQ := ahM (IE.out.below MF)
     have Jm := ahM ((MF.block b9 lz9).trans K9.out)
     have v0 := sQ.out.cells.2.2.1
     obtain ⟨lsp, lcb, lrb⟩ := sQ.out.lt
     obtain ⟨v1, v1f⟩ := sQ.out.pm.cells hlt
     have hop := sQ.out.pm.own k hlt
     have Rm := IE.out.pm.own k hlt
     rw [fN, ep] at hop
     obtain ⟨vk, Bp⟩ : ∃ v, kK k = v := ⟨_, rfl⟩
     have PX := ahM Bp
     have P0 := ahM (show some cb ≠ vk.ownBlock from fun e' => by
      rw [← Bp] at e'
      exact (sQ.out.yM hlt cb e'.symm).2.2.1 rfl)
     have HNs := ahM (show some sp ≠ vk.ownBlock from fun e' => by
      rw [← Bp] at e'
      exact (sQ.out.yM hlt sp e'.symm).2.1 rfl)
     have Vh := ahM (show some b9 ≠ vk.ownBlock from fun e' => by
      rw [← Bp] at e'
      obtain ⟨cs, hcs⟩ := dG hop e'.symm
      exact aQ hcs Jm.out agQ rfl)
     have Tw := ahM (show some b10 ≠ vk.ownBlock from fun e' => by
      rw [← Bp] at e'
      have := (Rm.lt b10 e'.symm).2
      omega)
     rw [Bp] at hop v1
     have wu := ahM hop
     obtain ⟨vA, vn, dF, hvs⟩ : ∃ vA vn dF, vk = .slice vA vn dF := by
      rcases hop.2 with ⟨e, _⟩ | ⟨g', cap', cur', e, _⟩
      ·exact ⟨_, _, _, e⟩
      ·exact ⟨_, _, _, e⟩
     subst hvs
     have V7 : b9 < U.heap.size := aB Jm.out
     have Lh := ahM (show X.heap.size ≤ U.heap.size from sQ.out.aC.size)
     obtain ⟨m, hm⟩ : ∃ m, pc - ln = m := ⟨_, rfl⟩
     have hm6 : m ≤ 1000000 := by omega
     have Yo := ahM (show pc + 1 - ln = m + 1 by omega)
     have Tn := ahM (show (ln : Int) + (m : Int) = (pc : Int) by omega)
     rw [hm] at wu sQ
     have y9 := ahM (show ∀ (W2 : World) (v2 : Value), ((U.alloc (.cells #[.int .u8 op, .int .i64 ia, .int .i64 ic, .int .i64 id, .int .i64 im] 67)).drew).grownBy W2 (Value.slice vA vn dF).ownBlock → W2.ownsRow X.heap.size 67 5 v2 (m + 1) (ku (codeFrom cd (ln : Int) m) ++ [.int .u8 op, .int .i64 ia, .int .i64 ic, .int .i64 id, .int .i64 im]) → (v2.ownBlock = (Value.slice vA vn dF).ownBlock ∨ v2.ownBlock = some ((U.alloc (.cells #[.int .u8 op, .int .i64 ia, .int .i64 ic, .int .i64 id, .int .i64 im] 67)).drew).heap.size) →
       oB X (W2.setCell ⟨cb, k, none⟩ v2) sp cb rb gn (.slice (some ⟨gq, jT, none⟩) gn aW) (.slice PA P.length aT) (upd kK k v2) (eA (cN cd G) k (codeFrom cd (ln : Int) (m + 1))) (fun i => (eA (cN cd G) k (codeFrom cd (ln : Int) m) i).any mZ) ∧ (W2.setCell ⟨cb, k, none⟩ v2).heap[b9]? = some (.cells #[.int .i64 (ln : Int), .int .i64 (hn' : Int), .slice nA xu cY] 78 (0, 0)) ∧ (W2.setCell ⟨cb, k, none⟩ v2).heap[b10]? = some (.cells #[.int .u8 op, .int .i64 ia, .int .i64 ic, .int .i64 id, .int .i64 im] 67 (0, 0)) from fun W2 v2 hg2 ho2 vI => by
      have bD : Below U.heap.size U ((U.alloc (.cells #[.int .u8 op, .int .i64 ia, .int .i64 ic, .int .i64 id, .int .i64 im] 67)).drew) := Below.drew ((Below.refl _ _).alloc (Nat.le_refl _) _)
      have h3 := sQ.out.app (y := au cd (pc : Int)) hlt bD (by rw [PX.out]; exact hg2) (by rw [fN, ep, Dy, HI.out]; exact ho2) (by rw [PX.out]; exact vI)
      rw [fN, yw, ← Tn.out, ← ji] at h3
      have hc9 : b9 ≠ cb := fun e => by
       obtain ⟨cs, hcs⟩ := dG sQ.out.pm.cG (q := cb) rfl
       exact aQ Jm.out hcs agQ e
      have Xi : b10 ≠ cb := fun e => by
       obtain ⟨cs, hcs⟩ := dG sQ.out.pm.cG (q := cb) rfl
       exact aQ KU.out hcs agQ e
      refine ⟨h3, ?_, ?_⟩
      ·rw [Below.heap_setCell _ _ _ _ (by show b9 ≠ cb; exact hc9)]
       rw [(grown_of bD hg2).block b9 V7 (fun e => Vh.out e)]
       exact Jm.out
      ·rw [Below.heap_setCell _ _ _ _ (by show b10 ≠ cb; exact Xi)]
       rw [(grown_of bD hg2).block b10 lU (fun e => Tw.out e)]
       exact KU.out)
     have BUH := ahM (LB.out.trans (MF.mono LB.out.size))
     have icb : (k : Int) < (gn : Int) := dk
     obtain ⟨rk, ZU⟩ : ∃ r, ((eA (cN cd G) k (codeFrom cd (ln : Int) m)) k).any mZ = r := ⟨_, rfl⟩
     have HRK := ahM ZU
     clear hU bU MF xX hop Rm Bp t0 kU hm cx ZU IE
     go_cut [9] from 62 to 77 (fun a9 wx => ∃ v3, a9 = .int .i64 (pc : Int) ∧ oB X wx sp cb rb gn (.slice (some ⟨gq, jT, none⟩) gn aW) (.slice PA P.length aT) v3 (eA (cN cd G) k (codeFrom cd (ln : Int) (m + 1))) (fun i => (eA (cN cd G) k (codeFrom cd (ln : Int) m) i).any mZ) ∧ wx.heap[b9]? = some (.cells #[.int .i64 (ln : Int), .int .i64 (hn' : Int), .slice nA xu cY] 78 (0, 0)) ∧ wx.heap[b10]? = some (.cells #[.int .u8 op, .int .i64 ia, .int .i64 ic, .int .i64 id, .int .i64 im] 67 (0, 0)))
     case first =>
      refine wp_region_noPanic ?_
      go_region_law (refine bI rfl (.tmp 73) (.tmp 75) 144 rfl X.heap.size 67 iI _ 5 40 Tryz.underlying144 pR pT nR nQ rfl agQ (.slice vA vn dF) m (ku (codeFrom cd (ln : Int) m)) ahj (World.ownsRow.alloc (World.ownsRow.drew wu.out) _) ⟨U.heap.size, 0, none⟩ 1 1 [.int .u8 op, .int .i64 ia, .int .i64 ic, .int .i64 id, .int .i64 im] ahj rfl (rZ _ _ _ _ _ _ _) agR agS agO ahk ?_; intro v' W2 hown2 hgrow2 xY; obtain ⟨g2, fR, rfl⟩ := ownsRow_succ hown2; have hc1 := hgrow2.cell (a := ⟨cb, k, none⟩) (v := .slice vA vn dF) ag2 P0.out; have hc2 := hgrow2.cell (a := ⟨sp, 2, none⟩) (v := .slice (some ⟨cb, 0, none⟩) gn gn) ag2 HNs.out; have hf1 : W2.frozen? ⟨cb, k, none⟩ = false := (World.frozen?_of_block (hgrow2.block cb agX P0.out)).trans ag2)
      all_goals
       have F1 := ahM (y9.out W2 _ hgrow2 hown2 xY)
       clear hgrow2 hown2 xY hc1 hc2 hf1
       refine NoPanic.normal ?_
       go_wp2_with fail
       go_meet
       exact ⟨_, rfl, F1.out.1, F1.out.2.1, F1.out.2.2⟩
     obtain ⟨v3, rfl, PK, h9Z, Sa⟩ := hcut
     obtain ⟨Z, hZ⟩ : ∃ Z : World, Z = wc := ⟨_, rfl⟩
     subst hZ
     have HPZ := ahM PK
     have Y9 := ahM h9Z
     have hsr := PK.cells.2.2.2
     obtain ⟨xr, xrf⟩ := PK.rat hlt
     obtain ⟨z0, z1, z2, z3, z4, lZ⟩ := bL Sa
     obtain ⟨lsp, -, lrb⟩ := PK.lt
     have BZ := ahM (BV.out.trans ((BX.out.trans (PK.aC.mono BX.out.size)).mono BV.out.size))
     rw [HRK.out] at xr
     obtain ⟨ci, hci⟩ : ∃ c, mZ ⟨op, ia, ic, id, im⟩ = c := ⟨_, rfl⟩
     have Qc := ahM (show ∀ W, Calls Tryz.prog 75 #[.agg #[.int .u8 op, .int .i64 ia, .int .i64 ic, .int .i64 id, .int .i64 im]] W fun e w' => e = .returned (.bool ci) ∧ Below W.heap.size W w' from fun W => by
      have := vR ⟨op, ia, ic, id, im⟩ W
      rw [hci] at this
      exact this)
     have yI := ahM (show ∀ x : Ext Z, oB X (x.w.setCell ⟨rb, k, none⟩ (.bool (rk || ci))) sp cb rb gn (.slice (some ⟨gq, jT, none⟩) gn aW) (.slice PA P.length aT) v3 (eA (cN cd G) k (codeFrom cd (ln : Int) (pc + 1 - ln))) (fun i => (eA (cN cd G) k (codeFrom cd (ln : Int) (pc + 1 - ln)) i).any mZ) ∧ (x.w.setCell ⟨rb, k, none⟩ (.bool (rk || ci))).heap[b9]? = some (.cells #[.int .i64 (ln : Int), .int .i64 (hn' : Int), .slice nA xu cY] 78 (0, 0)) from fun x => by
      have h1 := (HPZ.out.below x.h).mark k (rk || ci)
      rw [Yo.out]
      have e1 : upd (fun i => (eA (cN cd G) k (codeFrom cd (ln : Int) m) i).any mZ) k (rk || ci) = fun i => (eA (cN cd G) k (codeFrom cd (ln : Int) (m + 1)) i).any mZ := by
       funext i
       unfold upd
       by_cases e : i = k
       ·subst e
        rw [if_pos rfl, ← HRK.out, fN, fN, ji, List.any_append, Tn.out, HI.out, ← hci]
        simp
       ·rw [if_neg e]
        have e2 : eA (cN cd G) k (codeFrom cd (ln : Int) m) i = eA (cN cd G) k (codeFrom cd (ln : Int) (m + 1)) i := by
         unfold eA
         rw [if_neg e, if_neg e]
        show (eA (cN cd G) k (codeFrom cd (ln : Int) m) i).any mZ = _
        rw [e2]
      rw [e1] at h1
      refine ⟨h1, ?_⟩
      rw [Below.heap_setCell _ _ _ _ (by show b9 ≠ rb; exact aQ Y9.out HPZ.out.eY agQ)]
      exact (x.h.block b9 (aB Y9.out)).trans Y9.out)
     have TC := ahM (show ∀ a, ln ≤ a → a < pc + 1 → a < n ∧ (cg (cd a)).2 = 0 from fun a h1 h2 => by
      by_cases e : a = pc
      ·subst e; exact ⟨hnn, Yt.out⟩
      ·exact HJS.out a h1 agO)
     clear PK h9Z Sa hci sQ wu KU Jm PX P0 HNs Vh Tw y9
     go_upto_region 16 with fail
     cases rk with
     | true =>
      refine aI 17 agP agP ?_
      simp only [ahT, List.take_zero, ahU, List.drop_zero]
      repeat (go_big_quiet_step (fail))
      refine wpQuiet_nil ?_
      rintro _ ⟨x1, rfl⟩
      have F2 := ahM (yI.out x1)
      go_wp2_with fail
      go_roundw
      case rel => exact ⟨pc + 1, _, by omega, by omega, by go_num, TC.out, F2.out.1, F2.out.2⟩
      case measure => simp [intOf]; omega
     | false =>
      refine aI 17 agP agP ?_
      simp only [ahT, List.take_zero, ahU, List.drop_zero]
      repeat (go_big_quiet_step ((go_at_call 75; exact Calls.ax (Qc.out _))))
      refine wpQuiet_nil ?_
      rintro _ ⟨x1, rfl⟩
      have F2 := ahM (yI.out x1)
      go_wp2_with fail
      go_roundw
      case rel => exact ⟨pc + 1, _, by omega, by omega, by go_num, TC.out, F2.out.1, F2.out.2⟩
      case measure => simp [intOf]; omega
    ·obtain rfl : hn' = pc := by omega
     have dl2 : decide ((hn' : Int) < (hn' : Int)) = false := by simp
     have sM := ahM (show oB X wr sp cb rb gn (.slice (some ⟨gq, jT, none⟩) gn aW) (.slice PA P.length aT) kK (eA (cN cd G) (k + 1) []) (fun i => (eA (cN cd G) (k + 1) [] i).any mZ) by rw [← uJ, O9.out]; exact IE.out)
     have IB := ahM (show ∀ i y, i < k + 1 → G[i]? = some y → I2 n cd y from fun i y hi hy => by
      by_cases e : i = k
      ·subst e
       rw [HX.out] at hy
       cases hy
       intro a h1 h2
       rw [S4.out] at h1
       rw [S5.out] at h2
       exact HJS.out a agO agO
      ·exact pF.out i y agO hy)
     go_wp2_with fail
     go_roundw
     case rel => exact ⟨k + 1, kK, by omega, by go_num, IB.out, sM.out⟩
     case measure => simp [intOf]; omega
  ·obtain rfl : gn = k := by omega
   have dl : decide ((gn : Int) < (gn : Int)) = false := by simp
   have M4 := ahM (show jK n cd G from fun y hy => by
    obtain ⟨i, hi⟩ := List.mem_iff_getElem?.1 hy
    exact pF.out i y (by rw [← eM.out]; exact (List.getElem?_eq_some_iff.1 hi).1) hi)
   have bw : Below w.heap.size w wr := BV.out.trans ((BX.out.trans (HM.out.aC.mono BX.out.size)).mono BV.out.size)
   have BW := ahM bw
   have t0 : wr.cell? ⟨w.heap.size + 1, 0, none⟩ = _ := (HM.out.aC.cell (p := ⟨w.heap.size + 1, 0, none⟩) lX).trans C0.out
   have t1 : wr.cell? ⟨w.heap.size + 1, 1, none⟩ = _ := (HM.out.aC.cell (p := ⟨w.heap.size + 1, 1, none⟩) lX).trans C1.out
   have lt1 : w.heap.size + 1 < wr.heap.size := by omega
   obtain ⟨h1, h2, h3⟩ := HM.out.lt
   have tO := ahM (wS _ _ G P wr (IP.out.below bw) (OW.out.below bw) OS.out ahb)
   clear bw
   go_wp2_with (go_at_call 37; refine tO.out.mono ?_; rintro e W2 ⟨⟨dv, D, rfl, hI, hD⟩, hb2⟩; obtain ⟨DA, mX, rfl, -, -⟩ := ints_at hI; have HIW := ahM hI; have HDW := ahM hD; have B2 := ahM hb2; have hd2 := (HM.out.below hb2).head; have l2 : sp < W2.heap.size := aB hd2; have q4 : W2.cell? ⟨sp, 4, none⟩ = some (.slice none 0 0) := (by simp [World.cell?, hd2]); have qf : W2.frozen? ⟨sp, 4, none⟩ = false := (by simp [World.frozen?, hd2]); clear hI hD hb2 hd2)
   go_ret2
   have hl : D.length = gn := by have := HDW.out.ti.len; rw [eM.out] at this; exact this
   have hF := HM.out.done (G := G) B2.out ((IP.out.below BV.out).below BX.out) eM.out HIW.out hl ⟨_, _, _, rfl⟩ ⟨_, _, _, rfl⟩
   have e1 : (List.range gn).map (eA (cN cd G) gn []) = jF cd G := by
    unfold jF
    rw [eM.out]
    apply List.map_congr_left
    intro i hi
    unfold eA
    rw [if_pos (List.mem_range.1 hi)]
   have e2 : ((List.range gn).map fun i => (eA (cN cd G) gn [] i).any mZ) = fy cd G := by
    rw [fy, ← e1, List.map_map]; rfl
   rw [e1, e2] at hF
   refine ⟨.inl ⟨OS.out, M4.out, ⟨sp, _, _, _, D, rfl, hF, HDW.out⟩⟩, ?_⟩
   ·refine Below.setCell (BW.out.trans (B2.out.mono BW.out.size)) ?_ _
    have h9 := HM.out.sV
    have := BX.out.size
    have := BV.out.size
    show w.heap.size ≤ sp
    omega
end
section
open Go.RowKit
open Classical in
noncomputable def kM (G : List aZ) : List Int := if h : ∃ D, fD G D then Classical.choose h else []
theorem fD.eq {G : List aZ} {P : List (List Int)} {D : List Int} (hV : cm G P) (hn : G.length ≤ 5000) (h : fD G D) : kM G = D := by
 have he : ∃ D, fD G D := ⟨D, h⟩
 have h1 : kM G = Classical.choose he := by unfold kM; rw [dif_pos he]
 have h2 : fD G (Classical.choose he) := Classical.choose_spec he
 rw [← h1] at h2
 obtain ⟨gr, -⟩ := rO (List.length_pos_iff.2 hV.ne) (GB.of hV hn).lt
 exact Exact.unique gr h2.ti h.ti h2.ex h.ex h2.all h.all
def I5 (G : List aZ) : Prop := ∀ b, b < G.length → b ∈ dN G.length (cU G)
noncomputable def JL (cd : Nat → Int) (G : List aZ) (x : Lp) : List Bool := fk G (fy cd G) (kM G) x.h.toNat x.bl (x.la.map Int.toNat) G.length
noncomputable def dU (cd : Nat → Int) (G : List aZ) (x : Lp) (bP : Int) : Int × Bool := tL bP (jk bP (gO G.length x.bl) (JL cd G x) (jF cd G) G.length)
open Classical in
noncomputable def iM (n : Nat) (cd : Nat → Int) (G : List aZ) (P : List (List Int)) (x : Lp) (bP : Int) : Int × Bool :=
 if cm G P ∧ jK n cd G ∧ oI G.length x = true then dU cd G x bP else (0, false)
noncomputable def qg (f : Int → Int × Bool) : List Int → Int × Int × Bool
 | [] => (0, 0, false)
 | r :: l => if (f r).2 = true then (r, (f r).1, true) else qg f l
def gI : List Int := [10, 11, 12, 13]
def dH (s : Int × Bool) (x : Int × Bool) : Int × Bool := if x.2 = true ∧ (s.2 = false ∨ x.1 < s.1) then (x.1, true) else s
noncomputable def tj (cd : Nat → Int) (G : List aZ) (rl : List Bool) (x : Lp) : Int × Bool :=
 if rl.getD x.h.toNat false = true then (gI.map (dU cd G x)).foldl dH (0, false) else (0, true)
noncomputable def lD (cd : Nat → Int) (G : List aZ) (rl : List Bool) : List Lp → List Int → List Int ⊕ Int
 | [], acc => .inl acc
 | x :: L, acc => if (tj cd G rl x).2 = true then lD cd G rl L (acc ++ [(tj cd G rl x).1]) else .inr x.h
theorem uD {cd : Nat → Int} {G : List aZ} {rl : List Bool} : ∀ {L : List Lp} {acc out : List Int}, lD cd G rl L acc = .inl out → ∀ (x : Lp), lD cd G rl (L ++ [x]) acc = if (tj cd G rl x).2 = true then .inl (out ++ [(tj cd G rl x).1]) else .inr x.h
 | [], acc, out, h, x => by
  cases h
  simp [lD]
 | y :: L, acc, out, h, x => by
  simp only [lD, List.cons_append] at h ⊢
  split at h
  ·rename_i h1
   rw [if_pos h1]
   exact uD h x
  ·cases h
theorem uC {cd : Nat → Int} {G : List aZ} {rl : List Bool} {b : Int} : ∀ {L : List Lp} {acc : List Int}, lD cd G rl L acc = .inr b → ∀ (M : List Lp), lD cd G rl (L ++ M) acc = .inr b
 | [], acc, h, M => by cases h
 | y :: L, acc, h, M => by
  simp only [lD, List.cons_append] at h ⊢
  split at h
  ·rename_i h1
   rw [if_pos h1]
   exact uC h M
  ·rename_i h1
   rw [if_neg h1]
   exact h
theorem BC {n : Nat} {cd : Nat → Int} {G : List aZ} (hw : ∀ i, i < n → 0 ≤ cd i ∧ cd i < 4294967296) (hl : ∀ x ∈ G, 0 ≤ x.lo) (h : jK n cd G) : ∀ l ∈ jF cd G, ∀ i ∈ l, 0 ≤ i.op := by
 intro l hl' i hi
 obtain ⟨k, hk, rfl⟩ := List.mem_map.1 hl'
 have hk := List.mem_range.1 hk
 unfold cN codeFrom at hi
 obtain ⟨j, hj, rfl⟩ := List.mem_map.1 hi
 have hj := List.mem_range.1 hj
 have e : G.getD k ⟨0, 0, []⟩ = G[k] := by simp [List.getD, List.getElem?_eq_getElem hk]
 rw [e] at hj ⊢
 have h0 := hl _ (List.getElem_mem hk)
 obtain ⟨a, ha⟩ : ∃ a : Nat, (G[k]).lo + (j : Int) = (a : Int) := ⟨((G[k]).lo + (j : Int)).toNat, by omega⟩
 rw [ha]
 have h1 := h _ (List.getElem_mem hk) a agO agO
 obtain ⟨q, hq, _⟩ := oW (hw a h1.1).1 h1.2
 have h2 := hq.op
 unfold au
 rw [Int.toNat_natCast]
 omega
theorem Ed {n : Nat} {cd : Nat → Int} {G : List aZ} (hl : ∀ x ∈ G, 0 ≤ x.lo) (h : jK n cd G) (k : Nat) : (cN cd G k).length ≤ n := by
 unfold cN
 rw [ep]
 by_cases hk : k < G.length
 ·rw [show G.getD k ⟨0, 0, []⟩ = G[k] by simp [List.getD, List.getElem?_eq_getElem hk]]
  have h0 := hl _ (List.getElem_mem hk)
  by_cases hlt : (G[k]).lo < (G[k]).hi
  ·have := h _ (List.getElem_mem hk) ((G[k]).hi - 1).toNat agO agO
   omega
  ·omega
 ·rw [show G.getD k ⟨0, 0, []⟩ = ⟨0, 0, []⟩ by simp [List.getD, List.getElem?_eq_none (by omega : G.length ≤ k)]]
  simp
theorem GQ {C : List (List Ins)} {m : Nat} (h : ∀ l ∈ C, l.length ≤ m) : C.flatten.length ≤ C.length * m := by
 induction C with
 | nil => simp
 | cons l C ih =>
  have h1 := h l agT
  have h2 := ih (fun x hx => h x (by simp [hx]))
  rw [List.flatten_cons, List.length_append, List.length_cons, Nat.succ_mul]
  omega
theorem yu {n : Nat} {cd : Nat → Int} {G : List aZ} (hn : n ≤ 1000000) (hg : G.length ≤ 5000) (hl : ∀ x ∈ G, 0 ≤ x.lo) (h : jK n cd G) : (jF cd G).flatten.length ≤ 1000000000000000 := by
 have h1 := GQ (C := jF cd G) (m := 1000000) (fun l hl' => by
  obtain ⟨k, hk, rfl⟩ := List.mem_map.1 hl'
  have := Ed hl h k
  omega)
 rw [Ej] at h1
 omega
end
section
open Go.RowKit
theorem zN {W w' : World} (h : Below W.heap.size W w') : (∀ b o, b < W.heap.size → w'.cell? ⟨b, o, none⟩ = W.cell? ⟨b, o, none⟩) ∧ Below W.heap.size W w' := ⟨fun b o hb => h.cell (p := ⟨b, o, none⟩) hb, h⟩
theorem Bj {n : Nat} {l : List Int} (h : eL n l = true) : bT (l.map Int.toNat) = l ∧ ∀ x ∈ l.map Int.toNat, x < n := by
 have h1 := List.all_eq_true.1 (show (l.all fun x => decide (0 ≤ x) && decide (x < (n : Int))) = true from h)
 constructor
 ·unfold bT
  rw [List.map_map]
  conv => rhs; rw [← List.map_id l]
  apply List.map_congr_left
  intro x hx
  have := h1 x hx
  simp only [Bool.and_eq_true, decide_eq_true_eq] at this
  show ((x.toNat : Nat) : Int) = x
  omega
 ·intro x hx
  obtain ⟨y, hy, rfl⟩ := List.mem_map.1 hx
  have := h1 y hy
  simp only [Bool.and_eq_true, decide_eq_true_eq] at this
  omega
theorem uL (cv ev bv pv : Value) (sh lk : Int) (n : Nat) (cd : Nat → Int) (G : List aZ) (P : List (List Int)) (w : World) (T : gL w) (HW : Words w cv n cd) (HG : fF w bv G) (HP : l9 w pv P) (hn : G.length ≤ 5000) (eV : ∀ x ∈ G, x.nx.length ≤ 5000) (x : Lp) (p : Int) (v1 v2 : Value) (H1 : Ints w v1 x.bl) (H2 : Ints w v2 x.la) (hla : x.la.length ≤ 5000000) (HR : cm G P → I5 G) (bP : Int) :
  Calls Tryz.prog 15 #[.agg #[cv, ev, .int .i64 sh, .int .i64 lk], .agg #[bv, pv], .agg #[.int .i64 x.h, v1, v2, .int .i64 p], .int .i64 bP] w fun e w' => e = .returned (.tuple #[.int .i64 (iM n cd G P x bP).1, .bool (iM n cd G P x bP).2]) ∧ Below w.heap.size w w' := by
 obtain ⟨R, hR⟩ : ∃ R, iM n cd G P x bP = R := ⟨_, rfl⟩
 rw [hR]
 obtain ⟨r1, r2⟩ := R
 have MV := ahM hR
 obtain ⟨V, hV⟩ : ∃ V, ((w.alloc (.cells #[cv, ev, .int .i64 sh, .int .i64 lk] 25)).alloc (.cells #[bv, pv] 31)).alloc (.cells #[.int .i64 x.h, v1, v2, .int .i64 p] 46) = V := ⟨_, rfl⟩
 have bV : Below w.heap.size w V := hV ▸ (((Below.refl _ _).alloc (Nat.le_refl _) _).alloc agT _).alloc agX _
 have sV : V.heap.size = w.heap.size + 1 + 1 + 1 := by rw [← hV]; simp
 have k0 : V.heap[w.heap.size]? = some (.cells #[cv, ev, .int .i64 sh, .int .i64 lk] 25 (0, 0)) := by
  rw [← hV, heap_alloc_old _ _ agX, heap_alloc_old _ _ agT]; exact heap_alloc_new _ _
 have k1 : V.heap[w.heap.size + 1]? = some (.cells #[bv, pv] 31 (0, 0)) := by
  rw [← hV, heap_alloc_old _ _ agT]; exact aG _ _ agT
 have k2 : V.heap[w.heap.size + 1 + 1]? = some (.cells #[.int .i64 x.h, v1, v2, .int .i64 p] 46 (0, 0)) := by rw [← hV]; exact aG _ _ agT
 obtain ⟨a0, a1, a2, a3, a4⟩ := cJ k0
 have b0 : V.cell? ⟨w.heap.size + 1, 0, none⟩ = some bv := by simp [World.cell?, k1]
 have b1 : V.cell? ⟨w.heap.size + 1, 1, none⟩ = some pv := by simp [World.cell?, k1]
 have b2 : w.heap.size + 1 < V.heap.size := by omega
 obtain ⟨c0, c1, c2, c3, c4⟩ := cJ k2
 have ow := ahM (nZ cv ev bv pv sh lk n cd G P V (T.below bV) (HW.below bV) (HG.below bV) (HP.below bV) hn eV)
 have BV := ahM bV
 have Js := ahM hla
 have Y7 := ahM HR
 have H1V := ahM (H1.below bV)
 have H2V := ahM (H2.below bV)
 have TV := ahM (T.below bV)
 have S9 := ahM HW.wd
 have YB := ahM HW.le
 have HN5 := ahM hn
 clear k0 k1 k2 bV T HW HG HP eV H1 H2 hla HR hR sV
 go_enter Tryz.func15, Tryz.ntmps15
 go_wp2_with fail
 refine ow.out.mono ?_
 rintro e W ⟨Uw, vG⟩
 have BW := ahM (BV.out.trans (vG.mono BV.out.size))
 rcases Uw with ⟨hval, oU, sp, XD, VT, XB, D, rfl, hS, hT⟩ | ⟨hno, rfl⟩
 case inr =>
  have HF := ahM (show (r1, r2) = (0, false) by rw [← MV.out]; unfold iM; rw [if_neg (fun h => hno ⟨h.1, h.2.1⟩)])
  clear hno vG
  go_wp2_with fail
  go_ret2
  have h := HF.out
  injection h with h2 h3
  exact ⟨by rw [h2, h3]; rfl, BW.out⟩
 have iT := ahM hval
 have wD := ahM oU
 have HS := ahM hS
 have HT := ahM hT
 have IJ := ahM (show ∀ y ∈ G, 0 ≤ y.lo from fun y hy => by obtain ⟨z, hz⟩ := hval.ok; exact hz.lo agO y hy)
 have d0 := (vG.cell (p := ⟨w.heap.size + 1 + 1, 0, none⟩) c4).trans c0
 have d1 := (vG.cell (p := ⟨w.heap.size + 1 + 1, 1, none⟩) c4).trans c1
 have d2 := (vG.cell (p := ⟨w.heap.size + 1 + 1, 2, none⟩) c4).trans c2
 have d3 := (vG.cell (p := ⟨w.heap.size + 1 + 1, 3, none⟩) c4).trans c3
 have sW := vG.size
 have d4 : w.heap.size + 1 + 1 < W.heap.size := by omega
 have VB := ahM (H1V.out.below vG)
 have VA := ahM (H2V.out.below vG)
 have TW := ahM (TV.out.below vG)
 clear hval oU hS hT vG a0 a1 a2 a3 a4 b0 b1 b2 c0 c1 c2 c3 c4 H1V H2V TV
 have nt := ahM (mN HS.out hn x p v1 v2 VB.out VA.out)
 obtain ⟨rf, hrf⟩ : ∃ r, oI G.length x = r := ⟨_, rfl⟩
 rw [hrf] at nt
 go_wp2_with fail
 refine nt.out.mono ?_
 rintro e W2 ⟨rfl, hb2⟩
 have B2 := ahM (BW.out.trans (hb2.mono BW.out.size))
 cases rf with
 | false =>
  have HF := ahM (show (r1, r2) = (0, false) by rw [← MV.out]; unfold iM; rw [if_neg (fun h => by rw [hrf] at h; exact absurd h.2.2 agQ)])
  clear hrf hb2
  go_wp2_with fail
  go_ret2
  have h := HF.out
  injection h with h2 h3
  exact ⟨by rw [h2, h3]; rfl, B2.out⟩
 | true =>
  have NJ := hrf
  unfold oI at NJ
  simp only [Bool.and_eq_true] at NJ
  obtain ⟨⟨hk1, hk2⟩, hk3⟩ := NJ
  have hx0 : 0 ≤ x.h ∧ x.h < (G.length : Int) := by
   have h1 := List.all_eq_true.1 (show (([x.h] : List Int).all fun x => decide (0 ≤ x) && decide (x < (G.length : Int))) = true from hk1) x.h agT
   simpa only [Bool.and_eq_true, decide_eq_true_eq] using h1
  have HF := ahM (show (r1, r2) = dU cd G x bP by rw [← MV.out]; unfold iM; rw [if_pos ⟨iT.out, wD.out, hrf⟩])
  have EU := ahM (HS.out.below hb2)
  have Lm := ahM (pO EU.out hn x p v1 v2 (VB.out.below hb2) (VA.out.below hb2) hk2)
  obtain ⟨Gt, hlt⟩ := Bj hk3
  have OY := ahM Gt
  have YF := ahM hlt
  obtain ⟨hx, hhx⟩ : ∃ h : Nat, x.h = (h : Int) := ⟨x.h.toNat, by omega⟩
  have YM := ahM hhx
  clear hhx
  have f0 := (hb2.cell (p := ⟨w.heap.size + 1 + 1, 0, none⟩) d4).trans d0
  have f1 := (hb2.cell (p := ⟨w.heap.size + 1 + 1, 1, none⟩) d4).trans d1
  have f2 := (hb2.cell (p := ⟨w.heap.size + 1 + 1, 2, none⟩) d4).trans d2
  have f3 := (hb2.cell (p := ⟨w.heap.size + 1 + 1, 3, none⟩) d4).trans d3
  have s2 := hb2.size
  have f4 : w.heap.size + 1 + 1 < W2.heap.size := by omega
  have H1X := ahM (VB.out.below hb2)
  have H2X := ahM (VA.out.below hb2)
  have TX := ahM (TW.out.below hb2)
  clear hrf hk1 hk2 hk3 hx0 Gt hlt hb2 d0 d1 d2 d3 d4 VB VA TW HS nt
  go_wp2_with fail
  refine Lm.out.mono ?_
  rintro e W3 ⟨ig, rfl, hin, hb3⟩
  have B3 := ahM (B2.out.trans (hb3.mono B2.out.size))
  have HS3 := ahM (EU.out.below hb3)
  have h0 := (hb3.cell (p := ⟨w.heap.size + 1 + 1, 0, none⟩) f4).trans f0
  have h1 := (hb3.cell (p := ⟨w.heap.size + 1 + 1, 1, none⟩) f4).trans f1
  have h2 := (hb3.cell (p := ⟨w.heap.size + 1 + 1, 2, none⟩) f4).trans f2
  have h3 := (hb3.cell (p := ⟨w.heap.size + 1 + 1, 3, none⟩) f4).trans f3
  have s3 := hb3.size
  have h4 : w.heap.size + 1 + 1 < W3.heap.size := by omega
  have tP := ahM (qB (l := gO G.length x.bl) (by rw [gB]; exact hin))
  obtain ⟨gr, -⟩ := rO (List.length_pos_iff.2 iT.out.ne) (GB.of iT.out hn).lt
  have Vz : Ints W3 v2 (bT (x.la.map Int.toNat)) := by rw [OY.out]; exact H2X.out.below hb3
  have Tl := ahM (fun W (hW : Below W3.heap.size W3 W) => (rC (HS3.out.below hW) (GB.of iT.out hn) gr HT.out hx x.bl (x.la.map Int.toNat) ig G.length v1 v2 p (tP.out.below hW) ((H1X.out.below hb3).below hW) (Vz.below hW) (fun l hl => Y7.out iT.out l (YF.out l hl)) (by rw [List.length_map]; exact Js.out)).mono fun e w' h => (show ∃ (g : Nat) (y : Ext W3), e = .returned (.slice (some ⟨g, 0, none⟩) G.length G.length) ∧ s8 y.w (.slice (some ⟨g, 0, none⟩) G.length G.length) (fk G (fy cd G) D hx x.bl (x.la.map Int.toNat) G.length) ∧ y.w = w' from by
   obtain ⟨g, h1, h2, h3⟩ := h
   exact ⟨g, ⟨w', hW.trans (h3.mono hW.size)⟩, h1, qB (l := fk G (fy cd G) D hx x.bl (x.la.map Int.toNat) G.length) (by rw [jv]; exact h2), rfl⟩))
  rw [YM.out] at h0
  have yZ := ahM (show ∀ (g : Nat) (y : Ext W3), s8 y.w (.slice (some ⟨g, 0, none⟩) G.length G.length) (fk G (fy cd G) D hx x.bl (x.la.map Int.toNat) G.length) → Calls Tryz.prog 47 #[.pointer (some ⟨sp, 0, none⟩), .agg #[.int .i64 (hx : Int), v1, v2, .int .i64 p], .slice (some ⟨ig, 0, none⟩) G.length G.length, .slice (some ⟨g, 0, none⟩) G.length G.length, .int .i64 bP] y.w fun e w' => e = .returned (.tuple #[.int .i64 r1, .bool r2]) ∧ ∃ z : Ext W3, z.w = w' from fun g y hp =>
   (rX (HS3.out.below y.h) hn ((TX.out.below hb3).below y.h) (BC S9.out IJ.out wD.out) (yu YB.out hn IJ.out wD.out) hx p v1 v2 _ _ _ _ (tP.out.below y.h) (gB _ _) hp (jv _ _ _ _ _ _ _) bP).mono fun e w' h => by
    have e1 : tL bP (jk bP (gO G.length x.bl) (fk G (fy cd G) D hx x.bl (x.la.map Int.toNat) G.length) (jF cd G) G.length) = (r1, r2) := by
     rw [HF.out, dU, JL, fD.eq iT.out hn HT.out, YM.out]
     rfl
    rw [e1] at h
    exact ⟨h.1, ⟨w', y.h.trans (h.2.mono y.h.size)⟩, rfl⟩)
  have B3Y := ahM (fun y : Ext W3 => Ext.below B3.out B3.out.size y)
  clear hin hb3 Vz gr f0 f1 f2 f3 f4 EU Lm H1X H2X TX YM
  go_upto_region 5 with fail
  go_region_held3 (fun w' => (∀ b o, b < W3.heap.size → w'.cell? ⟨b, o, none⟩ = W3.cell? ⟨b, o, none⟩) ∧ Below W3.heap.size W3 w') ((refine zN ?_; first | exact Below.drew (Below.refl _ _) | exact Below.refl _ _ | exact Ext.h _))
   (first | (go_at_call 48; refine (Tl.out _ (by first | exact Below.drew (Below.refl _ _) | exact Ext.h _)).mono ?_; rintro e' w' ⟨g, y3, rfl, hp3, rfl⟩) | (go_at_call 47; refine (yZ.out g y3 hp3).mono ?_; rintro e' w' ⟨rfl, y4, rfl⟩))
  all_goals
   have HLB := ahM (B3Y.out y4)
   go_wp2_with fail
   go_ret2
   exact ⟨rfl, HLB.out⟩
end
section
open Go.RowKit
theorem Ec (f : Int → Int × Bool) {l : List Int} {k : Nat} {r : Int} (h : l[k]? = some r) : qg f (l.drop k) = if (f r).2 = true then (r, (f r).1, true) else qg f (l.drop (k + 1)) := by
 have hk := (List.getElem?_eq_some_iff.1 h).1
 rw [List.drop_eq_getElem_cons hk]
 rw [List.getElem?_eq_getElem hk] at h
 cases h
 rfl
def XE (c : Int × Int × Bool) : Value := .tuple #[.int .i64 c.1, .int .i64 c.2.1, .bool c.2.2]
theorem pW (cv ev bv pv : Value) (sh lk : Int) (n : Nat) (cd : Nat → Int) (G : List aZ) (P : List (List Int)) (w : World) (T : gL w) (HW : Words w cv n cd) (HG : fF w bv G) (HP : l9 w pv P) (hn : G.length ≤ 5000) (eV : ∀ x ∈ G, x.nx.length ≤ 5000) (x : Lp) (p : Int) (v1 v2 : Value) (H1 : Ints w v1 x.bl) (H2 : Ints w v2 x.la) (hla : x.la.length ≤ 5000000) (HR : cm G P → I5 G) :
  Calls Tryz.prog 17 #[.agg #[cv, ev, .int .i64 sh, .int .i64 lk], .agg #[bv, pv], .agg #[.int .i64 x.h, v1, v2, .int .i64 p]] w fun e w' => e = .returned (XE (qg (iM n cd G P x) gI)) ∧ Below w.heap.size w w' := by
 obtain ⟨R, hR⟩ : ∃ R, qg (iM n cd G P x) gI = R := ⟨_, rfl⟩
 rw [hR]
 obtain ⟨r1, r2, r3⟩ := R
 have MV := ahM hR
 show Calls _ _ _ w fun e w' => e = .returned (.tuple #[.int .i64 r1, .int .i64 r2, .bool r3]) ∧ _
 obtain ⟨V, hV⟩ : ∃ V, ((w.alloc (.cells #[cv, ev, .int .i64 sh, .int .i64 lk] 25)).alloc (.cells #[bv, pv] 31)).alloc (.cells #[.int .i64 x.h, v1, v2, .int .i64 p] 46) = V := ⟨_, rfl⟩
 have bV : Below w.heap.size w V := hV ▸ (((Below.refl _ _).alloc (Nat.le_refl _) _).alloc agT _).alloc agX _
 have sV : V.heap.size = w.heap.size + 1 + 1 + 1 := by rw [← hV]; simp
 have k0 : V.heap[w.heap.size]? = some (.cells #[cv, ev, .int .i64 sh, .int .i64 lk] 25 (0, 0)) := by
  rw [← hV, heap_alloc_old _ _ agX, heap_alloc_old _ _ agT]; exact heap_alloc_new _ _
 have k1 : V.heap[w.heap.size + 1]? = some (.cells #[bv, pv] 31 (0, 0)) := by
  rw [← hV, heap_alloc_old _ _ agT]; exact aG _ _ agT
 have k2 : V.heap[w.heap.size + 1 + 1]? = some (.cells #[.int .i64 x.h, v1, v2, .int .i64 p] 46 (0, 0)) := by rw [← hV]; exact aG _ _ agT
 have Jv := ahM (show ∀ W bP, Below V.heap.size V W → Calls Tryz.prog 15 #[.agg #[cv, ev, .int .i64 sh, .int .i64 lk], .agg #[bv, pv], .agg #[.int .i64 x.h, v1, v2, .int .i64 p], .int .i64 bP] W fun e w' => e = .returned (.tuple #[.int .i64 (iM n cd G P x bP).1, .bool (iM n cd G P x bP).2]) ∧ Below W.heap.size W w' from fun W bP hb =>
  uL cv ev bv pv sh lk n cd G P W ((T.below bV).below hb) ((HW.below bV).below hb) ((HG.below bV).below hb) ((HP.below bV).below hb) hn eV x p v1 v2 ((H1.below bV).below hb) ((H2.below bV).below hb) hla HR bP)
 have BV := ahM bV
 have K0 := ahM k0
 have K1 := ahM k1
 have K2 := ahM k2
 have SV := ahM sV
 obtain ⟨xh, qE⟩ : ∃ h, x.h = h := ⟨_, rfl⟩
 rw [qE] at K2 Jv
 rw [qE] at hV ⊢
 clear T HW HG HP hn eV H1 H2 hla HR hR k0 k1 k2 bV qE sV
 go_enter Tryz.func17, Tryz.ntmps17
 go_upto_region 2 with fail
 go_loopw [9] (fun a9 wr => ∃ (k : Nat) (r : Int), k ≤ 4 ∧ r = 10 + (k : Int) ∧ a9 = .int .i64 r ∧ qg (iM n cd G P x) (gI.drop k) = (r1, r2, r3) ∧ Below V.heap.size V wr) (fun a9 _ => 14 - (intOf a9).toNat)
 case atStart => exact ⟨0, 10, by omega, rfl, rfl, MV.out, Below.refl _ _⟩
 case round =>
  obtain ⟨k, r, hk, hr, rfl, hc, hb⟩ := hrel
  have yV := ahM hr
  have hr0 : 10 ≤ r := by omega
  have hr4 : r ≤ 14 := by omega
  clear hr
  have HC := ahM hc
  have HB := ahM hb
  have sb := hb.size
  have LB := ahM (BV.out.trans (hb.mono BV.out.size))
  by_cases hlt : r ≤ 13
  ·have dk : decide (r ≤ 13) = true := decide_eq_true hlt
   have hk4 : k < 4 := by have := yV.out; omega
   have sV9 := SV.out
   have h0 := (hb.block _ agO).trans K0.out
   have h1 := (hb.block _ agO).trans K1.out
   have h2 := (hb.block _ agO).trans K2.out
   obtain ⟨a0, a1, a2, a3, a4⟩ := cJ h0
   have b0 : wr.cell? ⟨w.heap.size + 1, 0, none⟩ = some bv := by simp [World.cell?, h1]
   have b1 : wr.cell? ⟨w.heap.size + 1, 1, none⟩ = some pv := by simp [World.cell?, h1]
   have b2 : w.heap.size + 1 < wr.heap.size := by omega
   clear sV9
   obtain ⟨c0, c1, c2, c3, c4⟩ := cJ h2
   obtain ⟨B, hB⟩ : ∃ B, iM n cd G P x r = B := ⟨_, rfl⟩
   obtain ⟨B1, B2⟩ := B
   have HX := ahM (show Calls Tryz.prog 15 #[.agg #[cv, ev, .int .i64 sh, .int .i64 lk], .agg #[bv, pv], .agg #[.int .i64 xh, v1, v2, .int .i64 p], .int .i64 r] wr fun e w' => e = .returned (.tuple #[.int .i64 B1, .bool B2]) ∧ Below wr.heap.size wr w' from by
    have := Jv.out wr r hb
    rw [hB] at this
    exact this)
   have hat : gI[k]? = some r := by
    rw [yV.out]
    match k, hk4 with
    | 0, _ => rfl
    | 1, _ => rfl
    | 2, _ => rfl
    | 3, _ => rfl
   have hst := Ec (iM n cd G P x) hat
   rw [hB, hc] at hst
   have HST := ahM hst
   clear hc hb h0 h1 h2 hB hat hst
   cases B2 with
   | true =>
    have HF := ahM (show r1 = r ∧ r2 = B1 ∧ r3 = true from by
     have h := HST.out
     rw [if_pos rfl] at h
     injection h with h1 h2
     injection h2 with h2 h3
     exact ⟨h1, h2, h3⟩)
    go_wp2_with (go_at_call 15; refine HX.out.mono ?_; rintro e w' ⟨rfl, hb2⟩; have B2 := ahM hb2; clear hb2)
    go_ret3
    obtain ⟨e1, e2, e3⟩ := HF.out
    exact ⟨by rw [e1, e2, e3]; rfl, LB.out.trans (B2.out.mono LB.out.size)⟩
   | false =>
    have HF := ahM (show qg (iM n cd G P x) (gI.drop (k + 1)) = (r1, r2, r3) from by
     have h := HST.out
     rw [if_neg agT] at h
     exact h.symm)
    go_wp2_with (go_at_call 15; refine HX.out.mono ?_; rintro e w' ⟨rfl, hb2⟩; have B2 := ahM hb2; clear hb2)
    go_roundw
    case rel => exact ⟨k + 1, r + 1, by omega, by have := yV.out; omega, rfl, HF.out, HB.out.trans (B2.out.mono HB.out.size)⟩
    case measure => simp [intOf]; omega
  ·obtain rfl : k = 4 := by have := yV.out; omega
   have dk : decide (r ≤ 13) = false := decide_eq_false hlt
   have HF := ahM (show r1 = 0 ∧ r2 = 0 ∧ r3 = false from by
    have h : qg (iM n cd G P x) [] = (r1, r2, r3) := HC.out
    injection h with h1 h2
    injection h2 with h2 h3
    exact ⟨h1.symm, h2.symm, h3.symm⟩)
   clear hc hb
   go_wp2_with fail
   go_ret3
   obtain ⟨e1, e2, e3⟩ := HF.out
   exact ⟨by rw [e1, e2, e3]; rfl, LB.out⟩
end
section
open Go.RowKit
def oy (n : Nat) (cd : Nat → Int) (G : List aZ) (P : List (List Int)) (L : List Lp) (rl : List Bool) (il : Nat) : Prop := cm G P ∧ jK n cd G ∧ rl.length = G.length ∧ il = G.length ∧ ∀ x ∈ L, oI G.length x = true
def Za (w' : World) (r : List Int ⊕ Int) (e : Ending) : Prop := match r with
 | .inl out => ∃ ov, e = .returned (.tuple #[ov, .int .i64 (-1), .int .i64 0]) ∧ Ints w' ov out
 | .inr h => e = .returned (.tuple #[.slice none 0 0, .int .i64 h, .int .i64 16])
structure Zb (n : Nat) (cd : Nat → Int) (G : List aZ) (P : List (List Int)) (L : List Lp) (rl : List Bool) (il : Nat) (w' : World) (e : Ending) : Prop where
 yes : oy n cd G P L rl il → Za w' (lD cd G rl L []) e
 no : ¬ oy n cd G P L rl il → e = .returned (.tuple #[.slice none 0 0, .int .i64 (-1), .int .i64 3])
theorem sI.at_ {w wr : World} {A : Option Addr} {m cap : Nat} {L : List Lp} (h : sI w (.slice A m cap) L) (hb : Below w.heap.size w wr) {k : Nat} (hk : k < L.length) : ∃ b off x A1 m1 cp1 A2 m2 cp2, ∃ p : Int, A = some ⟨b, off, none⟩ ∧ b < w.heap.size ∧ L[k]? = some x ∧ wr.cell? ⟨b, off + k * 4, none⟩ = some (.int .i64 x.h) ∧ wr.cell? ⟨b, off + k * 4 + 1, none⟩ = some (.slice A1 m1 cp1) ∧ wr.cell? ⟨b, off + k * 4 + 2, none⟩ = some (.slice A2 m2 cp2) ∧ wr.cell? ⟨b, off + k * 4 + 3, none⟩ = some (.int .i64 p) ∧ Ints w (.slice A1 m1 cp1) x.bl ∧ Ints w (.slice A2 m2 cp2) x.la := by
 obtain ⟨A', cap', e1, _, _, h4⟩ := h
 cases e1
 obtain ⟨b, off, rfl, hlt, hc⟩ := h4 agO
 obtain ⟨h1, ⟨v, h2, h3⟩, ⟨u, h5, h6⟩, p, h7⟩ := hc k _ (List.getElem?_eq_getElem hk)
 obtain ⟨A1, c1, rfl, -, -⟩ := h3.slice
 obtain ⟨A2, c2, rfl, -, -⟩ := h6.slice
 exact ⟨b, off, _, A1, _, c1, A2, _, c2, p, rfl, hlt, List.getElem?_eq_getElem hk, (hb.cell (p := ⟨b, _, none⟩) hlt).trans h1, (hb.cell (p := ⟨b, _, none⟩) hlt).trans h2, (hb.cell (p := ⟨b, _, none⟩) hlt).trans h5, (hb.cell (p := ⟨b, _, none⟩) hlt).trans h7, h3, h6⟩
theorem sI.slice {w : World} {v : Value} {L : List Lp} (h : sI w v L) : ∃ A cap, v = .slice A L.length cap ∧ L.length ≤ cap ∧ cap ≤ 2 ^ 63 - 1 := by
 obtain ⟨A, cap, h1, h2, h3, _⟩ := h
 unfold maxLen at h3
 exact ⟨A, cap, h1, h2, h3⟩
theorem rj {n : Nat} {x : Lp} (h : oI n x = true) : (∃ hx : Nat, x.h = (hx : Int) ∧ hx < n) ∧ eL n x.bl = true ∧ eL n x.la = true := by
 unfold oI at h
 simp only [Bool.and_eq_true] at h
 have h1 := List.all_eq_true.1 (show (([x.h] : List Int).all fun x => decide (0 ≤ x) && decide (x < (n : Int))) = true from h.1.1) x.h agT
 simp only [Bool.and_eq_true, decide_eq_true_eq] at h1
 exact ⟨⟨x.h.toNat, by omega, by omega⟩, h.1.2, h.2⟩
theorem FT (f : Int → Int × Bool) {l : List Int} {k : Nat} {r : Int} (h : l[k]? = some r) (s : Int × Bool) : ((l.take (k + 1)).map f).foldl dH s = dH (((l.take k).map f).foldl dH s) (f r) := by
 rw [List.take_add_one, h]
 simp
theorem uN (cv ev bv pv : Value) (sh lk : Int) (n : Nat) (cd : Nat → Int) (G : List aZ) (P : List (List Int)) (w : World) (T : gL w) (HW : Words w cv n cd) (HG : fF w bv G) (HP : l9 w pv P) (hn : G.length ≤ 5000) (eV : ∀ x ∈ G, x.nx.length ≤ 5000) (L : List Lp) (lv : Value) (HL : sI w lv L) (hL : L.length ≤ 1000000) (hla : ∀ x ∈ L, x.la.length ≤ 5000000) (rl : List Bool) (rv iv dv : Value) (HRL : s8 w rv rl) (il : Nat) (hiv : ∃ A cap, iv = .slice A il cap ∧ il ≤ cap ∧ cap ≤ maxLen) (HR : cm G P → I5 G) :
  Calls Tryz.prog 20 #[.agg #[cv, ev, .int .i64 sh, .int .i64 lk], .agg #[bv, pv], lv, .agg #[rv, iv, dv]] w fun e w' => Zb n cd G P L rl il w' e ∧ Below w.heap.size w w' := by
 obtain ⟨LA, xI, rfl, hl1, hl2⟩ := HL.slice
 obtain ⟨yQ, jt, EJ, hr1, hr2, hr4⟩ := id HRL
 obtain ⟨IA, fA, rfl, hi1, hi2⟩ := hiv
 have WC := dY hr2
 have xT := dY hi2
 obtain ⟨GA, aW, mH, hg1, hg2⟩ := HG.slice
 obtain ⟨ln, DG⟩ : ∃ m, L.length = m := ⟨_, rfl⟩
 obtain ⟨gn, hgn⟩ : ∃ m, G.length = m := ⟨_, rfl⟩
 obtain ⟨rn, WA⟩ : ∃ m, rl.length = m := ⟨_, rfl⟩
 rw [DG] at hl1 hL
 rw [hgn] at mH hg1 hn
 rw [WA] at EJ hr1
 subst EJ
 obtain ⟨V, hV⟩ : ∃ V, ((w.alloc (.cells #[cv, ev, .int .i64 sh, .int .i64 lk] 25)).alloc (.cells #[bv, pv] 31)).alloc (.cells #[.slice yQ rn jt, .slice IA il fA, dv] 59) = V := ⟨_, rfl⟩
 have bV : Below w.heap.size w V := hV ▸ (((Below.refl _ _).alloc (Nat.le_refl _) _).alloc agT _).alloc agX _
 have sV : V.heap.size = w.heap.size + 1 + 1 + 1 := by rw [← hV]; simp
 have k0 : V.heap[w.heap.size]? = some (.cells #[cv, ev, .int .i64 sh, .int .i64 lk] 25 (0, 0)) := by
  rw [← hV, heap_alloc_old _ _ agX, heap_alloc_old _ _ agT]; exact heap_alloc_new _ _
 have k1 : V.heap[w.heap.size + 1]? = some (.cells #[bv, pv] 31 (0, 0)) := by
  rw [← hV, heap_alloc_old _ _ agT]; exact aG _ _ agT
 have k2 : V.heap[w.heap.size + 1 + 1]? = some (.cells #[.slice yQ rn jt, .slice IA il fA, dv] 59 (0, 0)) := by rw [← hV]; exact aG _ _ agT
 obtain ⟨a0, a1, a2, a3, a4⟩ := cJ k0
 have b0 : V.cell? ⟨w.heap.size + 1, 0, none⟩ = some bv := by simp [World.cell?, k1]
 have b1 : V.cell? ⟨w.heap.size + 1, 1, none⟩ = some pv := by simp [World.cell?, k1]
 have b2 : w.heap.size + 1 < V.heap.size := by omega
 have c0 : V.cell? ⟨w.heap.size + 1 + 1, 0, none⟩ = some (.slice yQ rn jt) := by simp [World.cell?, k2]
 have c1 : V.cell? ⟨w.heap.size + 1 + 1, 1, none⟩ = some (.slice IA il fA) := by simp [World.cell?, k2]
 have c4 : w.heap.size + 1 + 1 < V.heap.size := by omega
 have ow := ahM (nZ cv ev bv pv sh lk n cd G P V (T.below bV) (HW.below bV) (HG.below bV) (HP.below bV) (by rw [hgn]; exact hn) eV)
 have BV := ahM bV
 have SV := ahM sV
 have Js := ahM hla
 have Y7 := ahM HR
 have TV := ahM (T.below bV)
 have S9 := ahM HW.wd
 have YB := ahM HW.le
 have EW := ahM DG
 have eM := ahM hgn
 have Jp := ahM WA
 rw [DG] at HL ⊢
 have Jr := ahM HL
 have Lj := ahM hr4
 clear k0 k1 k2 bV T HW HG HP eV HL hla HR hr4 HRL DG hgn WA hr2 hi2 sV
 subst mH
 go_enter Tryz.func20, Tryz.ntmps20
 go_wp2_with fail
 refine ow.out.mono ?_
 rintro e W ⟨Uw, vG⟩
 have BW := ahM (BV.out.trans (vG.mono BV.out.size))
 have d0 := (vG.cell (p := ⟨w.heap.size + 1, 0, none⟩) b2).trans b0
 have d1 := (vG.cell (p := ⟨w.heap.size + 1 + 1, 0, none⟩) c4).trans c0
 have d2 := (vG.cell (p := ⟨w.heap.size + 1 + 1, 1, none⟩) c4).trans c1
 have sW := vG.size
 have d3 : w.heap.size + 1 < W.heap.size := by omega
 have d4 : w.heap.size + 1 + 1 < W.heap.size := by omega
 have TW := ahM (TV.out.below vG)
 clear a0 a1 a2 a3 a4 b0 b1 b2 c0 c1 c4 TV vG hV
 rcases Uw with ⟨hval, oU, sp, XD, VT, XB, D, rfl, hS, hT⟩ | ⟨hno, rfl⟩
 case inr =>
  have mL := ahM (show ¬ oy n cd G P L rl il from fun h => hno ⟨h.1, h.2.1⟩)
  clear hno
  go_wp2_with fail
  go_ret3
  exact ⟨⟨fun h => absurd h mL.out, fun _ => rfl⟩, BW.out⟩
 have iT := ahM hval
 have wD := ahM oU
 have HS := ahM hS
 have HT := ahM hT
 have IJ := ahM (show ∀ y ∈ G, 0 ≤ y.lo from fun y hy => by obtain ⟨z, hz⟩ := hval.ok; exact hz.lo agO y hy)
 clear hval oU hS hT
 by_cases hrg : rn = gn
 case neg =>
  have e1 : ((rn : Int) != (gn : Int)) = true := by simp; omega
  have mL := ahM (show ¬ oy n cd G P L rl il from fun h => hrg (by have := h.2.2.1; rw [Jp.out, eM.out] at this; exact this))
  clear hrg
  go_wp2_with fail
  go_ret3
  exact ⟨⟨fun h => absurd h mL.out, fun _ => rfl⟩, BW.out⟩
 have e1 : ((rn : Int) != (gn : Int)) = false := by simp [hrg]
 by_cases Rx : il = gn
 case neg =>
  have e2 : ((il : Int) != (gn : Int)) = true := by simp; omega
  have mL := ahM (show ¬ oy n cd G P L rl il from fun h => Rx (by have := h.2.2.2.1; rw [eM.out] at this; exact this))
  clear Rx hrg
  go_wp2_with fail
  go_ret3
  exact ⟨⟨fun h => absurd h mL.out, fun _ => rfl⟩, BW.out⟩
 have e2 : ((il : Int) != (gn : Int)) = false := by simp [Rx]
 have kH := ahM hrg
 have O3 := ahM Rx
 clear hrg Rx
 go_upto_region 5 with fail
 have D1 := ahM d1
 clear d0 d1 d2 e1 e2 d3
 go_loopw [53] (fun a53 wr => ∃ k : Nat, k ≤ ln ∧ a53 = .int .i64 (k : Int) ∧ (∀ i x, i < k → L[i]? = some x → oI gn x = true) ∧ Below W.heap.size W wr) (fun a53 _ => ln - (intOf a53).toNat)
 case atStart => exact ⟨0, by omega, rfl, fun i x h => by omega, Below.refl _ _⟩
 case round =>
  obtain ⟨k, hk, rfl, hrf, hb⟩ := hrel
  have nt := ahM hrf
  have HB := ahM hb
  have Cn := ahM (BW.out.trans (hb.mono BW.out.size))
  have sb := hb.size
  clear hrf
  by_cases hlt : k < ln
  ·have dk : decide ((k : Int) < (ln : Int)) = true := decide_eq_true agO
   have ikl : (k : Int) < (ln : Int) := by omega
   obtain ⟨lb, lo, x, A1, m1, cp1, A2, m2, cp2, p, rfl, hlb, hx, q0, q1, q2, q3, DN, xT⟩ := Jr.out.at_ Cn.out (k := k) (by rw [EW.out]; exact hlt)
   have Qz : lb < wr.heap.size := by have := Cn.out.size; omega
   have Yi := ahM (mN (HS.out.below hb) ahb x p (.slice A1 m1 cp1) (.slice A2 m2 cp2) (DN.below Cn.out) (xT.below Cn.out))
   obtain ⟨Y, hY⟩ : ∃ Y, wr.alloc (.cells #[.int .i64 x.h, (.slice A1 m1 cp1), (.slice A2 m2 cp2), .int .i64 p] 46) = Y := ⟨_, rfl⟩
   have bY : Below wr.heap.size wr Y := hY ▸ (Below.refl _ _).alloc (Nat.le_refl _) _
   obtain ⟨b14, N2⟩ : ∃ b, wr.heap.size = b := ⟨_, rfl⟩
   have kY : Y.heap[b14]? = some (.cells #[.int .i64 x.h, (.slice A1 m1 cp1), (.slice A2 m2 cp2), .int .i64 p] 46 (0, 0)) := by rw [← N2, ← hY]; exact heap_alloc_new _ _
   obtain ⟨y0, y1, y2, y3, y4⟩ := cJ kY
   have NI := mN (HS.out.below (hb.trans (bY.mono hb.size))) ahb x p (.slice A1 m1 cp1) (.slice A2 m2 cp2) ((DN.below Cn.out).below bY) ((xT.below Cn.out).below bY)
   obtain ⟨rf, hrf⟩ : ∃ r, oI gn x = r := ⟨_, rfl⟩
   rw [eM.out, hrf] at NI
   have Qd := ahM NI
   have Th := ahM hrf
   have HX := ahM hx
   have VI := ahM bY
   obtain ⟨xh, qE⟩ : ∃ h, x.h = h := ⟨_, rfl⟩
   rw [qE] at q0 Qd hY y0
   clear kY hb hx DN xT hrf NI bY Yi qE
   cases rf with
   | false =>
    have mL := ahM (show ¬ oy n cd G P L rl il from fun h => by
     have h1 := h.2.2.2.2 x (List.mem_of_getElem? HX.out)
     rw [eM.out, Th.out] at h1
     cases h1)
    go_wp2_with (go_at_call 45; refine Qd.out.mono ?_; rintro e w' ⟨rfl, hb2⟩; have B2 := ahM (Cn.out.trans ((VI.out.trans (hb2.mono VI.out.size)).mono Cn.out.size)); clear hb2)
    go_ret3
    exact ⟨⟨fun h => absurd h mL.out, fun _ => rfl⟩, B2.out⟩
   | true =>
    have wq := ahM (show ∀ i y, i < k + 1 → L[i]? = some y → oI gn y = true from fun i y hi hy => by
     by_cases e : i = k
     ·subst e
      rw [HX.out] at hy
      cases hy
      exact Th.out
     ·exact nt.out i y agO hy)
    go_wp2_with (go_at_call 45; refine Qd.out.mono ?_; rintro e w' ⟨rfl, hb2⟩; have B2 := ahM (HB.out.trans ((VI.out.trans (hb2.mono VI.out.size)).mono HB.out.size)); clear hb2)
    go_roundw
    case rel => exact ⟨k + 1, by omega, by go_num, wq.out, B2.out⟩
    case measure => simp [intOf]; omega
  ·obtain rfl : ln = k := by omega
   have dk : decide ((ln : Int) < (ln : Int)) = false := by simp
   have Uc := ahM (show ∀ x ∈ L, oI gn x = true from fun x hx => by
    obtain ⟨i, hi⟩ := List.mem_iff_getElem?.1 hx
    exact nt.out i x (by rw [← EW.out]; exact (List.getElem?_eq_some_iff.1 hi).1) hi)
   have sK := ahM (show oy n cd G P L rl il from ⟨iT.out, wD.out, by rw [Jp.out, eM.out]; exact kH.out, by rw [eM.out]; exact O3.out, by rw [eM.out]; exact Uc.out⟩)
   obtain ⟨iI, pR, pT, nR, nQ⟩ := info_parts nP
   obtain ⟨cI, NW⟩ : ∃ c, madeCells (Value.int .i64 0).cells (ln * 1) = c := ⟨_, rfl⟩
   have hcs : cI.size = ln := by rw [← NW]; simp [madeCells]
   have mkI : ∀ W, (Instr.makeSlice 38 (.int .i64 0) (.int .i64 (ln : Int))).run Tryz.prog W = .ok (.slice (some ⟨W.heap.size, 0, none⟩) 0 ln) (W.alloc (.cells cI 3)) := fun W => by
    have hr := run_make (P := Tryz.prog) W 38 3 iI _ Tryz.underlying38 pR pT .i64 .i64 0 (ln : Int) agO agO ahI agO
    rw [nR, Int.toNat_natCast] at hr
    rw [hr, ← NW]
    rfl
   obtain ⟨Y, hY⟩ : ∃ Y, wr.alloc (.cells cI 3) = Y := ⟨_, rfl⟩
   have bY : Below wr.heap.size wr Y := hY ▸ (Below.refl _ _).alloc (Nat.le_refl _) _
   have yG := ahM (show Y.ownsRow W.heap.size 3 1 (.slice (some ⟨wr.heap.size, 0, none⟩) 0 ln) 0 (dQ []) from
    ⟨by simp, .inr ⟨wr.heap.size, ln, cI, rfl, sb, hY ▸ heap_alloc_new _ _, by omega, by unfold maxLen; omega, by rw [hcs]; omega, by simp⟩⟩)
   have BY := ahM (hb.trans (bY.mono hb.size))
   clear hb bY NW hcs nt O3 HB Cn
   go_upto_region 12 with fail
   clear mkI hY
   go_loopw [15, 18, 19, 20, 21, 22, 23, 24, 67] (fun a15 a18 a19 a20 a21 a22 a23 a24 a67 wx => ∃ (k : Nat) (out : List Int), k ≤ ln ∧ a67 = .int .i64 (k : Int) ∧ (lD cd G rl (L.take k) [] = .inl out ∧ out.length = k) ∧ wx.ownsRow W.heap.size 3 1 a15 k (dQ out) ∧ Below W.heap.size W wx) (fun _ _ _ _ _ _ _ _ a67 _ => ln - (intOf a67).toNat)
   case atStart => exact ⟨0, [], by omega, rfl, ⟨rfl, rfl⟩, yG.out, BY.out⟩
   case round =>
    clear yG BY
    obtain ⟨k, out, hk, rfl, ⟨hfn, hol⟩, hown, hb⟩ := hrel
    have O6 := ahM hfn
    have HOL := ahM hol
    have Tt := ahM hown
    have HB := ahM hb
    have Cn := ahM (BW.out.trans (hb.mono BW.out.size))
    have sb' := hb.size
    obtain ⟨oA, rD, hoa⟩ : ∃ oA rD, u15 = Value.slice oA k rD := by
     rcases hown.2 with ⟨h, h'⟩ | ⟨g, cap', cur, h, _⟩
     ·exact ⟨_, _, by rw [h, h']⟩
     ·exact ⟨_, _, h⟩
    subst hoa
    clear hfn hol hown
    by_cases hlt : k < ln
    ·have dk : decide ((k : Int) < (ln : Int)) = true := decide_eq_true agO
     have ikl : (k : Int) < (ln : Int) := by omega
     obtain ⟨lb, lo, x, A1, m1, cp1, A2, m2, cp2, p, rfl, hlb, hx, q0, q1, q2, q3, DN, xT⟩ := Jr.out.at_ Cn.out (k := k) (by rw [EW.out]; exact hlt)
     have Qz : lb < wr.heap.size := by have := Cn.out.size; omega
     obtain ⟨⟨hx', nk, Wq⟩, hkb, hkl⟩ := rj (Uc.out x (List.mem_of_getElem? hx))
     have HX := ahM hx
     have S6 := ahM nk
     have HKB := ahM hkb
     have HKL := ahM hkl
     obtain ⟨Y, hY⟩ : ∃ Y, wr.alloc (.cells #[.int .i64 (hx' : Int), (.slice A1 m1 cp1), (.slice A2 m2 cp2), .int .i64 p] 46) = Y := ⟨_, rfl⟩
     obtain ⟨b17, Gy⟩ : ∃ b, wr.heap.size = b := ⟨_, rfl⟩
     have bY : Below wr.heap.size wr Y := hY ▸ (Below.refl _ _).alloc (Nat.le_refl _) _
     have kY : Y.heap[b17]? = some (.cells #[.int .i64 (hx' : Int), (.slice A1 m1 cp1), (.slice A2 m2 cp2), .int .i64 p] 46 (0, 0)) := by rw [← Gy, ← hY]; exact heap_alloc_new _ _
     obtain ⟨y0, y1, y2, y3, y4⟩ := cJ kY
     have BY := ahM (hb.trans (bY.mono hb.size))
     have BYR := ahM bY
     have Su : Below w.heap.size w Y := Cn.out.trans (bY.mono Cn.out.size)
     have H1Y := ahM (DN.below Su)
     have Vz := ahM (xT.below Su)
     have sy := BY.out.size
     obtain ⟨rb, ro, hra, hrb, hrc⟩ := Lj.out (by rw [Jp.out, kH.out]; omega)
     have xr : Y.cell? ⟨rb, ro + hx', none⟩ = some (.bool (rl.getD hx' false)) := (Su.cell (p := ⟨rb, _, none⟩) hrb).trans (hrc hx' (by rw [Jp.out, kH.out]; exact Wq))
     have srb : rb < Y.heap.size := by have := Su.size; omega
     have y5 : Y.cell? ⟨w.heap.size + 1 + 1, 0, none⟩ = some (.slice yQ rn jt) := (BY.out.cell (p := ⟨w.heap.size + 1 + 1, 0, none⟩) d4).trans D1.out
     have y6 : w.heap.size + 1 + 1 < Y.heap.size := by omega
     have ixr : (hx' : Int) < (rn : Int) := by rw [kH.out]; omega
     have HOY := ahM (ak Tt.out bY)
     have Ub := ahM (show ∀ (W2 : World) (f : Int) (W' : World) (v' : Value) row, Below W.heap.size W W2 → (W2.alloc (.cells #[.int .i64 f] 3)).grownBy W' row → row = (Value.slice oA k rD).ownBlock → W2.ownsRow W.heap.size 3 1 (.slice oA k rD) k (dQ out) → W'.ownsRow W.heap.size 3 1 v' (k + 1) (dQ out ++ [.int .i64 f]) → W'.ownsRow W.heap.size 3 1 v' (k + 1) (dQ (out ++ [f])) ∧ Below W.heap.size W W' from fun W2 f W' v' row hb2 h1 h2 ho h3 => by
      subst h2
      refine ⟨by simpa [dQ] using h3, (hb2.alloc hb2.size _).grown h1 (by rw [World.size_alloc]; have := hb2.size; omega) (fun k hk => (ho.lt k hk).1)⟩)
     have MS := ahM (show ∀ s, tj cd G rl x = s → lD cd G rl (L.take (k + 1)) [] = if s.2 = true then .inl (out ++ [s.1]) else .inr (hx' : Int) from fun s hs => by
      rw [bR HX.out, uD O6.out, hs, S6.out])
     have Tu := ahM (show ∀ f : Int, (out ++ [f]).length = k + 1 from fun f => by rw [List.length_append, HOL.out]; rfl)
     obtain ⟨r0, hr0⟩ : ∃ r, rl.getD hx' false = r := ⟨_, rfl⟩
     rw [hr0] at xr
     have Tj := ahM hr0
     rw [nk] at q0
     subst hra
     go_upto_region 14 with fail
     clear q0 q1 q2 q3 hx nk hkb hkl bY kY Su hr0 hb DN xT hY
     refine aj agP agP ?_
     repeat (go_big_quiet_step (fail))
     refine wpQuiet_nil ?_
     rintro _ ⟨x1, rfl⟩
     obtain ⟨Z, hZ⟩ : ∃ Z, x1.w = Z := ⟨_, rfl⟩
     have bZ : Below Y.heap.size Y Z := hZ ▸ x1.h
     rw [hZ]
     have z0 := (bZ.cell (p := ⟨b17, 0, none⟩) y4).trans y0
     have z1 := (bZ.cell (p := ⟨b17, 1, none⟩) y4).trans y1
     have z2 := (bZ.cell (p := ⟨b17, 2, none⟩) y4).trans y2
     have z3 := (bZ.cell (p := ⟨b17, 3, none⟩) y4).trans y3
     have sz := bZ.size
     have z4 : b17 < Z.heap.size := by omega
     have BZ := ahM (BY.out.trans (bZ.mono BY.out.size))
     have Yq := ahM (ak HOY.out bZ)
     have H1Z := ahM (H1Y.out.below bZ)
     have H2Z := ahM (Vz.out.below bZ)
     have szW := BZ.out.size
     clear hZ bZ y0 y1 y2 y3 y4 y5 y6 xr srb ixr x1
     cases r0 with
     | false =>
      have P6 := ahM (MS.out (0, true) (by unfold tj; rw [S6.out, Int.toNat_natCast, Tj.out]; rfl))
      go_wp2_with (at_builtin; refine wpList_append_own_at _ rfl (.tmp 115) (.tmp 117) 38 rfl W.heap.size 3 iI (.int .i64 0) 1 8 Tryz.underlying38 pR pT nR nQ rfl agQ (.slice oA k rD) k (dQ out) rfl (Yq.out.alloc _) ⟨Z.heap.size, 0, none⟩ 1 1 [.int .i64 0] rfl rfl (cell_one_new _ _ _) agR agS agO ag0 ?_; intro v' W' hown' hgrow _ jR; have F1 := ahM (Ub.out Z 0 W' v' _ BZ.out hgrow rfl Yq.out hown'); clear hown' hgrow jR)
      go_roundw
      case rel => exact ⟨k + 1, _, by omega, by go_num, ⟨P6.out, Tu.out 0⟩, F1.out.1, F1.out.2⟩
      case measure => simp [intOf]; omega
     | true =>
      obtain ⟨gr, -⟩ := rO (List.length_pos_iff.2 iT.out.ne) (GB.of iT.out ahb).lt
      have Te := ahM (HS.out.below BZ.out)
      have Lm := ahM (pO Te.out ahb x p (.slice A1 m1 cp1) (.slice A2 m2 cp2) H1Z.out H2Z.out (by rw [eM.out]; exact HKB.out))
      rw [S6.out, eM.out] at Lm
      obtain ⟨Gt, Rt⟩ := Bj HKL.out
      have OY := ahM Gt
      have YE := ahM Rt
      clear Gt Rt
      go_wp2_with fail
      refine Lm.out.mono ?_
      rintro e W3 ⟨ig, rfl, hin, hb3⟩
      have t0 := (hb3.cell (p := ⟨b17, 0, none⟩) z4).trans z0
      have t1 := (hb3.cell (p := ⟨b17, 1, none⟩) z4).trans z1
      have t2 := (hb3.cell (p := ⟨b17, 2, none⟩) z4).trans z2
      have t3 := (hb3.cell (p := ⟨b17, 3, none⟩) z4).trans z3
      have s3 := hb3.size
      have t4 : b17 < W3.heap.size := by omega
      have tP := ahM (qB (l := gO gn x.bl) (by rw [gB]; exact hin))
      have Tl := ahM (rC (Te.out.below hb3) (GB.of iT.out ahb) gr HT.out hx' x.bl (x.la.map Int.toNat) ig gn (.slice A1 m1 cp1) (.slice A2 m2 cp2) p (by have := tP.out; rw [eM.out]; exact this) (H1Z.out.below hb3) (by rw [OY.out]; exact H2Z.out.below hb3) (fun l hl => Y7.out iT.out l (by rw [eM.out]; exact YE.out l hl)) (by rw [List.length_map]; exact Js.out x (List.mem_of_getElem? HX.out)))
      rw [eM.out] at Tl
      have B3 := ahM (BZ.out.trans (hb3.mono BZ.out.size))
      have BZ3 := ahM hb3
      clear hin hb3 z0 z1 z2 z3 z4 Lm
      go_wp2_with fail
      refine Tl.out.mono ?_
      rintro e W4 ⟨pg, rfl, ZZ, hb4⟩
      have T0 := ahM ((hb4.cell (p := ⟨b17, 0, none⟩) t4).trans t0)
      have T1 := ahM ((hb4.cell (p := ⟨b17, 1, none⟩) t4).trans t1)
      have T2 := ahM ((hb4.cell (p := ⟨b17, 2, none⟩) t4).trans t2)
      have T3 := ahM ((hb4.cell (p := ⟨b17, 3, none⟩) t4).trans t3)
      have s4 := hb4.size
      have Qv : b17 < W4.heap.size := by omega
      have B4 := ahM (B3.out.trans (hb4.mono B3.out.size))
      have s4W := B4.out.size
      have HPW := ahM (qB (l := fk G (fy cd G) D hx' x.bl (x.la.map Int.toNat) gn) (by rw [jv, eM.out]; exact ZZ))
      have TF := ahM (tP.out.below hb4)
      have BZ4 := ahM (BZ3.out.trans (hb4.mono BZ3.out.size))
      have yZ := ahM (show ∀ (r : Int) (W5 : World), Below W4.heap.size W4 W5 → Calls Tryz.prog 47 #[.pointer (some ⟨sp, 0, none⟩), .agg #[.int .i64 (hx' : Int), (.slice A1 m1 cp1), (.slice A2 m2 cp2), .int .i64 p], .slice (some ⟨ig, 0, none⟩) gn gn, .slice (some ⟨pg, 0, none⟩) gn gn, .int .i64 r] W5 fun e w' => e = .returned (.tuple #[.int .i64 (dU cd G x r).1, .bool (dU cd G x r).2]) ∧ Below W5.heap.size W5 w' from fun r W5 hb5 => by
       have h := rX ((HS.out.below B4.out).below hb5) ahb ((TW.out.below B4.out).below hb5) (BC S9.out IJ.out wD.out) (yu YB.out ahb IJ.out wD.out) hx' p (.slice A1 m1 cp1) (.slice A2 m2 cp2) _ _ _ _ (TF.out.below hb5) (by rw [gB, eM.out]) (HPW.out.below hb5) (by rw [jv]) r
       have e1 : tL r (jk r (gO gn x.bl) (fk G (fy cd G) D hx' x.bl (x.la.map Int.toNat) gn) (jF cd G) gn) = dU cd G x r := by
        rw [dU, JL, fD.eq iT.out ahb HT.out, S6.out, eM.out]
        rfl
       rw [eM.out, e1] at h
       exact h)
      have HL4 := ahM (show tj cd G rl x = (gI.map (dU cd G x)).foldl dH (0, false) from by unfold tj; rw [S6.out, Int.toNat_natCast, Tj.out]; rfl)
      clear ZZ hb4 t0 t1 t2 t3 t4 Tl tP TF HPW
      go_upto_region 19 with fail
      obtain ⟨wo, Gg⟩ : ∃ wo : World, wo = wr := ⟨_, rfl⟩
      subst Gg
      go_loopw [18, 19, 22, 23, 24] (fun a18 a19 a22 a23 a24 wz => ∃ (j : Nat) (r : Int) (s : Int × Bool), j ≤ 4 ∧ r = 10 + (j : Int) ∧ a22 = .int .i64 r ∧ ((gI.take j).map (dU cd G x)).foldl dH (0, false) = s ∧ a18 = .int .i64 s.1 ∧ a19 = .bool s.2 ∧ Below W4.heap.size W4 wz) (fun _ _ a22 _ _ _ => 14 - (intOf a22).toNat)
      case atStart => exact ⟨0, 10, (0, false), by omega, rfl, rfl, rfl, rfl, rfl, Below.refl _ _⟩
      case round =>
       obtain ⟨j, r, s, hj, hr, rfl, hs, rfl, rfl, hb5⟩ := hrel
       have yV := ahM hr
       have hr0 : 10 ≤ r := by omega
       have hr9 : r ≤ 14 := by omega
       clear hr
       obtain ⟨s1, s2⟩ := s
       have Yh := ahM hs
       have EY := ahM hb5
       have s5 := hb5.size
       simp only
       clear hs
       by_cases zU : r ≤ 13
       ·have dj : decide (r ≤ 13) = true := decide_eq_true zU
        have hj4 : j < 4 := by have := yV.out; omega
        have p0 := (hb5.cell (p := ⟨b17, 0, none⟩) Qv).trans T0.out
        have p1 := (hb5.cell (p := ⟨b17, 1, none⟩) Qv).trans T1.out
        have p2 := (hb5.cell (p := ⟨b17, 2, none⟩) Qv).trans T2.out
        have p3 := (hb5.cell (p := ⟨b17, 3, none⟩) Qv).trans T3.out
        have p4 : b17 < wr.heap.size := by omega
        obtain ⟨C, hC⟩ : ∃ C, dU cd G x r = C := ⟨_, rfl⟩
        obtain ⟨c1, c2⟩ := C
        have U6 := ahM (show Calls Tryz.prog 47 #[.pointer (some ⟨sp, 0, none⟩), .agg #[.int .i64 (hx' : Int), (.slice A1 m1 cp1), (.slice A2 m2 cp2), .int .i64 p], .slice (some ⟨ig, 0, none⟩) gn gn, .slice (some ⟨pg, 0, none⟩) gn gn, .int .i64 r] wr fun e w' => e = .returned (.tuple #[.int .i64 c1, .bool c2]) ∧ Below wr.heap.size wr w' from by
         have := yZ.out r wr hb5
         rw [hC] at this
         exact this)
        have hat : gI[j]? = some r := by
         rw [yV.out]
         match j, hj4 with
         | 0, _ => rfl
         | 1, _ => rfl
         | 2, _ => rfl
         | 3, _ => rfl
        have hst := FT (dU cd G x) hat (0, false)
        rw [Yh.out, hC] at hst
        have HST := ahM hst
        obtain ⟨ql, Py⟩ : ∃ q, decide (c1 < s1) = q := ⟨_, rfl⟩
        have Vd := ahM (show (ql = true ↔ c1 < s1) by rw [← Py]; exact decide_eq_true_iff)
        clear hb5 hC hat hst Yh
        rcases c2 with _ | _
        ·have HN := ahM (show ((gI.take (j + 1)).map (dU cd G x)).foldl dH (0, false) = (s1, s2) from by rw [HST.out]; rfl)
         go_wp2_with (go_at_call 47; refine U6.out.mono ?_; rintro e w' ⟨rfl, hb6⟩; have B6 := ahM hb6; clear hb6)
         go_roundw
         case rel => exact ⟨j + 1, r + 1, (s1, s2), by have := yV.out; omega, by have := yV.out; omega, rfl, HN.out, rfl, rfl, EY.out.trans (B6.out.mono EY.out.size)⟩
         case measure => simp [intOf]; omega
        ·rcases s2 with _ | _
         ·have HN := ahM (show ((gI.take (j + 1)).map (dU cd G x)).foldl dH (0, false) = (c1, true) from by rw [HST.out]; simp [dH])
          go_wp2_with (go_at_call 47; refine U6.out.mono ?_; rintro e w' ⟨rfl, hb6⟩; have B6 := ahM hb6; clear hb6)
          go_roundw
          case rel => exact ⟨j + 1, r + 1, (c1, true), by have := yV.out; omega, by have := yV.out; omega, rfl, HN.out, rfl, rfl, EY.out.trans (B6.out.mono EY.out.size)⟩
          case measure => simp [intOf]; omega
         ·rcases ql with _ | _
          ·have HN := ahM (show ((gI.take (j + 1)).map (dU cd G x)).foldl dH (0, false) = (s1, true) from by
            rw [HST.out]; unfold dH; rw [if_neg]; rintro ⟨_, h⟩; rcases h with h | h
            ·cases h
            ·have := Vd.out.2 h; cases this)
           go_wp2_with (go_at_call 47; refine U6.out.mono ?_; rintro e w' ⟨rfl, hb6⟩; have B6 := ahM hb6; clear hb6)
           go_roundw
           case rel => exact ⟨j + 1, r + 1, (s1, true), by have := yV.out; omega, by have := yV.out; omega, rfl, HN.out, rfl, rfl, EY.out.trans (B6.out.mono EY.out.size)⟩
           case measure => simp [intOf]; omega
          ·have HN := ahM (show ((gI.take (j + 1)).map (dU cd G x)).foldl dH (0, false) = (c1, true) from by
            rw [HST.out]; unfold dH; rw [if_pos ⟨rfl, .inr (Vd.out.1 rfl)⟩])
           go_wp2_with (go_at_call 47; refine U6.out.mono ?_; rintro e w' ⟨rfl, hb6⟩; have B6 := ahM hb6; clear hb6)
           go_roundw
           case rel => exact ⟨j + 1, r + 1, (c1, true), by have := yV.out; omega, by have := yV.out; omega, rfl, HN.out, rfl, rfl, EY.out.trans (B6.out.mono EY.out.size)⟩
           case measure => simp [intOf]; omega
       ·obtain rfl : j = 4 := by have := yV.out; omega
        have dj : decide (r ≤ 13) = false := decide_eq_false zU
        have P6 := ahM (MS.out (s1, s2) (by rw [HL4.out]; exact Yh.out))
        have B5 := ahM (B4.out.trans (hb5.mono B4.out.size))
        have p0 := (hb5.cell (p := ⟨b17, 0, none⟩) Qv).trans T0.out
        have p4 : b17 < wr.heap.size := by omega
        have HO5 := ahM (ak (ak Yq.out BZ4.out) hb5)
        have s5W := B5.out.size
        clear hb5
        cases s2 with
        | false =>
         have sM := ahM (show lD cd G rl L [] = .inr (hx' : Int) from by
          have h1 : lD cd G rl (L.take (k + 1)) [] = .inr (hx' : Int) := by rw [P6.out, if_neg agT]
          have h2 := uC h1 (L.drop (k + 1))
          rwa [List.take_append_drop] at h2)
         go_upto_region 25 with fail
         refine aj agP agP ?_
         repeat (go_big_quiet_step (fail))
         refine wpQuiet_nil ?_
         rintro _ ⟨x2, rfl⟩
         have VJ := ahM (BW.out.trans ((B5.out.trans (x2.h.mono B5.out.size)).mono BW.out.size))
         go_wp2_with fail
         go_ret3
         exact ⟨⟨fun _ => by rw [sM.out]; rfl, fun h => absurd sK.out h⟩, VJ.out⟩
        | true =>
         have YG := ahM (show lD cd G rl (L.take (k + 1)) [] = .inl (out ++ [s1]) from by rw [P6.out, if_pos rfl])
         go_wp2_with (at_builtin; refine wpList_append_own_at _ rfl (.tmp 115) (.tmp 117) 38 rfl W.heap.size 3 iI (.int .i64 0) 1 8 Tryz.underlying38 pR pT nR nQ rfl agQ (.slice oA k rD) k (dQ out) rfl (HO5.out.alloc _) ⟨wr.heap.size, 0, none⟩ 1 1 [.int .i64 s1] rfl rfl (cell_one_new _ _ _) agR agS agO ag0 ?_; intro v' W' hown' hgrow _ jR; have F1 := ahM (Ub.out wr s1 W' v' _ B5.out hgrow rfl HO5.out hown'); clear hown' hgrow jR)
         go_roundw
         case rel => exact ⟨k + 1, _, by omega, by go_num, ⟨YG.out, Tu.out s1⟩, F1.out.1, F1.out.2⟩
         case measure => simp [intOf]; omega
    ·obtain rfl : ln = k := by omega
     have dk : decide ((ln : Int) < (ln : Int)) = false := by simp
     have sM := ahM (show lD cd G rl L [] = .inl out from by rw [← O6.out, List.take_of_length_le (by rw [EW.out]; exact Nat.le_refl _)])
     have MZ := ahM (eD (l := out) (by rw [HOL.out]; exact Tt.out))
     have BE := ahM (BW.out.trans (hb.mono BW.out.size))
     clear hb
     go_wp2_with fail
     go_ret3
     exact ⟨⟨fun _ => by rw [sM.out]; exact ⟨_, rfl, MZ.out⟩, fun h => absurd sK.out h⟩, BE.out⟩
end
section
open Go.RowKit
def iX : ByteArray := { data := #[116] }
theorem Er (v : Value) (l : List Ins) (w : World) (T : gL w) (H : SZ w v l) (hl : l.length ≤ 1000) (hop : ∀ x ∈ l, 0 ≤ x.op) :
  Calls Tryz.prog 29 #[v] w fun e w' => (∃ cv ev A cap, e = .returned (.agg #[cv, ev, .int .i64 0, .int .i64 0]) ∧ cv = .slice A l.length cap ∧ w'.ownsRow w.heap.size 70 1 cv l.length (LC (l.map fun i => (encI i).1)) ∧ nj w' ev [⟨iX, 0, l.length, 0⟩]) ∧ Below w.heap.size w w' := by
 obtain ⟨A, cap, rfl, h1, h2, h3⟩ := H.at_
 have HC := ahM h3
 have HT := ahM T
 have wu := ahM hop
 unfold maxLen at h2
 clear h3 T hop H
 obtain ⟨iW, hiW, hW0, hW1, hW2⟩ := info_parts Q7
 go_enter Tryz.func29, Tryz.ntmps29
 go_upto_region 3 with fail
 obtain ⟨V, hV⟩ : ∃ V, ((w.alloc (.cells #[.slice none 0 0, .slice none 0 0, .int .i64 0, .int .i64 0] 25)).alloc (.cells #[.string { data := #[116] }, .int .i64 0, .int .i64 (l.length : Int), .int .i64 0] 75)).alloc (.cells #[.slice none 0 0, .slice (some ⟨w.heap.size + 1, 0, none⟩) 1 1, .int .i64 0, .int .i64 0] 25) = V := ⟨_, rfl⟩
 have sV : V.heap.size = w.heap.size + 3 := by rw [← hV]; simp
 have bV : Below w.heap.size w V := hV ▸ (((Below.refl _ _).alloc (Nat.le_refl _) _).alloc agT _).alloc agX _
 have kr : V.heap[w.heap.size]? = some (.cells #[.slice none 0 0, .slice none 0 0, .int .i64 0, .int .i64 0] 25) := by rw [← hV, heap_alloc_old _ _ (by simp; try omega), heap_alloc_old _ _ agT]; exact heap_alloc_new _ _
 have ke : V.heap[w.heap.size + 1]? = some (.cells #[.string { data := #[116] }, .int .i64 0, .int .i64 (l.length : Int), .int .i64 0] 75) := by rw [← hV, heap_alloc_old _ _ agT]; exact aG _ _ agT
 have ki : V.heap[w.heap.size + 1 + 1]? = some (.cells #[.slice none 0 0, .slice (some ⟨w.heap.size + 1, 0, none⟩) 1 1, .int .i64 0, .int .i64 0] 25) := by rw [← hV]; exact aG _ _ agT
 have O3 := ahM (show IG V V (w.heap.size + 1 + 1) (.slice none 0 0) (.slice (some ⟨w.heap.size + 1, 0, none⟩) 1 1) [] from ⟨by omega, rfl, rfl, rfl, Nat.le_refl _, fun _ _ _ => rfl, ki, World.ownsRow_nil _ _ _ _⟩)
 rw [hV]
 obtain ⟨ib, hib⟩ : ∃ ib, w.heap.size + 1 + 1 = ib := ⟨_, rfl⟩
 rw [hib] at O3 ⊢
 obtain ⟨eb, Xd⟩ : ∃ eb, w.heap.size + 1 = eb := ⟨_, rfl⟩
 rw [Xd] at O3 ke ⊢
 have BV := ahM bV
 have KR := ahM kr
 have KE := ahM ke
 clear hV ki kr ke bV
 go_loopw [4, 5, 6] (fun a4 a5 a6 wr => ∃ (j : Nat) (cv : Value), j ≤ l.length ∧ a4 = .int .i64 (j : Int) ∧ IG V wr ib cv (.slice (some ⟨eb, 0, none⟩) 1 1) ((l.take j).map fun i => (encI i).1)) (fun a4 _ _ _ => l.length - (intOf a4).toNat)
 case atStart => exact ⟨0, _, Nat.zero_le _, rfl, O3.out⟩
 case round =>
  obtain ⟨j, cv, hj, rfl, hG⟩ := hrel
  clear O3
  have HG := ahM hG
  have BW := ahM (hG.base BV.out agO)
  have sB := BW.out.size
  have sB2 := hG.sz
  clear hG
  by_cases hlt : j < l.length
  ·obtain ⟨b, off, rfl, hb, hc⟩ := HC.out agO
   obtain ⟨i, hi⟩ : ∃ i, l[j] = i := ⟨_, rfl⟩
   have hx : l[j]? = some i := by rw [List.getElem?_eq_getElem hlt, hi]
   obtain ⟨c0, c1, c2, c3, c4⟩ := hc j i hx
   have x0 : wr.cell? ⟨b, off + j * 5, none⟩ = some (.int .u8 i.op) := by rw [BW.out.cell (p := ⟨b, _, none⟩) hb]; exact c0
   have x1 : wr.cell? ⟨b, off + j * 5 + 1, none⟩ = some (.int .i64 i.a) := by rw [BW.out.cell (p := ⟨b, _, none⟩) hb]; exact c1
   have x2 : wr.cell? ⟨b, off + j * 5 + 2, none⟩ = some (.int .i64 i.b) := by rw [BW.out.cell (p := ⟨b, _, none⟩) hb]; exact c2
   have x3 : wr.cell? ⟨b, off + j * 5 + 3, none⟩ = some (.int .i64 i.c) := by rw [BW.out.cell (p := ⟨b, _, none⟩) hb]; exact c3
   have x4 : wr.cell? ⟨b, off + j * 5 + 4, none⟩ = some (.int .i64 i.aP) := by rw [BW.out.cell (p := ⟨b, _, none⟩) hb]; exact c4
   have U8 := ahM (show (l.take (j + 1)).map (fun i => (encI i).1) = (l.take j).map (fun i => (encI i).1) ++ [(encI i).1] by rw [bR hx]; simp)
   have hop := wu.out i (List.mem_of_getElem? hx)
   have dl : decide ((j : Int) < (l.length : Int)) = true := by simpa using hlt
   have kf : b < wr.heap.size := by omega
   have Jt := ahM (rR i hop wr (HT.out.below BW.out))
   obtain ⟨ec, er, hec⟩ : ∃ ec er, encI i = (ec, er) := ⟨_, _, rfl⟩
   rw [hec] at Jt U8
   simp only at Jt U8
   obtain ⟨ws, Ut⟩ : ∃ ws, (l.take j).map (fun i => (encI i).1) = ws := ⟨_, rfl⟩
   have hwl : ws.length = j := by rw [← Ut]; simp; omega
   rw [Ut] at HG U8
   have HWL := ahM hwl
   clear hc c0 c1 c2 c3 c4 hx hi hec Ut hwl hop
   go_upto_region 6 with (go_at_call 23; refine Jt.out.mono ?_; rintro e Y ⟨rfl, hbY⟩)
   have Jg := HG.out.below hbY
   obtain ⟨cA, cV, rfl⟩ : ∃ cA cV, cv = .slice cA ws.length cV := by
    rcases Jg.row.2 with ⟨h, h'⟩ | ⟨g, cap', cur, h, _⟩
    ·exact ⟨_, _, by rw [h, h']⟩
    ·exact ⟨_, _, h⟩
   have i0 : Y.cell? ⟨ib, 0, none⟩ = some (.slice cA ws.length cV) := by simp [World.cell?, Jg.im]
   have f0 : Y.frozen? ⟨ib, 0, none⟩ = false := by simp [World.frozen?, Jg.im]
   have YP := ahM Jg
   have Tv := ahM (show some ib ≠ Value.ownBlock (.slice cA ws.length cV) from fun e' => by have := (Jg.row.lt ib e'.symm).1; have := Jg.ib1; omega)
   have hiY : ib < Y.heap.size := by have := Jg.sz; have := Jg.ib1; omega
   have hVY := Jg.sz
   have hw5 : ws.length ≤ 1000 := by have := HWL.out; omega
   clear Jg hbY Jt x0 x1 x2 x3 x4
   go_upto_region 4 with (at_builtin; refine wpList_append_own_at _ rfl (.tmp 27) (.tmp 29) 22 rfl V.heap.size 70 iW (.int .u32 0) 1 4 Tryz.underlying22 hiW hW0 hW1 hW2 rfl agQ (.slice cA ws.length cV) _ _ rfl (YP.out.row.alloc _) ⟨Y.heap.size, 0, none⟩ 1 1 [.int .u32 ec] rfl rfl (cell_one_new _ _ _) agR agS agO ag0 ?_; intro v' W' hown' hgrow _ jR; obtain ⟨g', cap', rfl⟩ := ownsRow_succ hown'; have hc1 := hgrow.cell (a := ⟨ib, 0, none⟩) (v := .slice cA ws.length cV) ag2 Tv.out; have hf1 : W'.frozen? ⟨ib, 0, none⟩ = false := (World.frozen?_of_block (hgrow.block ib agX Tv.out)).trans ag2)
   have HA := ahM (YP.out.app (x := ec) ((Below.refl Y.heap.size Y).alloc (Nat.le_refl _) _) hgrow (by simpa [LC] using hown'))
   clear hc1 hf1 jR hgrow hown' i0 f0 YP Tv
   go_wp2_with fail
   go_roundw
   case rel =>
    refine ⟨j + 1, .slice (some ⟨g', 0, none⟩) (ws.length + 1) cap', by omega, by go_num, ?_⟩
    rw [U8.out]
    exact HA.out
   case measure => simp [intOf]; omega
  ·obtain rfl : j = l.length := by omega
   have dl : decide ((l.length : Int) < (l.length : Int)) = false := by simp
   rw [List.take_length] at HG
   have hwl : (l.map fun i => (encI i).1).length = l.length := by simp
   have hrw := HG.out.row
   rw [hwl] at hrw
   obtain ⟨cA, cV, rfl⟩ : ∃ cA cV, cv = .slice cA l.length cV := by
    rcases hrw.2 with ⟨h, h'⟩ | ⟨g, cap', cur, h, _⟩
    ·exact ⟨_, _, by rw [h, h']⟩
    ·exact ⟨_, _, h⟩
   have i0 : wr.cell? ⟨ib, 0, none⟩ = some (.slice cA l.length cV) := by simp [World.cell?, HG.out.im]
   have i1 : wr.cell? ⟨ib, 1, none⟩ = some (.slice (some ⟨eb, 0, none⟩) 1 1) := by simp [World.cell?, HG.out.im]
   have i2 : wr.cell? ⟨ib, 2, none⟩ = some (.int .i64 0) := by simp [World.cell?, HG.out.im]
   have i3 : wr.cell? ⟨ib, 3, none⟩ = some (.int .i64 0) := by simp [World.cell?, HG.out.im]
   have kr := (HG.out.blk w.heap.size agO agO).trans KR.out
   have ke := (HG.out.blk eb agO agO).trans KE.out
   have r0 : wr.cell? ⟨w.heap.size, 0, none⟩ = some (.slice none 0 0) := by simp [World.cell?, kr]
   have r1 : wr.cell? ⟨w.heap.size, 1, none⟩ = some (.slice none 0 0) := by simp [World.cell?, kr]
   have r2 : wr.cell? ⟨w.heap.size, 2, none⟩ = some (.int .i64 0) := by simp [World.cell?, kr]
   have r3 : wr.cell? ⟨w.heap.size, 3, none⟩ = some (.int .i64 0) := by simp [World.cell?, kr]
   have f0 : wr.frozen? ⟨w.heap.size, 0, none⟩ = false := by simp [World.frozen?, kr]
   have f1 : wr.frozen? ⟨w.heap.size, 1, none⟩ = false := by simp [World.frozen?, kr]
   have f2 : wr.frozen? ⟨w.heap.size, 2, none⟩ = false := by simp [World.frozen?, kr]
   have f3 : wr.frozen? ⟨w.heap.size, 3, none⟩ = false := by simp [World.frozen?, kr]
   have Tf := ahM hrw
   have KE2 := ahM ke
   clear hrw kr ke hwl
   go_wp2_with fail
   refine bodyPost_ret (v := .agg #[.slice cA l.length cV, .slice (some ⟨eb, 0, none⟩) 1 1, .int .i64 0, .int .i64 0]) (by simp [results, Tryz.results29, go_sem, *]) rfl ⟨⟨_, _, _, _, rfl, rfl, ?_, ?_⟩, ?_⟩
   ·refine ownsRow_base (base := V.heap.size) ?_ agO
    have hne : ∀ q, (Value.slice cA l.length cV).ownBlock = some q → q ≠ w.heap.size := fun q hq => by have := (Tf.out.lt q hq).1; omega
    refine ownsRow_setCell_other (ownsRow_setCell_other (ownsRow_setCell_other (ownsRow_setCell_other Tf.out ?_ _) ?_ _) ?_ _) ?_ _ <;> exact fun e => hne _ e rfl
   ·refine ⟨fun e he => by simp at he; subst he; show iX.size ≤ maxLen; unfold maxLen; decide, _, 1, rfl, Nat.le_refl _, by unfold maxLen; omega, fun _ => ⟨eb, 0, rfl, by simp; omega, fun i x hx => ?_⟩⟩
    obtain ⟨rfl, rfl⟩ : i = 0 ∧ x = ⟨iX, 0, l.length, 0⟩ := by
     cases i with
     | zero => simp at hx; exact ⟨rfl, hx.symm⟩
     | succ i => simp at hx
    have hb : ((((wr.setCell ⟨w.heap.size, 0, none⟩ (.slice cA l.length cV)).setCell ⟨w.heap.size, 1, none⟩ (.slice (some ⟨eb, 0, none⟩) 1 1)).setCell ⟨w.heap.size, 2, none⟩ (.int .i64 0)).setCell ⟨w.heap.size, 3, none⟩ (.int .i64 0)).heap[eb]? = wr.heap[eb]? := by
     have : eb ≠ w.heap.size := by omega
     rw [Below.heap_setCell _ _ _ _ this, Below.heap_setCell _ _ _ _ this, Below.heap_setCell _ _ _ _ this, Below.heap_setCell _ _ _ _ this]
    have hb2 := hb.trans KE2.out
    refine ⟨?_, ?_, ?_, ?_⟩ <;> simp [World.cell?, hb2, iX]
   ·refine Below.setCell (Below.setCell (Below.setCell (Below.setCell BW.out ?_ _) ?_ _) ?_ _) ?_ _ <;> exact Nat.le_refl _
end
section
def Pb (nx : Nat → List Nat) (ord : List Nat) (a b : Nat) : Prop := a = b ∨ a ∈ ord ∧ Dom nx a b
structure Imm (n : Nat) (nx : Nat → List Nat) (ord : List Nat) (b a : Nat) : Prop where
 b0 : 0 < b
 hb : b ∈ ord
 ne : a ≠ b
 ha : a ∈ ord
 dom : Pb nx ord a b
 all : ∀ c, c < n → c ≠ b → c ≠ a → c ∈ ord → Pb nx ord c b → Pb nx ord c a
section
variable {n : Nat} {nx : Nat → List Nat} {ord : List Nat} {pos : Nat → Nat} {D : List Int}
theorem gm.aP (g : Gr n nx ord pos) (t : gm n nx ord pos D) {b a : Nat} (e : D.getD b (-1) = (a : Int)) (x : Nat) : Imm n nx ord b x ↔ x = a := by
 have hu := t.ti.up b a e
 have hab : a ≠ b := fun h => by have := hu.2.2.1; rw [h] at this; omega
 have hA : bO D b a := .up e (.self a)
 have hD : Dom nx a b := (t.ex b hu.1 a).1 hA
 constructor
 ·intro h
  have hx : bO D b x := (t.ex b hu.1 x).2 (by
   rcases h.dom with h1 | h1
   ·exact absurd h1 h.ne
   ·exact h1.2)
  rcases (bO.step e).1 hx with h1 | h1
  ·exact absurd h1 h.ne
  ·by_cases ux : x = a
   ·exact ux
   ·rcases h.all a (g.lt a hu.2.1) hab (Ne.symm ux) hu.2.1 (.inr ⟨hu.2.1, hD⟩) with h2 | h2
    ·exact h2.symm
    ·have h3 := (t.ex x h.ha a).2 h2.2
     have h4 := t.ti.le h3
     have h5 := (t.ti.Jk h1).2.2.2 (Ne.symm ux)
     omega
 ·rintro rfl
  refine ⟨?_, hu.1, hab, hu.2.1, .inr ⟨hu.2.1, hD⟩, fun c hc h1 h2 h3 h4 => ?_⟩
  ·rcases Nat.eq_zero_or_pos b with h | h
   ·subst h
    rw [t.ti.z] at e
    omega
   ·exact h
  ·rcases h4 with h4 | h4
   ·exact absurd h4 h1
   ·have h5 := (t.ex b hu.1 c).2 h4.2
    rcases (bO.step e).1 h5 with h6 | h6
    ·exact absurd h6 h1
    ·exact .inr ⟨h3, (t.ex x hu.2.1 c).1 h6⟩
theorem gm.none (t : gm n nx ord pos D) {b : Nat} (e : D.getD b (-1) = -1) (x : Nat) : ¬ Imm n nx ord b x := by
 intro h
 rcases t.all b h.hb with h1 | h1
 ·have := h.b0; omega
 ·omega
theorem gm.case (t : gm n nx ord pos D) (b : Nat) : D.getD b (-1) = -1 ∨ ∃ a : Nat, D.getD b (-1) = (a : Int) := by
 have := t.ti.ge b
 by_cases h : D.getD b (-1) = -1
 ·exact .inl h
 ·exact .inr ⟨(D.getD b (-1)).toNat, by omega⟩
end
def RA (nx : Nat → List Nat) (s : Int) (x : Nat) : Prop := ∃ l, Path nx x l ∧ ∀ z ∈ l, (z : Int) ≠ s
theorem RA.zero {nx : Nat → List Nat} {s : Int} (h : s ≠ 0) : RA nx s 0 := ⟨[0], .nil, fun z hz => by
 obtain rfl : z = 0 := by simpa using hz
 exact Ne.symm h⟩
theorem RA.step {nx : Nat → List Nat} {s : Int} {x y : Nat} (h : RA nx s x) (hy : y ∈ nx x) (hs : (y : Int) ≠ s) : RA nx s y := by
 obtain ⟨l, h1, h2⟩ := h
 exact ⟨y :: l, .step h1 hy, fun z hz => by
  rcases List.mem_cons.1 hz with rfl | hz
  ·exact hs
  ·exact h2 z hz⟩
theorem RA.no {nx : Nat → List Nat} {x : Nat} : ¬ RA nx 0 x := fun ⟨l, h1, h2⟩ => h2 0 h1.zero rfl
theorem RA.all {n : Nat} {nx : Nat → List Nat} {ord : List Nat} {pos : Nat → Nat} (g : Gr n nx ord pos) {x : Nat} : RA nx (-1) x ↔ x ∈ ord :=
 ⟨fun ⟨l, h1, _⟩ => (g.mem h1).1, fun h => by
  obtain ⟨l, hl⟩ := g.path h
  exact ⟨l, hl, fun z _ => by omega⟩⟩
theorem RA.dom {nx : Nat → List Nat} {a b : Nat} : ¬ RA nx (a : Int) b ↔ Dom nx a b := by
 constructor
 ·intro h l hl
  by_cases ha : a ∈ l
  ·exact ha
  ·refine absurd (⟨l, hl, fun z hz e => ha ?_⟩ : RA nx (a : Int) b) h
   have : z = a := by omega
   rwa [this] at hz
 ·rintro h ⟨l, hl, hs⟩
  exact hs a (h l hl) rfl
structure SN (nx : Nat → List Nat) (s : Int) (r : Nat) (S : Nat → Prop) : Prop where
 only : ∀ x, S x → RA nx s x
 has : ∀ x l, Path nx x l → (∀ z ∈ l, (z : Int) ≠ s) → l.length ≤ r + 1 → S x
theorem SN.done {n : Nat} {nx : Nat → List Nat} {s : Int} {S : Nat → Prop} (h : SN nx s n S) (hlt : ∀ x l, Path nx x l → ∀ z ∈ l, z < n) (x : Nat) : S x ↔ RA nx s x := by
 refine ⟨h.only x, ?_⟩
 rintro ⟨l, h1, h2⟩
 obtain ⟨l', h3, h4, h5⟩ := h1.simple
 have := fc h4 (hlt x l' h3)
 exact h.has x l' h3 (fun z hz => h2 z (h5 z hz)) agO
structure OI (nx : Nat → List Nat) (s : Int) (r : Nat) (Pr : Nat → Prop) (S : Nat → Prop) : Prop where
 Un : SN nx s r S
 cl : ∀ x l, Path nx x l → (∀ z ∈ l, (z : Int) ≠ s) → l.length ≤ r + 1 → Pr x → ∀ y ∈ nx x, (y : Int) ≠ s → S y
theorem OI.start {nx : Nat → List Nat} {s : Int} {r : Nat} {S : Nat → Prop} (h : SN nx s r S) : OI nx s r (fun _ => False) S := ⟨h, fun _ _ _ _ _ h => h.elim⟩
theorem OI.done {nx : Nat → List Nat} {s : Int} {r : Nat} {S Pr : Nat → Prop} (h : OI nx s r Pr S) (hp : ∀ x l, Path nx x l → Pr x) : SN nx s (r + 1) S := by
 refine ⟨h.Un.only, fun x l hl hs hn => ?_⟩
 cases hl with
 | nil => exact h.Un.has 0 [0] .nil hs agT
 | @step p _ l h1 h2 =>
  have h3 : ∀ z ∈ l, (z : Int) ≠ s := fun z hz => hs z (List.mem_cons_of_mem _ hz)
  exact h.cl p l h1 h3 (by simpa using hn) (hp p l h1) x h2 (hs x List.mem_cons_self)
theorem OI.next {nx : Nat → List Nat} {s : Int} {r : Nat} {S S' Pr Pr' : Nat → Prop} (h : OI nx s r Pr S) (hg : ∀ x, S x → S' x) (ho : ∀ x, S' x → RA nx s x) (hi : ∀ x, Pr' x → Pr x ∨ (S x → ∀ y ∈ nx x, (y : Int) ≠ s → S' y)) : OI nx s r Pr' S' := by
 refine ⟨⟨ho, fun x l h1 h2 h3 => hg x (h.Un.has x l h1 h2 h3)⟩, fun x l h1 h2 h3 h4 y hy h5 => ?_⟩
 rcases hi x h4 with h6 | h6
 ·exact hg y (h.cl x l h1 h2 h3 h6 y hy h5)
 ·exact h6 (h.Un.has x l h1 h2 h3) y hy h5
section
variable {nx : Nat → List Nat} {ZF : Nat → Bool} {hd b : Nat}
end
end
section
open Go.RowKit
def ME : List Ins := [⟨14, 10, 0, 0, 0⟩, ⟨25, 10, 0, 0, 4⟩, ⟨15, 10, 10, 0, 1⟩, ⟨15, 5, 10, 0, -4⟩, ⟨23, 5, 0, 0, -4⟩, ⟨1, 0, 0, 0, 0⟩]
def XK : List Int := ME.map fun i => (encI i).1
def cE (i : Nat) : Int := XK.getD i 0
theorem Sw : ∀ x ∈ XK, 0 ≤ x ∧ x < 4294967296 := by decide +kernel
theorem bs0 : cg (cE 0) = (⟨14, 10, 0, 0, 0⟩, 0) := by decide +kernel
theorem bs1 : cg (cE 1) = (⟨25, 10, 0, 0, 4⟩, 0) := by decide +kernel
theorem bs2 : cg (cE 2) = (⟨15, 10, 10, 0, 1⟩, 0) := by decide +kernel
theorem bs3 : cg (cE 3) = (⟨15, 5, 10, 0, -4⟩, 0) := by decide +kernel
theorem bs4 : cg (cE 4) = (⟨23, 5, 0, 0, -4⟩, 0) := by decide +kernel
theorem bs5 : cg (cE 5) = (⟨1, 0, 0, 0, 0⟩, 0) := by decide +kernel
theorem KF : au cE 0 = ⟨14, 10, 0, 0, 0⟩ := by show (cg (cE 0)).1 = _; rw [bs0]
theorem KD : au cE 1 = ⟨25, 10, 0, 0, 4⟩ := by show (cg (cE 1)).1 = _; rw [bs1]
theorem KC : au cE 2 = ⟨15, 10, 10, 0, 1⟩ := by show (cg (cE 2)).1 = _; rw [bs2]
theorem KA : au cE 3 = ⟨15, 5, 10, 0, -4⟩ := by show (cg (cE 3)).1 = _; rw [bs3]
theorem Kz : au cE 4 = ⟨23, 5, 0, 0, -4⟩ := by show (cg (cE 4)).1 = _; rw [bs4]
theorem Ky : au cE 5 = ⟨1, 0, 0, 0, 0⟩ := by show (cg (cE 5)).1 = _; rw [bs5]
theorem KJ : qc 6 cE [⟨iX, 0, 6, 0⟩] 0 0 := by
 refine ⟨by omega, by simp, by omega, by omega, by simp, fun e he => ?_, ⟨rfl, by simp, rfl⟩, fun e he k h1 h2 => ?_⟩
 ·simp at he; subst he
  show 1 ≤ iX.size ∧ iX.size ≤ 12
  decide
 ·simp at he; subst he
  simp only at h1 h2
  obtain rfl | rfl | rfl | rfl | rfl | rfl : k = 0 ∨ k = 1 ∨ k = 2 ∨ k = 3 ∨ k = 4 ∨ k = 5 := by omega
  ·refine ⟨by show (cg (cE 0)).2 = 0; rw [bs0], fun h => ?_, fun h => ?_⟩
   ·have : ey (au cE 0).op = true := h
    rw [KF] at this; simp [ey] at this
   ·have : (au cE 0).op = 28 ∨ (au cE 0).op = 29 := h
    rw [KF] at this; simp at this
  ·refine ⟨by show (cg (cE 1)).2 = 0; rw [bs1], fun h => ?_, fun h => ?_⟩
   ·have : ey (au cE 1).op = true := h
    rw [KD] at this; simp [ey] at this
   ·have : (au cE 1).op = 28 ∨ (au cE 1).op = 29 := h
    rw [KD] at this; simp at this
  ·refine ⟨by show (cg (cE 2)).2 = 0; rw [bs2], fun h => ?_, fun h => ?_⟩
   ·have : ey (au cE 2).op = true := h
    rw [KC] at this; simp [ey] at this
   ·have : (au cE 2).op = 28 ∨ (au cE 2).op = 29 := h
    rw [KC] at this; simp at this
  ·refine ⟨by show (cg (cE 3)).2 = 0; rw [bs3], fun h => ?_, fun h => ?_⟩
   ·have : ey (au cE 3).op = true := h
    rw [KA] at this; simp [ey] at this
   ·have : (au cE 3).op = 28 ∨ (au cE 3).op = 29 := h
    rw [KA] at this; simp at this
  ·refine ⟨by show (cg (cE 4)).2 = 0; rw [bs4], fun h => ?_, fun h => ?_⟩
   ·show (0 : Int) ≤ 4 + 1 + (au cE 4).aP ∧ 4 + 1 + (au cE 4).aP < 6
    rw [Kz]; decide
   ·have : (au cE 4).op = 28 ∨ (au cE 4).op = 29 := h
    rw [Kz] at this; simp at this
  ·refine ⟨by show (cg (cE 5)).2 = 0; rw [bs5], fun h => ?_, fun h => ?_⟩
   ·have : ey (au cE 5).op = true := h
    rw [Ky] at this; simp [ey] at this
   ·have : (au cE 5).op = 28 ∨ (au cE 5).op = 29 := h
    rw [Ky] at this; simp at this
theorem Mw : bM (au cE 0) 0 = [1] := by rw [KF]; decide
theorem Mv : bM (au cE 1) 1 = [2] := by rw [KD]; decide
theorem Mu : bM (au cE 2) 2 = [3] := by rw [KC]; decide
theorem Mt : bM (au cE 3) 3 = [4] := by rw [KA]; decide
theorem Ms : bM (au cE 4) 4 = [5, 1] := by rw [Kz]; decide
theorem Sv : bM (au cE 5) 5 = [] := by rw [Ky]; decide
theorem AH (x : Int) : om (au cE) 0 6 x ↔ x ∈ [(0 : Int), 1, 2, 3, 4, 5] := by
 constructor
 ·intro h
  have := h.range _ _ _ agO
  simp; omega
 ·intro h
  have r0 : om (au cE) 0 6 0 := om.start
  have r1 : om (au cE) 0 6 1 := om.step r0 (by rw [Mw]; simp) agO agO
  have r2 : om (au cE) 0 6 2 := om.step r1 (by rw [Mv]; simp) agO agO
  have r3 : om (au cE) 0 6 3 := om.step r2 (by rw [Mu]; simp) agO agO
  have r4 : om (au cE) 0 6 4 := om.step r3 (by rw [Mt]; simp) agO agO
  have r5 : om (au cE) 0 6 5 := om.step r4 (by rw [Ms]; simp) agO agO
  simp at h
  rcases h with rfl | rfl | rfl | rfl | rfl | rfl
  ·exact r0
  ·exact r1
  ·exact r2
  ·exact r3
  ·exact r4
  ·exact r5
theorem BL (x : Int) (h : x ∈ [(0 : Int), 1, 2, 3, 4, 5]) : ¬ qu (au cE) 0 6 x := by
 rintro ⟨t, ht, hn⟩
 simp at h
 rcases h with rfl | rfl | rfl | rfl | rfl | rfl
 ·rw [Mw] at ht; simp at ht; omega
 ·rw [Mv] at ht; simp at ht; omega
 ·rw [Mu] at ht; simp at ht; omega
 ·rw [Mt] at ht; simp at ht; omega
 ·rw [Ms] at ht; simp at ht; omega
 ·rw [Sv] at ht; simp at ht
def XL : List (Int × Int) := [(0, 1), (1, 5), (5, 6)]
theorem H7 : blk (au cE) 0 [0, 1, 2, 3, 4, 5] 6 = XL := by decide +kernel
def cL : List aZ := [⟨0, 1, [1]⟩, ⟨1, 5, [2, 1]⟩, ⟨5, 6, []⟩]
def yz : List (List Int) := [[], [0, 1], [1]]
theorem MD : dw (au cE) XL = cL := by decide +kernel
theorem MC : gK (au cE) XL = yz := by decide +kernel
theorem yy : cm cL yz := by
 refine ⟨by simp [cL], rfl, ⟨6, ⟨by simp, by simp, by simp, by simp [cL], by simp [cL]⟩, ⟨by simp, by simp, by simp, by simp [cL], by simp [cL]⟩, ⟨by simp, by simp, by simp, by simp [cL], by simp [cL]⟩, rfl⟩, by decide⟩
theorem Oj {r : XU} (h : Out (au cE) 0 6 r) : r = ⟨cL, yz, -1, 0⟩ := by
 cases h with
 | bad D bad hb hR =>
  rcases hR.b with h | h
  ·omega
  ·exact absurd h.2.1 (BL _ ((AH _).1 (hR.dr _ h.1)))
 | ok D hR =>
  have hm : ∀ x, x ∈ D ↔ x ∈ [(0 : Int), 1, 2, 3, 4, 5] := fun x => (hR.mem agT x).trans (AH x)
  rw [show ((6 : Int) - 0).toNat = 6 from rfl, oY _ _ hm, H7, MD, MC]
def BP : List AB := [⟨[⟨14, 10, 0, 0, 0⟩], [1]⟩, ⟨[⟨25, 10, 0, 0, 4⟩, ⟨15, 10, 10, 0, 1⟩, ⟨15, 5, 10, 0, -4⟩, ⟨23, 5, 0, 0, -4⟩], [2, 1]⟩, ⟨[⟨1, 0, 0, 0, 0⟩], []⟩]
def H9 (h : Int) : RG := (aA.set 5 (-3, 0)).set 10 (0, h)
def bsQ : RG := aA.set 10 (1, 4)
theorem MB : cz BP (cF 3) 3 = (⟨[true, true, false], [aA, H9 1, aA], [0, 1, 0]⟩, true) := by kernel_rfl
theorem MA : cz BP (⟨[true, true, false], [aA, H9 1, aA], [0, 1, 0]⟩) 3 = (⟨[true, true, false], [aA, H9 2, aA], [0, 2, 0]⟩, true) := by kernel_rfl
theorem Mz : cz BP (⟨[true, true, false], [aA, H9 2, aA], [0, 2, 0]⟩) 3 = (⟨[true, true, false], [aA, H9 2147483647, aA], [0, 3, 0]⟩, true) := by kernel_rfl
theorem My : cz BP (⟨[true, true, false], [aA, H9 2147483647, aA], [0, 3, 0]⟩) 3 = (⟨[true, true, true], [aA, H9 2147483647, bsQ], [0, 3, 0]⟩, true) := by kernel_rfl
def Jj : AS := ⟨[true, true, true], [aA, H9 2147483647, bsQ], [0, 3, 0]⟩
theorem Mx : cz BP Jj 3 = (Jj, false) := by kernel_rfl
theorem KL : Ends BP (cF 3) Jj := by
 have hl : BP.length = 3 := rfl
 have e4 : Ends BP Jj Jj := by
  have := Ends.done (B := BP) (s := Jj) (by rw [hl, Mx])
  rwa [hl, Mx] at this
 have e3 : Ends BP (⟨[true, true, false], [aA, H9 2147483647, aA], [0, 3, 0]⟩) Jj := Ends.more (by rw [hl, My]) (by rw [hl, My]; exact e4)
 have e2 : Ends BP (⟨[true, true, false], [aA, H9 2, aA], [0, 2, 0]⟩) Jj := Ends.more (by rw [hl, Mz]) (by rw [hl, Mz]; exact e3)
 have e1 : Ends BP (⟨[true, true, false], [aA, H9 1, aA], [0, 1, 0]⟩) Jj := Ends.more (by rw [hl, MA]) (by rw [hl, MA]; exact e2)
 exact Ends.more (by rw [hl, MB]) (by rw [hl, MB]; exact e1)
theorem H8 : aR cE cL = BP := by
 have h0 : codeFrom cE 0 1 = [⟨14, 10, 0, 0, 0⟩] := by
  show [au cE (0 + 0)] = _
  rw [show ((0 : Int) + 0) = 0 by omega, KF]
 have h1 : codeFrom cE 1 4 = [⟨25, 10, 0, 0, 4⟩, ⟨15, 10, 10, 0, 1⟩, ⟨15, 5, 10, 0, -4⟩, ⟨23, 5, 0, 0, -4⟩] := by
  show [au cE (1 + 0), au cE (1 + 1), au cE (1 + 2), au cE (1 + 3)] = _
  rw [show ((1 : Int) + 0) = 1 by omega, show ((1 : Int) + 1) = 2 by omega, show ((1 : Int) + 2) = 3 by omega, show ((1 : Int) + 3) = 4 by omega, KD, KC, KA, Kz]
 have h2 : codeFrom cE 5 1 = [⟨1, 0, 0, 0, 0⟩] := by
  show [au cE (5 + 0)] = _
  rw [show ((5 : Int) + 0) = 5 by omega, Ky]
 show [AB.mk (codeFrom cE 0 1) [1], AB.mk (codeFrom cE 1 4) [2, 1], AB.mk (codeFrom cE 5 1) []] = BP
 rw [h0, h1, h2]
 rfl
theorem Hw {s : AS} (h : Ends (aR cE cL) (cF cL.length) s) : s = Jj := by
 rw [H8] at h
 exact Ends.Mp h KL
theorem Ol : dN 3 (cU cL) = [0, 1, 2] := by decide +kernel
theorem BK : fU 3 (cU cL) 0 = 0 := by decide +kernel
theorem qG : fU 3 (cU cL) 1 = 1 := by decide +kernel
theorem BJ : fU 3 (cU cL) 2 = 2 := by decide +kernel
theorem Hx : jC cL 3 [] = [(0, 1), (1, 2), (1, 1)] := by decide +kernel
theorem BO : I5 cL := by
 intro b hb
 have hb : b < 3 := hb
 show b ∈ dN 3 (cU cL)
 rw [Ol]
 simp; omega
theorem KN (D : List Int) : fT (dN cL.length (cU cL)) (fU cL.length (cU cL)) D (jC cL cL.length []) := by
 show fT (dN 3 (cU cL)) (fU 3 (cU cL)) D (jC cL 3 [])
 rw [Hx]
 intro e he
 simp only [List.mem_cons, List.not_mem_nil, or_false] at he
 rcases he with rfl | rfl | rfl
 ·intro _ h
  have h : fU 3 (cU cL) 1 ≤ fU 3 (cU cL) 0 := h
  rw [BK, qG] at h
  omega
 ·intro _ h
  have h : fU 3 (cU cL) 2 ≤ fU 3 (cU cL) 1 := h
  rw [qG, BJ] at h
  omega
 ·intro _ _
  exact .self 1
theorem vT : fV (dN 3 (cU cL)) (fU 3 (cU cL)) (jC cL 3 []) 1 = [1] := by decide +kernel
theorem Om (x : Nat) (h : fV (dN 3 (cU cL)) (fU 3 (cU cL)) (jC cL 3 []) x ≠ []) : x = 1 := by
 rw [Hx] at h
 by_cases e : x = 1
 ·exact e
 ·refine absurd ?_ h
  unfold fV
  rw [List.map_eq_nil_iff, List.filter_eq_nil_iff]
  intro p hp
  simp only [List.mem_cons, List.not_mem_nil, or_false] at hp
  rcases hp with rfl | rfl | rfl
  ·have := BK; have := qG
   simp; omega
  ·have := qG; have := BJ
   simp; omega
  ·simp; omega
theorem Cb {l : List Int} (h : l.Pairwise (· < ·)) (hm : ∀ x, x ∈ l ↔ x = 1) : l = [1] := by
 cases l with
 | nil => exact absurd ((hm 1).2 rfl) agT
 | cons a l =>
  obtain rfl := (hm a).1 agT
  cases l with
  | nil => rfl
  | cons b l =>
   obtain rfl := (hm b).1 agT
   simp at h
theorem Hu {D : List Int} {L : List Lp} (h : iR yz (dN cL.length (cU cL)) (fU cL.length (cU cL)) (jC cL cL.length []) D L) : L = [⟨1, [1], [1]⟩] := by
 have h1 : L.map (·.h) = [1] := Cb h.MG fun x => by
  rw [h.mem]
  show 0 ≤ x ∧ fV (dN 3 (cU cL)) (fU 3 (cU cL)) (jC cL 3 []) x.toNat ≠ [] ↔ x = 1
  constructor
  ·rintro ⟨a, b⟩
   have := Om _ b
   omega
  ·rintro rfl
   refine ⟨by omega, ?_⟩
   rw [show (1 : Int).toNat = 1 from rfl, vT]
   simp
 obtain ⟨x, rfl⟩ : ∃ x, L = [x] := by
  cases L with
  | nil => simp at h1
  | cons x M =>
   cases M with
   | nil => exact ⟨x, rfl⟩
   | cons y M => simp at h1
 ·obtain ⟨xh, xb, xl⟩ := x
  obtain rfl : xh = 1 := by simpa using h1
  obtain ⟨h2, h3⟩ := h.each ⟨1, xb, xl⟩ agT
  have h2 : xl = bT (fV (dN 3 (cU cL)) (fU 3 (cU cL)) (jC cL 3 []) 1) := h2
  rw [vT] at h2
  have h4 : yJ (lT yz) (· ∈ dN 3 (cU cL)) 1 (fV (dN 3 (cU cL)) (fU 3 (cU cL)) (jC cL 3 []) 1) xb := h3
  rw [vT] at h4
  have h5 : xb = [1] := Cb h4.MG fun x => by
   rw [h4.mem]
   constructor
   ·rintro ⟨a, b⟩
    have key : ∀ y, MM (lT yz) (· ∈ dN 3 (cU cL)) 1 [1] y → y = 1 := fun y hy => by
     induction hy with
     | hd => rfl
     | lt h _ => simpa using h
     | up _ h1 _ _ ih => exact absurd ih h1
    have := key _ b
    omega
   ·rintro rfl
    exact ⟨by omega, .hd⟩
  rw [h2, h5]
  rfl
def qH : Lp := ⟨1, [1], [1]⟩
theorem Hz : jF cE cL = [[⟨14, 10, 0, 0, 0⟩], [⟨25, 10, 0, 0, 4⟩, ⟨15, 10, 10, 0, 1⟩, ⟨15, 5, 10, 0, -4⟩, ⟨23, 5, 0, 0, -4⟩], [⟨1, 0, 0, 0, 0⟩]] := by
 have h := congrArg (List.map AB.code) H8
 exact h
theorem Oh : fy cE cL = [true, true, false] ∨ fy cE cL = [false, true, false] := by
 unfold fy
 rw [Hz]
 decide
theorem Oi : JL cE cL qH = [false, true, false] := by
 have hr : (fy cE cL).getD 1 false = true := by
  rcases Oh with h | h <;> rw [h] <;> rfl
 have h1 : pB cL (fy cE cL) (kM cL) 1 [1] [1] 3 1 = true := oK.2 ⟨by omega, ⟨by simp, hr, fun l hl => by
  obtain rfl : l = 1 := by simpa using hl
  exact .self 1, fun h => h.1 rfl⟩⟩
 have h0 : ∀ b, b ≠ 1 → pB cL (fy cE cL) (kM cL) 1 [1] [1] 3 b = false := fun b hb => by
  cases e : pB cL (fy cE cL) (kM cL) 1 [1] [1] 3 b with
  | false => rfl
  | true =>
   have := (oK.1 e).2.1
   simp at this
   omega
 show (List.range 3).map (pB cL (fy cE cL) (kM cL) 1 [1] [1] 3) = _
 show [pB cL (fy cE cL) (kM cL) 1 [1] [1] 3 0, pB cL (fy cE cL) (kM cL) 1 [1] [1] 3 1, pB cL (fy cE cL) (kM cL) 1 [1] [1] 3 2] = _
 rw [h1, h0 0 agO, h0 2 agO]
theorem vU (r : Int) : dU cE cL qH r = tL r (jk r [false, true, false] [false, true, false] [[⟨14, 10, 0, 0, 0⟩], [⟨25, 10, 0, 0, 4⟩, ⟨15, 10, 10, 0, 1⟩, ⟨15, 5, 10, 0, -4⟩, ⟨23, 5, 0, 0, -4⟩], [⟨1, 0, 0, 0, 0⟩]] 3) := by
 unfold dU
 rw [Oi, Hz]
 rfl
theorem H6 : dU cE cL qH 10 = (4, true) := by rw [vU]; decide +kernel
theorem Ow : dU cE cL qH 11 = (0, false) := by rw [vU]; decide +kernel
theorem Ov : dU cE cL qH 12 = (0, false) := by rw [vU]; decide +kernel
theorem Ou : dU cE cL qH 13 = (0, false) := by rw [vU]; decide +kernel
theorem Oq : lD cE cL [true, true, true] [qH] [] = .inl [4] := by
 have h : tj cE cL [true, true, true] qH = (4, true) := by
  unfold tj
  rw [if_pos (by rfl)]
  show dH (dH (dH (dH (0, false) (dU cE cL qH 10)) (dU cE cL qH 11)) (dU cE cL qH 12)) (dU cE cL qH 13) = _
  rw [H6, Ow, Ov, Ou]
  decide
 unfold lD
 rw [h]
 rfl
theorem Hy : jK 6 cE cL := by
 have key : ∀ a : Nat, a < 6 → a < 6 ∧ (cg (cE a)).2 = 0 := fun a ha => by
  obtain rfl | rfl | rfl | rfl | rfl | rfl : a = 0 ∨ a = 1 ∨ a = 2 ∨ a = 3 ∨ a = 4 ∨ a = 5 := by omega
  ·exact ⟨by omega, by rw [bs0]⟩
  ·exact ⟨by omega, by rw [bs1]⟩
  ·exact ⟨by omega, by rw [bs2]⟩
  ·exact ⟨by omega, by rw [bs3]⟩
  ·exact ⟨by omega, by rw [bs4]⟩
  ·exact ⟨by omega, by rw [bs5]⟩
 intro x hx a h1 h2
 simp only [cL, List.mem_cons, List.not_mem_nil, or_false] at hx
 rcases hx with rfl | rfl | rfl
 ·exact key a (by simp only at h2; omega)
 ·exact key a (by simp only at h2; omega)
 ·exact key a (by simp only at h2; omega)
theorem Ht : oI cL.length qH = true := by decide
theorem Ot : qg (iM 6 cE cL yz qH) gI = (10, 4, true) := by
 have h : iM 6 cE cL yz qH 10 = (4, true) := by
  unfold iM
  rw [if_pos ⟨yy, Hy, Ht⟩, H6]
 show (if (iM 6 cE cL yz qH 10).2 = true then (10, (iM 6 cE cL yz qH 10).1, true) else qg (iM 6 cE cL yz qH) [11, 12, 13]) = _
 rw [h]
 rfl
end
section
open Go.RowKit
theorem jY.AL {w w' : World} {v : Value} {n : Nat} {cd : Nat → Int} (h : jY w v n cd) (hb : Below w.heap.size w w') : jY w' v n cd := by
 obtain ⟨A, cap, h1, h2, h3, h4⟩ := h.at_
 refine ⟨h.wd, A, cap, h1, h2, h3, fun h0 => ?_⟩
 obtain ⟨b, off, ha, hlt, hc⟩ := h4 h0
 exact ⟨b, off, ha, by have := hb.size; omega, fun i hi => (hb.cell (p := ⟨b, off + i, none⟩) hlt).trans (hc i hi)⟩
section
variable {w w' : World} {q B : Nat} {T : TypeId} (hk : w.heap[q]? = some (.cells #[.slice none 0 0, .slice none 0 0] T (0, 0))) (hw : ∀ p, p ≠ q → w'.heap[p]? = w.heap[p]?) (hs : w.heap.size ≤ w'.heap.size) (hqB : q < B)
include hk hw hs
include hqB
end
theorem kQ.mem {n : Nat} : ∀ {l : List aZ} {a z : Int}, kQ n a l z → ∀ x ∈ l, ∃ e, MK n e x
 | [], a, z, _, x, hx => by cases hx
 | y :: l, a, z, h, x, hx => by
  rcases List.mem_cons.1 hx with rfl | hx
  ·exact ⟨a, h.1⟩
  ·exact kQ.mem h.2 x hx
end
end Go.Proofs.YtlmgkipmfgijiaaGreatDoor
