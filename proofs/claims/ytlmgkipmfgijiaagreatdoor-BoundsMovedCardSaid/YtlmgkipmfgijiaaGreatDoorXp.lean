/-
  What is proved here: parts dPrM, dPr, dSp, dBd, dCt, dFd, dCode, dTrP, dSmp, lGr.
-/
import Derived.Test.YtlmgkipmfgijiaaGreatDoorXa
import Derived.Test.YtlmgkipmfgijiaaGreatDoorXo
import Derived.Test.YtlmgkipmfgijiaaGreatDoorXl
import Derived.Test.YtlmgkipmfgijiaaGreatDoorXe
import Derived.Test.YtlmgkipmfgijiaaGreatDoorXb
import Derived.BigRegion
import Derived.Deep.RegionHeld3
import Derived.Deep.DeepCutAuto
import Derived.Test.YtlmgkipmfgijiaaGreatDoorXd
namespace Go.Proofs.YtlmgkipmfgijiaaGreatDoor
set_option linter.unusedVariables false
set_option linter.unusedSimpArgs false
set_option maxRecDepth 100000
set_option maxHeartbeats 8000000
section
open Go.RowKit
theorem lS.lo {n : Nat} : ∀ {l : List aU} {a z : Int}, lS n a l z → 0 ≤ a → ∀ x ∈ l, 0 ≤ x.lo
 | y :: l, a, z, h, h0, x, hx => by
  have h1 := h.1.lo
  have h2 := h.1.hi
  rcases List.mem_cons.1 hx with rfl | hx
  ·omega
  ·exact lS.lo h.2 ahU x hx
def CW (n : Nat) (cd : Nat → Int) (x : aU) : Prop := ∀ a : Nat, x.lo ≤ (a : Int) → (a : Int) < x.hi → a < n ∧ (bk (cd a)).2 = 0
def fD (n : Nat) (cd : Nat → Int) (G : List aU) : Prop := ∀ x ∈ G, CW n cd x
def fV (cd : Nat → Int) (G : List aU) : List (List Ins) := (List.range G.length).map (cz cd G)
def dR (cd : Nat → Int) (G : List aU) : List Bool := (fV cd G).map fun l => l.any gX
theorem ER (cd : Nat → Int) (G : List aU) : (fV cd G).length = G.length := by simp [fV]
theorem ET (n : Nat) (f : Nat → Bool) (b : Nat) (x : Bool) : ((List.range n).map fun i => Value.bool (f i)).set b (.bool x) = (List.range n).map fun i => Value.bool (upd f b x i) := by
 apply List.ext_getElem
 ·simp
 ·intro i h1 h2
  rw [List.getElem_set]
  simp only [List.getElem_map, List.getElem_range, upd]
  by_cases e : b = i
  ·rw [if_pos e, if_pos e.symm]
  ·rw [if_neg e, if_neg (Ne.symm e)]
structure oP (V wr : World) (sp cb rb n : Nat) (bv pv : Value) (val : Nat → Value) (dM : Nat → List Ins) (rl : Nat → Bool) : Prop where
 aD : Below V.heap.size V wr
 sV : V.heap.size ≤ sp
 rV : V.heap.size ≤ rb
 head : wr.heap[sp]? = some (.cells #[bv, pv, .slice (some ⟨cb, 0, none⟩) n n, .slice (some ⟨rb, 0, none⟩) n n, .slice none 0 0] 159 (0, 0))
 pm : w6 V.heap.size wr cb n val dM
 fo : wr.heap[rb]? = some (.cells ((List.range n).map fun i => Value.bool (rl i)).toArray 4 (0, 0))
section
variable {V wr : World} {sp cb rb n : Nat} {bv pv : Value} {val : Nat → Value} {dM : Nat → List Ins} {rl : Nat → Bool}
theorem oP.lt (h : oP V wr sp cb rb n bv pv val dM rl) : sp < wr.heap.size ∧ cb < wr.heap.size ∧ rb < wr.heap.size := ⟨aB h.head, h.pm.rg.2, aB h.fo⟩
theorem oP.below {wr' : World} (h : oP V wr sp cb rb n bv pv val dM rl) (hb : Below wr.heap.size wr wr') : oP V wr' sp cb rb n bv pv val dM rl := by
 obtain ⟨l1, l2, l3⟩ := h.lt
 exact ⟨h.aD.trans (hb.mono h.aD.size), h.sV, h.rV, (hb.block _ l1).trans h.head, h.pm.below hb, (hb.block _ l3).trans h.fo⟩
theorem oP.cells (h : oP V wr sp cb rb n bv pv val dM rl) : wr.cell? ⟨sp, 0, none⟩ = some bv ∧ wr.cell? ⟨sp, 1, none⟩ = some pv ∧ wr.cell? ⟨sp, 2, none⟩ = some (.slice (some ⟨cb, 0, none⟩) n n) ∧ wr.cell? ⟨sp, 3, none⟩ = some (.slice (some ⟨rb, 0, none⟩) n n) := by
 refine ⟨?_, ?_, ?_, ?_⟩ <;> simp [World.cell?, h.head]
theorem oP.rat (h : oP V wr sp cb rb n bv pv val dM rl) {i : Nat} (hi : i < n) : wr.cell? ⟨rb, i, none⟩ = some (.bool (rl i)) ∧ wr.frozen? ⟨rb, i, none⟩ = false := by
 constructor
 ·simp [World.cell?, h.fo, hi]
 ·simp [World.frozen?, h.fo]
theorem oP.zi (h : oP V wr sp cb rb n bv pv val dM rl) {i : Nat} (hi : i < n) : ∀ q, (val i).ownBlock = some q → V.heap.size ≤ q ∧ q ≠ sp ∧ q ≠ cb ∧ q ≠ rb := fun q hq => by
 have oi := h.pm.own i hi
 obtain ⟨cs, hc⟩ := dJ oi hq
 exact ⟨(oi.lt q hq).1, aS hc h.head ahW, fun e => cV oi h.pm.cH ahW q hq ain, aS hc h.fo ahW⟩
theorem oP.Q1 (h : oP V wr sp cb rb n bv pv val dM rl) : sp ≠ cb ∧ rb ≠ cb ∧ sp ≠ rb := by
 obtain ⟨cs, hc⟩ := dJ h.pm.cH (q := cb) rfl
 exact ⟨aS h.head hc ahW, aS h.fo hc ahW, aS h.head h.fo ahW⟩
theorem oP.app {w2 W' : World} {i : Nat} {y : Ins} {v' : Value} (h : oP V wr sp cb rb n bv pv val dM rl) (hi : i < n) (hb : Below wr.heap.size wr w2) (hg : w2.grownBy W' (val i).ownBlock)
  (hown : W'.ownsRow V.heap.size 67 5 v' ((dM i).length + 1) (kT (dM i ++ [y]))) (j6 : v'.ownBlock = (val i).ownBlock ∨ v'.ownBlock = some w2.heap.size) :
  oP V (W'.setCell ⟨cb, i, none⟩ v') sp cb rb n bv pv (upd val i v') (upd dM i (dM i ++ [y])) rl := by
 have G := grown_of hb hg
 have S := aQ W' cb i v'
 obtain ⟨l1, l2, l3⟩ := h.lt
 obtain ⟨c1, c2, c3⟩ := h.Q1
 have Es := h.aD.size
 have wY := G.size
 have ob := h.zi hi
 have p1 := h.pm.rg.1
 have same : ∀ k, k < wr.heap.size → k ≠ cb → (∀ q, (val i).ownBlock = some q → k ≠ q) → (W'.setCell ⟨cb, i, none⟩ v').heap[k]? = wr.heap[k]? := fun k hk hkc Ya => by
  rw [Below.heap_setCell _ _ _ _ (by show k ≠ cb; exact hkc)]
  exact G.block k hk (fun e => Ya k e.symm rfl)
 exact ⟨(h.aD.grown G Es (fun k hk => (ob k hk).1)).grown S ahU (fun k hk => by cases hk; exact p1), h.sV, h.rV, (same sp l1 c1 (fun q hq => (ob q hq).2.1.symm)).trans h.head, h.pm.app hi hb hg hown j6, (same rb l3 c2 (fun q hq => (ob q hq).2.2.2.symm)).trans h.fo⟩
theorem oP.mark (h : oP V wr sp cb rb n bv pv val dM rl) (i : Nat) (x : Bool) : oP V (wr.setCell ⟨rb, i, none⟩ (.bool x)) sp cb rb n bv pv val dM (upd rl i x) := by
 have S := aQ wr rb i (.bool x)
 obtain ⟨l1, l2, l3⟩ := h.lt
 obtain ⟨c1, c2, c3⟩ := h.Q1
 have Es := h.aD.size
 refine ⟨h.aD.grown S Es (fun k hk => by cases hk; exact h.rV), h.sV, h.rV, ?_, h.pm.kept S (fun e => c2 (by simpa using e)) (fun j hj q hq e => (h.zi hj q hq).2.2.2 (by simpa using e.symm)), ?_⟩
 ·rw [Below.heap_setCell _ _ _ _ (by show sp ≠ rb; exact c3)]; exact h.head
 ·rw [heap_setCell_same _ _ _ _ _ _ h.fo, aiY, ET]
theorem oP.done {W' : World} {G : List aU} {dv : Value} {D : List Int} (h : oP V wr sp cb rb n bv pv val dM rl) (hb : Below wr.heap.size wr W') (hB : fL V bv G) (hG : G.length = n) (hI : Ints W' dv D) (hD : D.length = n) (mV : ∃ A k c, bv = .slice A k c) (hpv : ∃ A k c, pv = .slice A k c) :
  Fa (W'.setCell ⟨sp, 4, none⟩ dv) sp bv pv (.slice (some ⟨cb, 0, none⟩) n n) (.slice (some ⟨rb, 0, none⟩) n n) dv G ((List.range n).map dM) ((List.range n).map rl) D := by
 have h' := h.below hb
 have S := aQ W' sp 4 dv
 obtain ⟨l1, l2, l3⟩ := h'.lt
 obtain ⟨c1, c2, c3⟩ := h'.Q1
 have XW := h'.pm.kept S (fun e => c1 (by simpa using e)) (fun j hj q hq e => (h'.zi hj q hq).2.1 (by simpa using e.symm))
 have hbl : Below V.heap.size V (W'.setCell ⟨sp, 4, none⟩ dv) := h'.aD.grown S h'.aD.size (fun k hk => by cases hk; exact h.sV)
 have hmx : n ≤ maxLen := by
  rcases h.pm.cH.2 with ⟨e, _⟩ | ⟨_, _, _, e, _, _, h1, h2, _⟩
  ·cases e
  ·cases e; exact h2
 refine ⟨?_, hB.below hbl, by have := XW.YO; exact this, ?_, ?_, by simp [hG], by simp [hG], by rw [hD, hG]⟩
 ·rw [heap_setCell_same _ _ _ _ _ _ h'.head]; rfl
 ·refine ⟨some ⟨rb, 0, none⟩, n, by simp, by simp, hmx, fun _ => ⟨rb, 0, rfl, by have := S.size; omega, fun k hk => ?_⟩⟩
  have hk' : k < n := by simpa using hk
  have hr : (W'.setCell ⟨sp, 4, none⟩ dv).heap[rb]? = some (.cells ((List.range n).map fun i => Value.bool (rl i)).toArray 4 (0, 0)) := by
   rw [Below.heap_setCell _ _ _ _ (by show rb ≠ sp; exact c3.symm)]; exact h'.fo
  simp [World.cell?, hr, hk', List.getD]
 ·obtain ⟨A, cap, e3, h1, h2, h4⟩ := hI
  refine ⟨A, cap, e3, h1, h2, fun h0 => ?_⟩
  obtain ⟨b, o, e5, h6, h7⟩ := h4 h0
  have hne : b ≠ sp := fun e => by
   subst e
   have h8 := h7 0 h0
   obtain ⟨a1, k1, d1, rfl⟩ := mV
   obtain ⟨a2, k2, d2, rfl⟩ := hpv
   have h9 : ∀ (j : Nat) (v : Value), (#[Value.slice a1 k1 d1, Value.slice a2 k2 d2, .slice (some ⟨cb, 0, none⟩) n n, .slice (some ⟨rb, 0, none⟩) n n, .slice none 0 0] : Array Value)[j]? = some v → ∃ A k c, v = Value.slice A k c := fun j v hv => by
    match j, hv with
    | 0, hv => simp at hv; exact ⟨_, _, _, hv.symm⟩
    | 1, hv => simp at hv; exact ⟨_, _, _, hv.symm⟩
    | 2, hv => simp at hv; exact ⟨_, _, _, hv.symm⟩
    | 3, hv => simp at hv; exact ⟨_, _, _, hv.symm⟩
    | 4, hv => simp at hv; exact ⟨_, _, _, hv.symm⟩
    | j + 5, hv => simp at hv
   have h10 : W'.cell? ⟨b, o + 0, none⟩ = _ := h8
   simp only [World.cell?, h'.head] at h10
   obtain ⟨_, _, _, h11⟩ := h9 _ _ h10
   cases h11
  refine ⟨b, o, e5, by have := S.size; omega, fun k hk => ?_⟩
  rw [← h7 k hk]
  exact World.cell?_setCell_far _ _ _ _ (fun e => hne e.symm)
end
end
section
open Go.RowKit
def Ue (n : Nat) (cd : Nat → Int) (G : List aU) (P : List (List Int)) (bv pv : Value) (e : Ending) (w' : World) : Prop :=
 (bQ G P ∧ fD n cd G ∧ ∃ sp YK Xo YI D, e = .returned (.tuple #[.pointer (some ⟨sp, 0, none⟩), .bool true]) ∧ Fa w' sp bv pv YK Xo YI G (fV cd G) (dR cd G) D ∧ eO G D) ∨ (¬ (bQ G P ∧ fD n cd G) ∧ e = .returned (.tuple #[.pointer none, .bool false]))
theorem oG (cv ev bv pv : Value) (sh lk : Int) (n : Nat) (cd : Nat → Int) (G : List aU) (P : List (List Int)) (w : World) (T : gZ w) (HW : Words w cv n cd) (HG : fL w bv G) (HP : mG w pv P) (hn : G.length ≤ 5000) (fc : ∀ x ∈ G, x.nx.length ≤ 5000) :
  Calls Tryz.prog 44 #[.agg #[cv, ev, .int .i64 sh, .int .i64 lk], .agg #[bv, pv]] w fun e w' => Ue n cd G P bv pv e w' ∧ Below w.heap.size w w' := by
 obtain ⟨GA, aY, mV, g2, g3, g4⟩ := id HG
 have g3' := ep g3
 obtain ⟨PA, aX, hpv, p2, p3, p4⟩ := id HP
 obtain ⟨CA, cX, hcv, c2, c3, c4⟩ := HW.at_
 have c3' := ep c3
 have hn6 := HW.le
 obtain ⟨V, hV⟩ : ∃ V, (w.alloc (.cells #[cv, ev, .int .i64 sh, .int .i64 lk] 25)).alloc (.cells #[bv, pv] 31) = V := ⟨_, rfl⟩
 have k0 : V.heap[w.heap.size]? = some (.cells #[cv, ev, .int .i64 sh, .int .i64 lk] 25 (0, 0)) := by
  rw [← hV, heap_alloc_old _ _ ahZ]; exact heap_alloc_new _ _
 have k1 : V.heap[w.heap.size + 1]? = some (.cells #[bv, pv] 31 (0, 0)) := by rw [← hV]; exact aG _ _ ahZ
 have bV : Below w.heap.size w V := hV ▸ ((Below.refl _ _).alloc (Nat.le_refl _) _).alloc ahZ _
 have sV : V.heap.size = w.heap.size + 1 + 1 := by rw [← hV]; simp
 have b0 : V.cell? ⟨w.heap.size + 1, 0, none⟩ = some bv := by simp [World.cell?, k1]
 have b1 : V.cell? ⟨w.heap.size + 1, 1, none⟩ = some pv := by simp [World.cell?, k1]
 have l1 : w.heap.size + 1 < V.heap.size := by omega
 have lD := aiU (jU bv pv G P V (HG.below bV) (HP.below bV) hn fc)
 obtain ⟨gn, hgn⟩ : ∃ m, G.length = m := ⟨_, rfl⟩
 rw [hgn] at mV g2 hn
 have eP := aiU hgn
 have Ke := aiU HW
 have JI := aiU HG
 have Qg := aiU HP
 have HT := aiU T
 have BV := aiU bV
 have SV := aiU sV
 have K0 := aiU k0
 have WJ := aiU g4
 have HC4 := aiU c4
 clear hgn HW HG HP T bV sV k0 k1 g3 g4 p4 p3 c4 c3 fc
 subst mV hpv hcv
 go_enter Tryz.func44, Tryz.ntmps44
 by_cases QH : bQ G P
 case neg =>
  go_wp2_with (go_at_call 35; refine lD.out.mono ?_; rintro e X ⟨⟨r, rfl, hr⟩, Ci⟩; obtain rfl : r = false := (by cases r with | false => rfl | true => exact absurd (hr.1 rfl) QH); have BX := aiU Ci; clear hr Ci)
  go_ret2
  exact ⟨.inr ⟨fun h => QH h.1, rfl⟩, BV.out.trans (BX.out.mono BV.out.size)⟩
 have Qc := aiU QH
 clear QH
 go_upto_region 3 with (go_at_call 35; refine lD.out.mono ?_; rintro e X ⟨⟨r, rfl, hr⟩, Ci⟩; obtain rfl : r = true := hr.2 Qc.out)
 have c0 : X.cell? ⟨w.heap.size + 1, 0, none⟩ = _ := (Ci.cell (p := ⟨w.heap.size + 1, 0, none⟩) l1).trans b0
 have c1 : X.cell? ⟨w.heap.size + 1, 1, none⟩ = _ := (Ci.cell (p := ⟨w.heap.size + 1, 1, none⟩) l1).trans b1
 have lX : w.heap.size + 1 < X.heap.size := by have := Ci.size; omega
 have BX := aiU Ci
 clear b0 b1 hr Ci lD hV
 obtain ⟨cS, O2⟩ : ∃ c, ((List.range gn).map fun _ => Value.slice none 0 0).toArray = c := ⟨_, rfl⟩
 obtain ⟨cB, hcB⟩ : ∃ c, ((List.replicate gn false).map Value.bool).toArray = c := ⟨_, rfl⟩
 obtain ⟨iA, S9, Nk, hA1, J6⟩ := info_parts G8
 obtain ⟨iB, S8, hB0, hB1, hB2⟩ := info_parts Hg
 have mk1 : ∀ W, (Instr.makeSlice 157 (.int .i64 (gn : Int)) (.int .i64 (gn : Int))).run Tryz.prog W = .ok (.slice (some ⟨W.heap.size, 0, none⟩) gn gn) (W.alloc (.cells cS 144)) := fun W => by
  have hr := run_make (P := Tryz.prog) W 157 144 iA _ Tryz.underlying157 S9 Nk .i64 .i64 (gn : Int) (gn : Int) ahU (Int.le_refl _) (by rw [J6]; omega) ahU
  rw [hA1, Int.toNat_natCast] at hr
  rw [hr, ← O2, ← ML]
  rfl
 have mk2 : ∀ W, (Instr.makeSlice 55 (.int .i64 (gn : Int)) (.int .i64 (gn : Int))).run Tryz.prog W = .ok (.slice (some ⟨W.heap.size, 0, none⟩) gn gn) (W.alloc (.cells cB 4)) := fun W => by
  have hr := run_make (P := Tryz.prog) W 55 4 iB _ Tryz.underlying55 S8 hB0 .i64 .i64 (gn : Int) (gn : Int) ahU (Int.le_refl _) (by rw [hB2]; omega) ahU
  rw [hB1, Int.toNat_natCast] at hr
  rw [hr, ← hcB, ← MM]
  rfl
 have Vc := aiU O2
 have Vf := aiU hcB
 clear O2 hcB Nk hA1 J6 hB0 hB1 hB2 S9 S8
 go_cut [6] from 15 to 25 (fun a6 wx => ∃ sp cb rb, a6 = .pointer (some ⟨sp, 0, none⟩) ∧ wx.heap[sp]? = some (.cells #[.slice GA gn aY, .slice PA P.length aX, .slice (some ⟨cb, 0, none⟩) gn gn, .slice (some ⟨rb, 0, none⟩) gn gn, .slice none 0 0] 159 (0, 0)) ∧ wx.heap[cb]? = some (.cells cS 144 (0, 0)) ∧ wx.heap[rb]? = some (.cells cB 4 (0, 0)) ∧ (X.heap.size ≤ sp ∧ X.heap.size ≤ cb ∧ X.heap.size ≤ rb) ∧ Below X.heap.size X wx)
 case first =>
  go_region_held3 (fun w' => (∀ b o, b < X.heap.size → w'.cell? ⟨b, o, none⟩ = X.cell? ⟨b, o, none⟩) ∧ Below X.heap.size X w') ((exact MS (by (repeat (first | (with_reducible exact Below.refl _ _) | (with_reducible refine Below.drew ?_) | (with_reducible refine Below.alloc ?_ aie _)))))) (fail)
  all_goals (go_wp2_with fail; go_meet)
  all_goals
   refine ⟨_, _, _, rfl, aG _ _ ahZ, ?_, ?_, by omega, ?_⟩
   ·(show (World.alloc _ _).heap[_]? = _); (repeat (first | exact heap_alloc_new _ _ | exact aG _ _ aio | rw [heap_alloc_old _ _ aij]))
   ·(show (World.alloc _ _).heap[_]? = _); (repeat (first | exact heap_alloc_new _ _ | exact aG _ _ aio | rw [heap_alloc_old _ _ aij]))
   ·(repeat (first | (with_reducible exact Below.refl _ _) | (with_reducible refine Below.drew ?_) | (with_reducible refine Below.alloc ?_ aie _)))
 obtain ⟨sp, cb, rb, rfl, hd1, hd2, hd3, ⟨ha, hc, hr⟩, bW⟩ := hcut
 obtain ⟨W1, hW1⟩ : ∃ W1 : World, W1 = wc := ⟨_, rfl⟩
 subst hW1
 rw [← Vc.out] at hd2
 rw [← Vf.out] at hd3
 have WR := aiU (show oP X W1 sp cb rb gn (.slice GA gn aY) (.slice PA P.length aX) (fun _ => .slice none 0 0) (fun _ => []) (fun _ => false) from
  ⟨bW, ha, hr, hd1, ⟨⟨by simp, .inr ⟨cb, gn, _, rfl, hc, hd2, Nat.le_refl _, by unfold maxLen; omega, by simp, by simp [List.take_of_length_le]⟩⟩, fun i hi => World.ownsRow_nil _ _ _ _, fun i j hi hj _ q hq => (by cases hq)⟩, by
   rw [hd3]
   congr 3
   apply List.ext_getElem
   ·simp
   ·intro i h1 h2; simp⟩)
 have bW1 := bW.size
 have d0 : W1.cell? ⟨w.heap.size + 1, 0, none⟩ = _ := (bW.cell (p := ⟨w.heap.size + 1, 0, none⟩) lX).trans c0
 have Xv : w.heap.size + 1 < W1.heap.size := by omega
 clear hd1 hd2 hd3 ha hc hr bW Vc Vf mk1 mk2
 obtain ⟨iI, p9, qd, oy, ox⟩ := info_parts Hf
 go_upto_region 5 with fail
 have C0 := aiU c0
 have C1 := aiU c1
 clear d0 Xv c0 c1
 have SK := BX.out.size
 have LO := aiU (show ∀ x ∈ G, 0 ≤ x.lo ∧ x.lo < x.hi from fun x hx => by
  obtain ⟨z, hz⟩ := Qc.out.ok
  obtain ⟨e, he⟩ := hz.each x hx
  exact ⟨hz.lo ahU x hx, he.hi⟩)
 go_loopw [29] (fun a29 wr => ∃ (k : Nat) (val : Nat → Value), k ≤ gn ∧ a29 = .int .i64 (k : Int) ∧ (∀ i x, i < k → G[i]? = some x → CW n cd x) ∧ oP X wr sp cb rb gn (.slice GA gn aY) (.slice PA P.length aX) val (eE (cz cd G) k []) (fun i => (eE (cz cd G) k [] i).any gX)) (fun a29 _ => gn - (intOf a29).toNat)
 case atStart => exact ⟨0, _, by omega, rfl, fun i x h => by omega, by rw [uZ]; exact WR.out⟩
 case round =>
  obtain ⟨k, val, hk, rfl, hok, hM⟩ := hrel
  have HM := aiU hM
  have pQ := aiU hok
  have hrX := hM.aD.size
  clear hM hok WR
  by_cases hlt : k < gn
  ·have dl : decide ((k : Int) < (gn : Int)) = true := decide_eq_true ahU
   have dk : (k : Int) < (gn : Int) := by omega
   obtain ⟨x, hx⟩ : ∃ x, G[k]? = some x := ⟨_, List.getElem?_eq_getElem (by rw [eP.out]; exact hlt)⟩
   have hlo := LO.out x (List.mem_of_getElem? hx)
   obtain ⟨gq, j8, rfl, Ib, gc⟩ := WJ.out aib
   obtain ⟨e0, e1, nv, e2, OW⟩ := gc k x hx
   obtain ⟨nA, di, rfl, n1, n2⟩ := ints_at OW
   have n3 := ep n2
   have bw : Below w.heap.size w wr := BV.out.trans ((BX.out.trans (HM.out.aD.mono BX.out.size)).mono BV.out.size)
   have f0 : wr.cell? ⟨gq, j8 + k * 3, none⟩ = _ := (bw.cell (p := ⟨gq, _, none⟩) Ib).trans e0
   have f1 : wr.cell? ⟨gq, j8 + k * 3 + 1, none⟩ = _ := (bw.cell (p := ⟨gq, _, none⟩) Ib).trans e1
   have f2 : wr.cell? ⟨gq, j8 + k * 3 + 2, none⟩ = _ := (bw.cell (p := ⟨gq, _, none⟩) Ib).trans e2
   have lg : gq < wr.heap.size := by have := bw.size; omega
   obtain ⟨xlo, yq⟩ : ∃ v, x.lo = v := ⟨_, rfl⟩
   obtain ⟨xhi, yt⟩ : ∃ v, x.hi = v := ⟨_, rfl⟩
   obtain ⟨xu, JX⟩ : ∃ v, x.nx.length = v := ⟨_, rfl⟩
   rw [yq] at f0 hlo
   rw [yt] at f1 hlo
   rw [JX] at f2 n1
   obtain ⟨ln, rfl⟩ : ∃ ln : Nat, xlo = (ln : Int) := ⟨xlo.toNat, by omega⟩
   obtain ⟨hn', rfl⟩ : ∃ hn' : Nat, xhi = (hn' : Int) := ⟨xhi.toNat, by omega⟩
   have Uj := aiU yq
   have Uk := aiU yt
   have HX := aiU hx
   have Qv := aiU (show cz cd G k = codeFrom cd (ln : Int) (hn' - ln) by
    unfold cz
    rw [show G.getD k ⟨0, 0, []⟩ = x by simp [List.getD, hx], yq, yt]
    congr 1
    omega)
   have hlh : ln < hn' := by omega
   have HLH := aiU hlh
   clear e0 e1 e2 OW gc bw yq yt JX hx n2 hlo hlh
   go_upto_region 8 with fail
   obtain ⟨b9, hb9⟩ : ∃ b9, wr.heap.size = b9 := ⟨_, rfl⟩
   obtain ⟨Y, hY⟩ : ∃ Y, wr.alloc (.cells #[.int .i64 (ln : Int), .int .i64 (hn' : Int), .slice nA xu di] 78) = Y := ⟨_, rfl⟩
   rw [hY]
   have bY : Below wr.heap.size wr Y := hY ▸ (Below.refl _ _).alloc (Nat.le_refl _) _
   have kY : Y.heap[b9]? = some (.cells #[.int .i64 (ln : Int), .int .i64 (hn' : Int), .slice nA xu di] 78 (0, 0)) := by rw [← hb9, ← hY]; exact heap_alloc_new _ _
   rw [hb9]
   have KY := aiU kY
   have WA := aiU (HM.out.below bY)
   clear hb9 hY bY kY f0 f1 f2
   obtain ⟨wo, Hi⟩ : ∃ wo : World, wo = wr := ⟨_, rfl⟩
   subst Hi
   go_loopw [9] (fun a9 wz => ∃ (pc : Nat) (lJ : Nat → Value), ln ≤ pc ∧ pc ≤ hn' ∧ a9 = .int .i64 (pc : Int) ∧ (∀ a, ln ≤ a → a < pc → a < n ∧ (bk (cd a)).2 = 0) ∧ oP X wz sp cb rb gn (.slice (some ⟨gq, j8, none⟩) gn aY) (.slice PA P.length aX) lJ (eE (cz cd G) k (codeFrom cd (ln : Int) (pc - ln))) (fun i => (eE (cz cd G) k (codeFrom cd (ln : Int) (pc - ln)) i).any gX) ∧ wz.heap[b9]? = some (.cells #[.int .i64 (ln : Int), .int .i64 (hn' : Int), .slice nA xu di] 78 (0, 0))) (fun a9 _ => hn' - (intOf a9).toNat)
   case atStart => exact ⟨ln, val, Nat.le_refl _, by have := HLH.out; omega, rfl, fun a h1 h2 => by omega, by rw [Nat.sub_self]; exact WA.out, KY.out⟩
   case round =>
    clear WA KY
    obtain ⟨pc, lJ, hlp, hph, rfl, OY, hM2, k9⟩ := hrel
    have JC := aiU hM2
    have HJS := aiU OY
    have K9 := aiU k9
    have hzX := hM2.aD.size
    have z1 : wr.cell? ⟨b9, 1, none⟩ = some (.int .i64 (hn' : Int)) := by simp [World.cell?, k9]
    have lz9 : b9 < wr.heap.size := aB k9
    clear hM2 k9 OY
    have Q3 := aiU (((BX.out.trans (JC.out.aD.mono BX.out.size)).block _ aiv).trans K0.out)
    by_cases hlt2 : pc < hn'
    ·have dl2 : decide (pc < hn') = true := decide_eq_true hlt2
     have afq : decide ((pc : Int) < (hn' : Int)) = true := decide_eq_true ahU
     have J8 : Below w.heap.size w wr := BV.out.trans ((BX.out.trans (JC.out.aD.mono BX.out.size)).mono BV.out.size)
     have MG := aiU J8
     have t0 : wr.cell? ⟨w.heap.size, 0, none⟩ = some (.slice CA n cX) := by have := Q3.out; simp [World.cell?, this]
     have lz0 : w.heap.size < wr.heap.size := by omega
     have aeK : decide ((pc : Int) < 0) = false := decide_eq_false ahU
     have Mw := aiU (show ¬ (pc < n ∧ (bk (cd pc)).2 = 0) → ¬ (bQ G P ∧ fD n cd G) from fun h1 h2 =>
      h1 (h2.2 x (List.mem_of_getElem? HX.out) pc (by rw [Uj.out]; omega) (by rw [Uk.out]; omega)))
     by_cases hnn : pc < n
     case neg =>
      have dn : decide (n ≤ pc) = true := decide_eq_true ahU
      have dn' : decide ((n : Int) ≤ (pc : Int)) = true := decide_eq_true ahU
      have HF := aiU (Mw.out (fun h => hnn h.1))
      clear hnn hlt2 J8
      go_wp2_with fail
      go_ret2
      exact ⟨.inr ⟨HF.out, rfl⟩, MG.out⟩
     have dn : decide (n ≤ pc) = false := decide_eq_false ahU
     have dn' : decide ((n : Int) ≤ (pc : Int)) = false := decide_eq_false ahU
     obtain ⟨cq, YN, Yy, Nn, cc⟩ := HC4.out ahU
     have cx := (J8.cell (p := ⟨cq, YN + pc, none⟩) Nn).trans (cc pc hnn)
     have lcq : cq < wr.heap.size := by have := J8.size; omega
     have hwd := Ke.out.wd pc hnn
     have icn : (pc : Int) < (n : Int) := by omega
     have JJ := aiU (kj (cd pc) hwd.1 hwd.2 wr (HT.out.below J8))
     have hdd : (bk (cd pc)).2 = 0 ∨ bk (cd pc) = (⟨0, 0, 0, 0, 0⟩, 3) := by
      unfold bk
      split
      ·exact .inl rfl
      ·exact .inr rfl
     obtain ⟨cw, hcw⟩ : ∃ c, cd pc = c := ⟨_, rfl⟩
     have WI := aiU (show (bk cw).2 = 0 → 0 ≤ (bk cw).1.op from fun h => by
      rw [← hcw] at h ⊢
      obtain ⟨k, hk, _⟩ := iG hwd.1 h
      have := hk.op
      omega)
     have ZP := aiU (show au cd (pc : Int) = (bk cw).1 by rw [← hcw]; rfl)
     have Vb := aiU hcw
     rw [hcw] at cx JJ hdd Mw
     subst Yy
     clear cc J8 hcw hwd
     by_cases hd0 : (bk cw).2 = 0
     case neg =>
      have hd3 := hdd.resolve_left hd0
      have HF := aiU (Mw.out (fun h => hd0 h.2))
      have HD := aiU (show Calls Tryz.prog 22 #[.int .u32 cw] wr fun e w' => e = .returned (.tuple #[.agg #[.int .u8 0, .int .i64 0, .int .i64 0, .int .i64 0, .int .i64 0], .int .i64 3]) ∧ Below wr.heap.size wr w' from by
       have := JJ.out
       rw [hd3] at this
       exact this)
      clear hd0 hd3 hdd JJ
      go_wp2_with (go_at_call 22; refine HD.out.mono ?_; rintro e w2 ⟨rfl, hb2⟩; have B2 := aiU hb2; have l2 := hb2.size; clear hb2)
      go_ret2
      refine ⟨.inr ⟨HF.out, rfl⟩, ?_⟩
      have h := MG.out.trans (B2.out.mono MG.out.size)
      first
       | exact h
       | exact h.alloc h.size _
     obtain ⟨op, ia, ic, id, im, hi⟩ : ∃ op ia ic id im, (bk cw).1 = ⟨op, ia, ic, id, im⟩ := ⟨_, _, _, _, _, rfl⟩
     have HD := aiU (show Calls Tryz.prog 22 #[.int .u32 cw] wr fun e w' => e = .returned (.tuple #[.agg #[.int .u8 op, .int .i64 ia, .int .i64 ic, .int .i64 id, .int .i64 im], .int .i64 0]) ∧ Below wr.heap.size wr w' from by
      have := JJ.out
      rw [hd0, hi] at this
      exact this)
     have HI := aiU (show au cd (pc : Int) = ⟨op, ia, ic, id, im⟩ by rw [ZP.out]; exact hi)
     have Zy := aiU (show (bk (cd pc)).2 = 0 by rw [Vb.out]; exact hd0)
     clear JJ hdd hd0 hi Mw WI
     go_upto_region 15 with (go_at_call 22; refine HD.out.mono ?_; rintro e w2 ⟨rfl, hb2⟩; have B2 := aiU hb2; have l2 := hb2.size; clear hb2)
     obtain ⟨U, hU⟩ : ∃ U, w2.alloc (.cells #[.int .u8 op, .int .i64 ia, .int .i64 ic, .int .i64 id, .int .i64 im] 67) = U := ⟨_, rfl⟩
     rw [hU]
     have bU : Below w2.heap.size w2 U := hU ▸ (Below.refl _ _).alloc (Nat.le_refl _) _
     have kU : U.heap[w2.heap.size]? = some (.cells #[.int .u8 op, .int .i64 ia, .int .i64 ic, .int .i64 id, .int .i64 im] 67 (0, 0)) := hU ▸ heap_alloc_new _ _
     obtain ⟨y0, y1, y2, y3, y4, lU⟩ := bP kU
     obtain ⟨b10, yC⟩ : ∃ b, w2.heap.size = b := ⟨_, rfl⟩
     have NF : Below wr.heap.size wr U := B2.out.trans (bU.mono B2.out.size)
     rw [yC] at y0 y1 y2 y3 y4 lU kU
     rw [yC]
     have KU := aiU kU
     have tM := aiU (JC.out.below NF)
     have Kc := aiU ((NF.block b9 lz9).trans K9.out)
     have v0 := tM.out.cells.2.2.1
     obtain ⟨lsp, lcb, lrb⟩ := tM.out.lt
     obtain ⟨v1, v1f⟩ := tM.out.pm.cells hlt
     have hop := tM.out.pm.own k hlt
     have SN := JC.out.pm.own k hlt
     rw [fW, ey] at hop
     obtain ⟨vk, Ch⟩ : ∃ v, lJ k = v := ⟨_, rfl⟩
     have Q7 := aiU Ch
     have Ra := aiU (show some cb ≠ vk.ownBlock from fun e' => by
      rw [← Ch] at e'
      exact (tM.out.zi hlt cb e'.symm).2.2.1 rfl)
     have HNs := aiU (show some sp ≠ vk.ownBlock from fun e' => by
      rw [← Ch] at e'
      exact (tM.out.zi hlt sp e'.symm).2.1 rfl)
     have Wy := aiU (show some b9 ≠ vk.ownBlock from fun e' => by
      rw [← Ch] at e'
      obtain ⟨cs, hcs⟩ := dJ hop e'.symm
      exact aS hcs Kc.out ahW rfl)
     have UL := aiU (show some b10 ≠ vk.ownBlock from fun e' => by
      rw [← Ch] at e'
      have := (SN.lt b10 e'.symm).2
      omega)
     rw [Ch] at hop v1
     have wS := aiU hop
     obtain ⟨vA, vn, dI, hvs⟩ : ∃ vA vn dI, vk = .slice vA vn dI := by
      rcases hop.2 with ⟨e, _⟩ | ⟨g', cap', cur', e, _⟩
      ·exact ⟨_, _, _, e⟩
      ·exact ⟨_, _, _, e⟩
     subst hvs
     have Xw : b9 < U.heap.size := aB Kc.out
     have Ms := aiU (show X.heap.size ≤ U.heap.size from tM.out.aD.size)
     obtain ⟨m, hm⟩ : ∃ m, pc - ln = m := ⟨_, rfl⟩
     have hm6 : m ≤ 1000000 := by omega
     have Zu := aiU (show pc + 1 - ln = m + 1 by omega)
     have UD := aiU (show (ln : Int) + (m : Int) = (pc : Int) by omega)
     rw [hm] at wS tM
     have zH := aiU (show ∀ (W2 : World) (v2 : Value), ((U.alloc (.cells #[.int .u8 op, .int .i64 ia, .int .i64 ic, .int .i64 id, .int .i64 im] 67)).drew).grownBy W2 (Value.slice vA vn dI).ownBlock → W2.ownsRow X.heap.size 67 5 v2 (m + 1) (kT (codeFrom cd (ln : Int) m) ++ [.int .u8 op, .int .i64 ia, .int .i64 ic, .int .i64 id, .int .i64 im]) → (v2.ownBlock = (Value.slice vA vn dI).ownBlock ∨ v2.ownBlock = some ((U.alloc (.cells #[.int .u8 op, .int .i64 ia, .int .i64 ic, .int .i64 id, .int .i64 im] 67)).drew).heap.size) →
       oP X (W2.setCell ⟨cb, k, none⟩ v2) sp cb rb gn (.slice (some ⟨gq, j8, none⟩) gn aY) (.slice PA P.length aX) (upd lJ k v2) (eE (cz cd G) k (codeFrom cd (ln : Int) (m + 1))) (fun i => (eE (cz cd G) k (codeFrom cd (ln : Int) m) i).any gX) ∧ (W2.setCell ⟨cb, k, none⟩ v2).heap[b9]? = some (.cells #[.int .i64 (ln : Int), .int .i64 (hn' : Int), .slice nA xu di] 78 (0, 0)) ∧ (W2.setCell ⟨cb, k, none⟩ v2).heap[b10]? = some (.cells #[.int .u8 op, .int .i64 ia, .int .i64 ic, .int .i64 id, .int .i64 im] 67 (0, 0)) from fun W2 v2 hg2 ho2 vZ => by
      have bD : Below U.heap.size U ((U.alloc (.cells #[.int .u8 op, .int .i64 ia, .int .i64 ic, .int .i64 id, .int .i64 im] 67)).drew) := Below.drew ((Below.refl _ _).alloc (Nat.le_refl _) _)
      have h3 := tM.out.app (y := au cd (pc : Int)) hlt bD (by rw [Q7.out]; exact hg2) (by rw [fW, ey, Ej, HI.out]; exact ho2) (by rw [Q7.out]; exact vZ)
      rw [fW, yQ, ← UD.out, ← jB] at h3
      have hc9 : b9 ≠ cb := fun e => by
       obtain ⟨cs, hcs⟩ := dJ tM.out.pm.cH (q := cb) rfl
       exact aS Kc.out hcs ahW e
      have Yo : b10 ≠ cb := fun e => by
       obtain ⟨cs, hcs⟩ := dJ tM.out.pm.cH (q := cb) rfl
       exact aS KU.out hcs ahW e
      refine ⟨h3, ?_, ?_⟩
      ·rw [Below.heap_setCell _ _ _ _ (by show b9 ≠ cb; exact hc9)]
       rw [(grown_of bD hg2).block b9 Xw (fun e => Wy.out e)]
       exact Kc.out
      ·rw [Below.heap_setCell _ _ _ _ (by show b10 ≠ cb; exact Yo)]
       rw [(grown_of bD hg2).block b10 lU (fun e => UL.out e)]
       exact KU.out)
     have BUH := aiU (MG.out.trans (NF.mono MG.out.size))
     have icb : (k : Int) < (gn : Int) := dk
     obtain ⟨rk, hrk⟩ : ∃ r, ((eE (cz cd G) k (codeFrom cd (ln : Int) m)) k).any gX = r := ⟨_, rfl⟩
     have HRK := aiU hrk
     clear hU bU NF yC hop SN Ch t0 kU hm cx hrk JC
     go_cut [9] from 62 to 77 (fun a9 wx => ∃ v3, a9 = .int .i64 (pc : Int) ∧ oP X wx sp cb rb gn (.slice (some ⟨gq, j8, none⟩) gn aY) (.slice PA P.length aX) v3 (eE (cz cd G) k (codeFrom cd (ln : Int) (m + 1))) (fun i => (eE (cz cd G) k (codeFrom cd (ln : Int) m) i).any gX) ∧ wx.heap[b9]? = some (.cells #[.int .i64 (ln : Int), .int .i64 (hn' : Int), .slice nA xu di] 78 (0, 0)) ∧ wx.heap[b10]? = some (.cells #[.int .u8 op, .int .i64 ia, .int .i64 ic, .int .i64 id, .int .i64 im] 67 (0, 0)))
     case first =>
      refine wp_region_noPanic ?_
      go_region_law (refine bK rfl (.tmp 73) (.tmp 75) 144 rfl X.heap.size 67 iI _ 5 40 Tryz.underlying144 p9 qd oy ox rfl ahW (.slice vA vn dI) m (kT (codeFrom cd (ln : Int) m)) aiq (World.ownsRow.alloc (World.ownsRow.drew wS.out) _) ⟨U.heap.size, 0, none⟩ 1 1 [.int .u8 op, .int .i64 ia, .int .i64 ic, .int .i64 id, .int .i64 im] aiq rfl (sK _ _ _ _ _ _ _) ahX ahY ahU air ?_; intro v' W2 hown2 hgrow2 yD; obtain ⟨g2, gj, rfl⟩ := ownsRow_succ hown2; have hc1 := hgrow2.cell (a := ⟨cb, k, none⟩) (v := .slice vA vn dI) ah8 Ra.out; have hc2 := hgrow2.cell (a := ⟨sp, 2, none⟩) (v := .slice (some ⟨cb, 0, none⟩) gn gn) ah8 HNs.out; have hf1 : W2.frozen? ⟨cb, k, none⟩ = false := (World.frozen?_of_block (hgrow2.block cb ah3 Ra.out)).trans ah8)
      all_goals
       have F1 := aiU (zH.out W2 _ hgrow2 hown2 yD)
       clear hgrow2 hown2 yD hc1 hc2 hf1
       refine NoPanic.normal ?_
       go_wp2_with fail
       go_meet
       exact ⟨_, rfl, F1.out.1, F1.out.2.1, F1.out.2.2⟩
     obtain ⟨v3, rfl, QW, h9Z, Tu⟩ := hcut
     obtain ⟨Z, hZ⟩ : ∃ Z : World, Z = wc := ⟨_, rfl⟩
     subst hZ
     have HPZ := aiU QW
     have H9Z := aiU h9Z
     have hsr := QW.cells.2.2.2
     obtain ⟨xr, xrf⟩ := QW.rat hlt
     obtain ⟨z0, z1, z2, z3, z4, lZ⟩ := bP Tu
     obtain ⟨lsp, -, lrb⟩ := QW.lt
     have BZ := aiU (BV.out.trans ((BX.out.trans (QW.aD.mono BX.out.size)).mono BV.out.size))
     rw [HRK.out] at xr
     obtain ⟨ci, hci⟩ : ∃ c, gX ⟨op, ia, ic, id, im⟩ = c := ⟨_, rfl⟩
     have Rl := aiU (show ∀ W, Calls Tryz.prog 75 #[.agg #[.int .u8 op, .int .i64 ia, .int .i64 ic, .int .i64 id, .int .i64 im]] W fun e w' => e = .returned (.bool ci) ∧ Below W.heap.size W w' from fun W => by
      have := wD ⟨op, ia, ic, id, im⟩ W
      rw [hci] at this
      exact this)
     have ze := aiU (show ∀ x : Ext Z, oP X (x.w.setCell ⟨rb, k, none⟩ (.bool (rk || ci))) sp cb rb gn (.slice (some ⟨gq, j8, none⟩) gn aY) (.slice PA P.length aX) v3 (eE (cz cd G) k (codeFrom cd (ln : Int) (pc + 1 - ln))) (fun i => (eE (cz cd G) k (codeFrom cd (ln : Int) (pc + 1 - ln)) i).any gX) ∧ (x.w.setCell ⟨rb, k, none⟩ (.bool (rk || ci))).heap[b9]? = some (.cells #[.int .i64 (ln : Int), .int .i64 (hn' : Int), .slice nA xu di] 78 (0, 0)) from fun x => by
      have h1 := (HPZ.out.below x.h).mark k (rk || ci)
      rw [Zu.out]
      have e1 : upd (fun i => (eE (cz cd G) k (codeFrom cd (ln : Int) m) i).any gX) k (rk || ci) = fun i => (eE (cz cd G) k (codeFrom cd (ln : Int) (m + 1)) i).any gX := by
       funext i
       unfold upd
       by_cases e : i = k
       ·subst e
        rw [if_pos rfl, ← HRK.out, fW, fW, jB, List.any_append, UD.out, HI.out, ← hci]
        simp
       ·rw [if_neg e]
        have e2 : eE (cz cd G) k (codeFrom cd (ln : Int) m) i = eE (cz cd G) k (codeFrom cd (ln : Int) (m + 1)) i := by
         unfold eE
         rw [if_neg e, if_neg e]
        show (eE (cz cd G) k (codeFrom cd (ln : Int) m) i).any gX = _
        rw [e2]
      rw [e1] at h1
      refine ⟨h1, ?_⟩
      rw [Below.heap_setCell _ _ _ _ (by show b9 ≠ rb; exact aS H9Z.out HPZ.out.fo ahW)]
      exact (x.h.block b9 (aB H9Z.out)).trans H9Z.out)
     have UR := aiU (show ∀ a, ln ≤ a → a < pc + 1 → a < n ∧ (bk (cd a)).2 = 0 from fun a h1 h2 => by
      by_cases e : a = pc
      ·subst e; exact ⟨hnn, Zy.out⟩
      ·exact HJS.out a h1 ahU)
     clear QW h9Z Tu hci tM wS KU Kc Q7 Ra HNs Wy UL zH
     go_upto_region 16 with fail
     cases rk with
     | true =>
      refine aI 17 ahV ahV ?_
      simp only [ai1, List.take_zero, ai2, List.drop_zero]
      repeat (go_big_quiet_step (fail))
      refine wpQuiet_nil ?_
      rintro _ ⟨x1, rfl⟩
      have F2 := aiU (ze.out x1)
      go_wp2_with fail
      go_roundw
      case rel => exact ⟨pc + 1, _, by omega, by omega, by go_num, UR.out, F2.out.1, F2.out.2⟩
      case measure => simp [intOf]; omega
     | false =>
      refine aI 17 ahV ahV ?_
      simp only [ai1, List.take_zero, ai2, List.drop_zero]
      repeat (go_big_quiet_step ((go_at_call 75; exact Calls.ax (Rl.out _))))
      refine wpQuiet_nil ?_
      rintro _ ⟨x1, rfl⟩
      have F2 := aiU (ze.out x1)
      go_wp2_with fail
      go_roundw
      case rel => exact ⟨pc + 1, _, by omega, by omega, by go_num, UR.out, F2.out.1, F2.out.2⟩
      case measure => simp [intOf]; omega
    ·obtain rfl : hn' = pc := by omega
     have dl2 : decide ((hn' : Int) < (hn' : Int)) = false := by simp
     have tI := aiU (show oP X wr sp cb rb gn (.slice (some ⟨gq, j8, none⟩) gn aY) (.slice PA P.length aX) lJ (eE (cz cd G) (k + 1) []) (fun i => (eE (cz cd G) (k + 1) [] i).any gX) by rw [← ve, Qv.out]; exact JC.out)
     have Jz := aiU (show ∀ i y, i < k + 1 → G[i]? = some y → CW n cd y from fun i y hi hy => by
      by_cases e : i = k
      ·subst e
       rw [HX.out] at hy
       cases hy
       intro a h1 h2
       rw [Uj.out] at h1
       rw [Uk.out] at h2
       exact HJS.out a ahU ahU
      ·exact pQ.out i y ahU hy)
     go_wp2_with fail
     go_roundw
     case rel => exact ⟨k + 1, lJ, by omega, by go_num, Jz.out, tI.out⟩
     case measure => simp [intOf]; omega
  ·obtain rfl : gn = k := by omega
   have dl : decide ((gn : Int) < (gn : Int)) = false := by simp
   have N4 := aiU (show fD n cd G from fun y hy => by
    obtain ⟨i, hi⟩ := List.mem_iff_getElem?.1 hy
    exact pQ.out i y (by rw [← eP.out]; exact (List.getElem?_eq_some_iff.1 hi).1) hi)
   have bw : Below w.heap.size w wr := BV.out.trans ((BX.out.trans (HM.out.aD.mono BX.out.size)).mono BV.out.size)
   have BW := aiU bw
   have t0 : wr.cell? ⟨w.heap.size + 1, 0, none⟩ = _ := (HM.out.aD.cell (p := ⟨w.heap.size + 1, 0, none⟩) lX).trans C0.out
   have t1 : wr.cell? ⟨w.heap.size + 1, 1, none⟩ = _ := (HM.out.aD.cell (p := ⟨w.heap.size + 1, 1, none⟩) lX).trans C1.out
   have lt1 : w.heap.size + 1 < wr.heap.size := by omega
   obtain ⟨h1, h2, h3⟩ := HM.out.lt
   have uh := aiU (xy _ _ G P wr (JI.out.below bw) (Qg.out.below bw) Qc.out aii)
   clear bw
   go_wp2_with (go_at_call 37; refine uh.out.mono ?_; rintro e W2 ⟨⟨dv, D, rfl, hI, hD⟩, hb2⟩; obtain ⟨DA, nH, rfl, -, -⟩ := ints_at hI; have HIW := aiU hI; have HDW := aiU hD; have B2 := aiU hb2; have hd2 := (HM.out.below hb2).head; have l2 : sp < W2.heap.size := aB hd2; have q4 : W2.cell? ⟨sp, 4, none⟩ = some (.slice none 0 0) := (by simp [World.cell?, hd2]); have qf : W2.frozen? ⟨sp, 4, none⟩ = false := (by simp [World.frozen?, hd2]); clear hI hD hb2 hd2)
   go_ret2
   have hl : D.length = gn := by have := HDW.out.ti.len; rw [eP.out] at this; exact this
   have hF := HM.out.done (G := G) B2.out ((JI.out.below BV.out).below BX.out) eP.out HIW.out hl ⟨_, _, _, rfl⟩ ⟨_, _, _, rfl⟩
   have e1 : (List.range gn).map (eE (cz cd G) gn []) = fV cd G := by
    unfold fV
    rw [eP.out]
    apply List.map_congr_left
    intro i hi
    unfold eE
    rw [if_pos (List.mem_range.1 hi)]
   have e2 : ((List.range gn).map fun i => (eE (cz cd G) gn [] i).any gX) = dR cd G := by
    rw [dR, ← e1, List.map_map]; rfl
   rw [e1, e2] at hF
   refine ⟨.inl ⟨Qc.out, N4.out, ⟨sp, _, _, _, D, rfl, hF, HDW.out⟩⟩, ?_⟩
   ·refine Below.setCell (BW.out.trans (B2.out.mono BW.out.size)) ?_ _
    have h9 := HM.out.sV
    have := BX.out.size
    have := BV.out.size
    show w.heap.size ≤ sp
    omega
end
section
open Go.RowKit
open Classical in
noncomputable def jk (G : List aU) : List Int := if h : ∃ D, eO G D then Classical.choose h else []
theorem eO.eq {G : List aU} {P : List (List Int)} {D : List Int} (hV : bQ G P) (hn : G.length ≤ 5000) (h : eO G D) : jk G = D := by
 have he : ∃ D, eO G D := ⟨D, h⟩
 have h1 : jk G = Classical.choose he := by unfold jk; rw [dif_pos he]
 have h2 : eO G (Classical.choose he) := Classical.choose_spec he
 rw [← h1] at h2
 obtain ⟨gr, -⟩ := qg (List.length_pos_iff.2 hV.ne) (GB.of hV hn).lt
 exact Exact.unique gr h2.ti h.ti h2.ex h.ex h2.all h.all
def JT (G : List aU) : Prop := ∀ b, b < G.length → b ∈ dK G.length (cM G)
noncomputable def rO (cd : Nat → Int) (G : List aU) (x : Lp) : List Bool := eC G (dR cd G) (jk G) x.h.toNat x.bl (x.la.map Int.toNat) G.length
noncomputable def cZ (cd : Nat → Int) (G : List aU) (x : Lp) (aO : Int) : Int × Bool := sN aO (gl aO (gW G.length x.bl) (rO cd G x) (fV cd G) G.length)
open Classical in
noncomputable def gv (n : Nat) (cd : Nat → Int) (G : List aU) (P : List (List Int)) (x : Lp) (aO : Int) : Int × Bool :=
 if bQ G P ∧ fD n cd G ∧ kQ G.length x = true then cZ cd G x aO else (0, false)
noncomputable def ko (f : Int → Int × Bool) : List Int → Int × Int × Bool
 | [] => (0, 0, false)
 | r :: l => if (f r).2 = true then (r, (f r).1, true) else ko f l
def gY : List Int := [10, 11, 12, 13]
def dL (s : Int × Bool) (x : Int × Bool) : Int × Bool := if x.2 = true ∧ (s.2 = false ∨ x.1 < s.1) then (x.1, true) else s
noncomputable def oY (cd : Nat → Int) (G : List aU) (rl : List Bool) (x : Lp) : Int × Bool :=
 if rl.getD x.h.toNat false = true then (gY.map (cZ cd G x)).foldl dL (0, false) else (0, true)
noncomputable def jh (cd : Nat → Int) (G : List aU) (rl : List Bool) : List Lp → List Int → List Int ⊕ Int
 | [], acc => .inl acc
 | x :: L, acc => if (oY cd G rl x).2 = true then jh cd G rl L (acc ++ [(oY cd G rl x).1]) else .inr x.h
theorem uU {cd : Nat → Int} {G : List aU} {rl : List Bool} : ∀ {L : List Lp} {acc out : List Int}, jh cd G rl L acc = .inl out → ∀ (x : Lp), jh cd G rl (L ++ [x]) acc = if (oY cd G rl x).2 = true then .inl (out ++ [(oY cd G rl x).1]) else .inr x.h
 | [], acc, out, h, x => by
  cases h
  simp [jh]
 | y :: L, acc, out, h, x => by
  simp only [jh, List.cons_append] at h ⊢
  split at h
  ·rename_i h1
   rw [if_pos h1]
   exact uU h x
  ·cases h
theorem uT {cd : Nat → Int} {G : List aU} {rl : List Bool} {b : Int} : ∀ {L : List Lp} {acc : List Int}, jh cd G rl L acc = .inr b → ∀ (M : List Lp), jh cd G rl (L ++ M) acc = .inr b
 | [], acc, h, M => by cases h
 | y :: L, acc, h, M => by
  simp only [jh, List.cons_append] at h ⊢
  split at h
  ·rename_i h1
   rw [if_pos h1]
   exact uT h M
  ·rename_i h1
   rw [if_neg h1]
   exact h
theorem Cr {n : Nat} {cd : Nat → Int} {G : List aU} (hw : ∀ i, i < n → 0 ≤ cd i ∧ cd i < 4294967296) (hl : ∀ x ∈ G, 0 ≤ x.lo) (h : fD n cd G) : ∀ l ∈ fV cd G, ∀ i ∈ l, 0 ≤ i.op := by
 intro l hl' i hi
 obtain ⟨k, hk, rfl⟩ := List.mem_map.1 hl'
 have hk := List.mem_range.1 hk
 unfold cz codeFrom at hi
 obtain ⟨j, hj, rfl⟩ := List.mem_map.1 hi
 have hj := List.mem_range.1 hj
 have e : G.getD k ⟨0, 0, []⟩ = G[k] := by simp [List.getD, List.getElem?_eq_getElem hk]
 rw [e] at hj ⊢
 have h0 := hl _ (List.getElem_mem hk)
 obtain ⟨a, ha⟩ : ∃ a : Nat, (G[k]).lo + (j : Int) = (a : Int) := ⟨((G[k]).lo + (j : Int)).toNat, by omega⟩
 rw [ha]
 have h1 := h _ (List.getElem_mem hk) a ahU ahU
 obtain ⟨q, hq, _⟩ := iG (hw a h1.1).1 h1.2
 have h2 := hq.op
 unfold au
 rw [Int.toNat_natCast]
 omega
theorem EJ {n : Nat} {cd : Nat → Int} {G : List aU} (hl : ∀ x ∈ G, 0 ≤ x.lo) (h : fD n cd G) (k : Nat) : (cz cd G k).length ≤ n := by
 unfold cz
 rw [ey]
 by_cases hk : k < G.length
 ·rw [show G.getD k ⟨0, 0, []⟩ = G[k] by simp [List.getD, List.getElem?_eq_getElem hk]]
  have h0 := hl _ (List.getElem_mem hk)
  by_cases hlt : (G[k]).lo < (G[k]).hi
  ·have := h _ (List.getElem_mem hk) ((G[k]).hi - 1).toNat ahU ahU
   omega
  ·omega
 ·rw [show G.getD k ⟨0, 0, []⟩ = ⟨0, 0, []⟩ by simp [List.getD, List.getElem?_eq_none (by omega : G.length ≤ k)]]
  simp
theorem Il {C : List (List Ins)} {m : Nat} (h : ∀ l ∈ C, l.length ≤ m) : C.flatten.length ≤ C.length * m := by
 induction C with
 | nil => simp
 | cons l C ih =>
  have h1 := h l ahZ
  have h2 := ih (fun x hx => h x aiL)
  rw [List.flatten_cons, List.length_append, List.length_cons, Nat.succ_mul]
  omega
theorem yP {n : Nat} {cd : Nat → Int} {G : List aU} (hn : n ≤ 1000000) (hg : G.length ≤ 5000) (hl : ∀ x ∈ G, 0 ≤ x.lo) (h : fD n cd G) : (fV cd G).flatten.length ≤ 1000000000000000 := by
 have h1 := Il (C := fV cd G) (m := 1000000) (fun l hl' => by
  obtain ⟨k, hk, rfl⟩ := List.mem_map.1 hl'
  have := EJ hl h k
  omega)
 rw [ER] at h1
 omega
end
section
open Go.RowKit
theorem Aj {W w' : World} (h : Below W.heap.size W w') : (∀ b o, b < W.heap.size → w'.cell? ⟨b, o, none⟩ = W.cell? ⟨b, o, none⟩) ∧ Below W.heap.size W w' := ⟨fun b o hb => h.cell (p := ⟨b, o, none⟩) hb, h⟩
theorem Cc {n : Nat} {l : List Int} (h : eu n l = true) : cm (l.map Int.toNat) = l ∧ ∀ x ∈ l.map Int.toNat, x < n := by
 have h1 := List.all_eq_true.1 (show (l.all fun x => decide (0 ≤ x) && decide (x < (n : Int))) = true from h)
 constructor
 ·unfold cm
  rw [List.map_map]
  conv => rhs; rw [← List.map_id l]
  apply List.map_congr_left
  intro x hx
  have := h1 x hx
  simp only [Bool.and_eq_true, decide_eq_true_eq] at this
  show ((x.toNat : Nat) : Int) = x
  omega
 ·intro x hx
  obtain ⟨y, hy, rfl⟩ := List.mem_map.1 hx
  have := h1 y hy
  simp only [Bool.and_eq_true, decide_eq_true_eq] at this
  omega
theorem vh (cv ev bv pv : Value) (sh lk : Int) (n : Nat) (cd : Nat → Int) (G : List aU) (P : List (List Int)) (w : World) (T : gZ w) (HW : Words w cv n cd) (HG : fL w bv G) (HP : mG w pv P) (hn : G.length ≤ 5000) (fc : ∀ x ∈ G, x.nx.length ≤ 5000) (x : Lp) (p : Int) (v1 v2 : Value) (H1 : Ints w v1 x.bl) (H2 : Ints w v2 x.la) (hla : x.la.length ≤ 5000000) (HR : bQ G P → JT G) (aO : Int) :
  Calls Tryz.prog 15 #[.agg #[cv, ev, .int .i64 sh, .int .i64 lk], .agg #[bv, pv], .agg #[.int .i64 x.h, v1, v2, .int .i64 p], .int .i64 aO] w fun e w' => e = .returned (.tuple #[.int .i64 (gv n cd G P x aO).1, .bool (gv n cd G P x aO).2]) ∧ Below w.heap.size w w' := by
 obtain ⟨R, hR⟩ : ∃ R, gv n cd G P x aO = R := ⟨_, rfl⟩
 rw [hR]
 obtain ⟨r1, r2⟩ := R
 have NZ := aiU hR
 obtain ⟨V, hV⟩ : ∃ V, ((w.alloc (.cells #[cv, ev, .int .i64 sh, .int .i64 lk] 25)).alloc (.cells #[bv, pv] 31)).alloc (.cells #[.int .i64 x.h, v1, v2, .int .i64 p] 46) = V := ⟨_, rfl⟩
 have bV : Below w.heap.size w V := hV ▸ (((Below.refl _ _).alloc (Nat.le_refl _) _).alloc ahZ _).alloc ah3 _
 have sV : V.heap.size = w.heap.size + 1 + 1 + 1 := by rw [← hV]; simp
 have k0 : V.heap[w.heap.size]? = some (.cells #[cv, ev, .int .i64 sh, .int .i64 lk] 25 (0, 0)) := by
  rw [← hV, heap_alloc_old _ _ ah3, heap_alloc_old _ _ ahZ]; exact heap_alloc_new _ _
 have k1 : V.heap[w.heap.size + 1]? = some (.cells #[bv, pv] 31 (0, 0)) := by
  rw [← hV, heap_alloc_old _ _ ahZ]; exact aG _ _ ahZ
 have k2 : V.heap[w.heap.size + 1 + 1]? = some (.cells #[.int .i64 x.h, v1, v2, .int .i64 p] 46 (0, 0)) := by rw [← hV]; exact aG _ _ ahZ
 obtain ⟨a0, a1, a2, a3, a4⟩ := cK k0
 have b0 : V.cell? ⟨w.heap.size + 1, 0, none⟩ = some bv := by simp [World.cell?, k1]
 have b1 : V.cell? ⟨w.heap.size + 1, 1, none⟩ = some pv := by simp [World.cell?, k1]
 have b2 : w.heap.size + 1 < V.heap.size := by omega
 obtain ⟨c0, c1, c2, c3, c4⟩ := cK k2
 have oL := aiU (oG cv ev bv pv sh lk n cd G P V (T.below bV) (HW.below bV) (HG.below bV) (HP.below bV) hn fc)
 have BV := aiU bV
 have Kj := aiU hla
 have HAR := aiU HR
 have H1V := aiU (H1.below bV)
 have H2V := aiU (H2.below bV)
 have TV := aiU (T.below bV)
 have Un := aiU HW.wd
 have ZH := aiU HW.le
 have HN5 := aiU hn
 clear k0 k1 k2 bV T HW HG HP fc H1 H2 hla HR hR sV
 go_enter Tryz.func15, Tryz.ntmps15
 go_wp2_with fail
 refine oL.out.mono ?_
 rintro e W ⟨VE, vX⟩
 have BW := aiU (BV.out.trans (vX.mono BV.out.size))
 rcases VE with ⟨hval, pG, sp, YK, Xo, YI, D, rfl, hS, hT⟩ | ⟨hno, rfl⟩
 case inr =>
  have HF := aiU (show (r1, r2) = (0, false) by rw [← NZ.out]; unfold gv; rw [if_neg (fun h => hno ⟨h.1, h.2.1⟩)])
  clear hno vX
  go_wp2_with fail
  go_ret2
  have h := HF.out
  injection h with h2 h3
  exact ⟨by rw [h2, h3]; rfl, BW.out⟩
 have jg := aiU hval
 have wW := aiU pG
 have HS := aiU hS
 have HT := aiU hT
 have JE := aiU (show ∀ y ∈ G, 0 ≤ y.lo from fun y hy => by obtain ⟨z, hz⟩ := hval.ok; exact hz.lo ahU y hy)
 have d0 := (vX.cell (p := ⟨w.heap.size + 1 + 1, 0, none⟩) c4).trans c0
 have d1 := (vX.cell (p := ⟨w.heap.size + 1 + 1, 1, none⟩) c4).trans c1
 have d2 := (vX.cell (p := ⟨w.heap.size + 1 + 1, 2, none⟩) c4).trans c2
 have d3 := (vX.cell (p := ⟨w.heap.size + 1 + 1, 3, none⟩) c4).trans c3
 have sW := vX.size
 have d4 : w.heap.size + 1 + 1 < W.heap.size := by omega
 have WX := aiU (H1V.out.below vX)
 have WW := aiU (H2V.out.below vX)
 have TW := aiU (TV.out.below vX)
 clear hval pG hS hT vX a0 a1 a2 a3 a4 b0 b1 b2 c0 c1 c2 c3 c4 H1V H2V TV
 have nP := aiU (nk HS.out hn x p v1 v2 WX.out WW.out)
 obtain ⟨rf, hrf⟩ : ∃ r, kQ G.length x = r := ⟨_, rfl⟩
 rw [hrf] at nP
 go_wp2_with fail
 refine nP.out.mono ?_
 rintro e W2 ⟨rfl, hb2⟩
 have B2 := aiU (BW.out.trans (hb2.mono BW.out.size))
 cases rf with
 | false =>
  have HF := aiU (show (r1, r2) = (0, false) by rw [← NZ.out]; unfold gv; rw [if_neg (fun h => by rw [hrf] at h; exact absurd h.2.2 ahW)])
  clear hrf hb2
  go_wp2_with fail
  go_ret2
  have h := HF.out
  injection h with h2 h3
  exact ⟨by rw [h2, h3]; rfl, B2.out⟩
 | true =>
  have OS := hrf
  unfold kQ at OS
  simp only [Bool.and_eq_true] at OS
  obtain ⟨⟨hk1, hk2⟩, hk3⟩ := OS
  have hx0 : 0 ≤ x.h ∧ x.h < (G.length : Int) := by
   have h1 := List.all_eq_true.1 (show (([x.h] : List Int).all fun x => decide (0 ≤ x) && decide (x < (G.length : Int))) = true from hk1) x.h ahZ
   simpa only [Bool.and_eq_true, decide_eq_true_eq] using h1
  have HF := aiU (show (r1, r2) = cZ cd G x aO by rw [← NZ.out]; unfold gv; rw [if_pos ⟨jg.out, wW.out, hrf⟩])
  have FB := aiU (HS.out.below hb2)
  have Mx := aiU (p8 FB.out hn x p v1 v2 (WX.out.below hb2) (WW.out.below hb2) hk2)
  obtain ⟨Hw, hlt⟩ := Cc hk3
  have Qi := aiU Hw
  have ZL := aiU hlt
  obtain ⟨hx, hhx⟩ : ∃ h : Nat, x.h = (h : Int) := ⟨x.h.toNat, by omega⟩
  have ZT := aiU hhx
  clear hhx
  have f0 := (hb2.cell (p := ⟨w.heap.size + 1 + 1, 0, none⟩) d4).trans d0
  have f1 := (hb2.cell (p := ⟨w.heap.size + 1 + 1, 1, none⟩) d4).trans d1
  have f2 := (hb2.cell (p := ⟨w.heap.size + 1 + 1, 2, none⟩) d4).trans d2
  have f3 := (hb2.cell (p := ⟨w.heap.size + 1 + 1, 3, none⟩) d4).trans d3
  have s2 := hb2.size
  have f4 : w.heap.size + 1 + 1 < W2.heap.size := by omega
  have H1X := aiU (WX.out.below hb2)
  have H2X := aiU (WW.out.below hb2)
  have TX := aiU (TW.out.below hb2)
  clear hrf hk1 hk2 hk3 hx0 Hw hlt hb2 d0 d1 d2 d3 d4 WX WW TW HS nP
  go_wp2_with fail
  refine Mx.out.mono ?_
  rintro e W3 ⟨ig, rfl, hin, hb3⟩
  have B3 := aiU (B2.out.trans (hb3.mono B2.out.size))
  have HS3 := aiU (FB.out.below hb3)
  have h0 := (hb3.cell (p := ⟨w.heap.size + 1 + 1, 0, none⟩) f4).trans f0
  have h1 := (hb3.cell (p := ⟨w.heap.size + 1 + 1, 1, none⟩) f4).trans f1
  have h2 := (hb3.cell (p := ⟨w.heap.size + 1 + 1, 2, none⟩) f4).trans f2
  have h3 := (hb3.cell (p := ⟨w.heap.size + 1 + 1, 3, none⟩) f4).trans f3
  have s3 := hb3.size
  have h4 : w.heap.size + 1 + 1 < W3.heap.size := by omega
  have uj := aiU (qM (l := gW G.length x.bl) (by rw [gN]; exact hin))
  obtain ⟨gr, -⟩ := qg (List.length_pos_iff.2 jg.out.ne) (GB.of jg.out hn).lt
  have WV : Ints W3 v2 (cm (x.la.map Int.toNat)) := by rw [Qi.out]; exact H2X.out.below hb3
  have UB := aiU (fun W (hW : Below W3.heap.size W3 W) => (rN (HS3.out.below hW) (GB.of jg.out hn) gr HT.out hx x.bl (x.la.map Int.toNat) ig G.length v1 v2 p (uj.out.below hW) ((H1X.out.below hb3).below hW) (WV.below hW) (fun l hl => HAR.out jg.out l (ZL.out l hl)) (by rw [List.length_map]; exact Kj.out)).mono fun e w' h => (show ∃ (g : Nat) (y : Ext W3), e = .returned (.slice (some ⟨g, 0, none⟩) G.length G.length) ∧ tP y.w (.slice (some ⟨g, 0, none⟩) G.length G.length) (eC G (dR cd G) D hx x.bl (x.la.map Int.toNat) G.length) ∧ y.w = w' from by
   obtain ⟨g, h1, h2, h3⟩ := h
   exact ⟨g, ⟨w', hW.trans (h3.mono hW.size)⟩, h1, qM (l := eC G (dR cd G) D hx x.bl (x.la.map Int.toNat) G.length) (by rw [jI]; exact h2), rfl⟩))
  rw [ZT.out] at h0
  have zE := aiU (show ∀ (g : Nat) (y : Ext W3), tP y.w (.slice (some ⟨g, 0, none⟩) G.length G.length) (eC G (dR cd G) D hx x.bl (x.la.map Int.toNat) G.length) → Calls Tryz.prog 47 #[.pointer (some ⟨sp, 0, none⟩), .agg #[.int .i64 (hx : Int), v1, v2, .int .i64 p], .slice (some ⟨ig, 0, none⟩) G.length G.length, .slice (some ⟨g, 0, none⟩) G.length G.length, .int .i64 aO] y.w fun e w' => e = .returned (.tuple #[.int .i64 r1, .bool r2]) ∧ ∃ z : Ext W3, z.w = w' from fun g y hp =>
   (sI (HS3.out.below y.h) hn ((TX.out.below hb3).below y.h) (Cr Un.out JE.out wW.out) (yP ZH.out hn JE.out wW.out) hx p v1 v2 _ _ _ _ (uj.out.below y.h) (gN _ _) hp (jI _ _ _ _ _ _ _) aO).mono fun e w' h => by
    have e1 : sN aO (gl aO (gW G.length x.bl) (eC G (dR cd G) D hx x.bl (x.la.map Int.toNat) G.length) (fV cd G) G.length) = (r1, r2) := by
     rw [HF.out, cZ, rO, eO.eq jg.out hn HT.out, ZT.out]
     rfl
    rw [e1] at h
    exact ⟨h.1, ⟨w', y.h.trans (h.2.mono y.h.size)⟩, rfl⟩)
  have B3Y := aiU (fun y : Ext W3 => Ext.below B3.out B3.out.size y)
  clear hin hb3 WV gr f0 f1 f2 f3 f4 FB Mx H1X H2X TX ZT
  go_upto_region 5 with fail
  go_region_held3 (fun w' => (∀ b o, b < W3.heap.size → w'.cell? ⟨b, o, none⟩ = W3.cell? ⟨b, o, none⟩) ∧ Below W3.heap.size W3 w') ((refine Aj ?_; first | exact Below.drew (Below.refl _ _) | exact Below.refl _ _ | exact Ext.h _))
   (first | (go_at_call 48; refine (UB.out _ (by first | exact Below.drew (Below.refl _ _) | exact Ext.h _)).mono ?_; rintro e' w' ⟨g, y3, rfl, hp3, rfl⟩) | (go_at_call 47; refine (zE.out g y3 hp3).mono ?_; rintro e' w' ⟨rfl, y4, rfl⟩))
  all_goals
   have HLB := aiU (B3Y.out y4)
   go_wp2_with fail
   go_ret2
   exact ⟨rfl, HLB.out⟩
end
section
open Go.RowKit
theorem EI (f : Int → Int × Bool) {l : List Int} {k : Nat} {r : Int} (h : l[k]? = some r) : ko f (l.drop k) = if (f r).2 = true then (r, (f r).1, true) else ko f (l.drop (k + 1)) := by
 have hk := (List.getElem?_eq_some_iff.1 h).1
 rw [List.drop_eq_getElem_cons hk]
 rw [List.getElem?_eq_getElem hk] at h
 cases h
 rfl
def YL (c : Int × Int × Bool) : Value := .tuple #[.int .i64 c.1, .int .i64 c.2.1, .bool c.2.2]
theorem qj (cv ev bv pv : Value) (sh lk : Int) (n : Nat) (cd : Nat → Int) (G : List aU) (P : List (List Int)) (w : World) (T : gZ w) (HW : Words w cv n cd) (HG : fL w bv G) (HP : mG w pv P) (hn : G.length ≤ 5000) (fc : ∀ x ∈ G, x.nx.length ≤ 5000) (x : Lp) (p : Int) (v1 v2 : Value) (H1 : Ints w v1 x.bl) (H2 : Ints w v2 x.la) (hla : x.la.length ≤ 5000000) (HR : bQ G P → JT G) :
  Calls Tryz.prog 17 #[.agg #[cv, ev, .int .i64 sh, .int .i64 lk], .agg #[bv, pv], .agg #[.int .i64 x.h, v1, v2, .int .i64 p]] w fun e w' => e = .returned (YL (ko (gv n cd G P x) gY)) ∧ Below w.heap.size w w' := by
 obtain ⟨R, hR⟩ : ∃ R, ko (gv n cd G P x) gY = R := ⟨_, rfl⟩
 rw [hR]
 obtain ⟨r1, r2, r3⟩ := R
 have NZ := aiU hR
 show Calls _ _ _ w fun e w' => e = .returned (.tuple #[.int .i64 r1, .int .i64 r2, .bool r3]) ∧ _
 obtain ⟨V, hV⟩ : ∃ V, ((w.alloc (.cells #[cv, ev, .int .i64 sh, .int .i64 lk] 25)).alloc (.cells #[bv, pv] 31)).alloc (.cells #[.int .i64 x.h, v1, v2, .int .i64 p] 46) = V := ⟨_, rfl⟩
 have bV : Below w.heap.size w V := hV ▸ (((Below.refl _ _).alloc (Nat.le_refl _) _).alloc ahZ _).alloc ah3 _
 have sV : V.heap.size = w.heap.size + 1 + 1 + 1 := by rw [← hV]; simp
 have k0 : V.heap[w.heap.size]? = some (.cells #[cv, ev, .int .i64 sh, .int .i64 lk] 25 (0, 0)) := by
  rw [← hV, heap_alloc_old _ _ ah3, heap_alloc_old _ _ ahZ]; exact heap_alloc_new _ _
 have k1 : V.heap[w.heap.size + 1]? = some (.cells #[bv, pv] 31 (0, 0)) := by
  rw [← hV, heap_alloc_old _ _ ahZ]; exact aG _ _ ahZ
 have k2 : V.heap[w.heap.size + 1 + 1]? = some (.cells #[.int .i64 x.h, v1, v2, .int .i64 p] 46 (0, 0)) := by rw [← hV]; exact aG _ _ ahZ
 have Km := aiU (show ∀ W aO, Below V.heap.size V W → Calls Tryz.prog 15 #[.agg #[cv, ev, .int .i64 sh, .int .i64 lk], .agg #[bv, pv], .agg #[.int .i64 x.h, v1, v2, .int .i64 p], .int .i64 aO] W fun e w' => e = .returned (.tuple #[.int .i64 (gv n cd G P x aO).1, .bool (gv n cd G P x aO).2]) ∧ Below W.heap.size W w' from fun W aO hb =>
  vh cv ev bv pv sh lk n cd G P W ((T.below bV).below hb) ((HW.below bV).below hb) ((HG.below bV).below hb) ((HP.below bV).below hb) hn fc x p v1 v2 ((H1.below bV).below hb) ((H2.below bV).below hb) hla HR aO)
 have BV := aiU bV
 have K0 := aiU k0
 have K1 := aiU k1
 have K2 := aiU k2
 have SV := aiU sV
 obtain ⟨xh, qP⟩ : ∃ h, x.h = h := ⟨_, rfl⟩
 rw [qP] at K2 Km
 rw [qP] at hV ⊢
 clear T HW HG HP hn fc H1 H2 hla HR hR k0 k1 k2 bV qP sV
 go_enter Tryz.func17, Tryz.ntmps17
 go_upto_region 2 with fail
 go_loopw [9] (fun a9 wr => ∃ (k : Nat) (r : Int), k ≤ 4 ∧ r = 10 + (k : Int) ∧ a9 = .int .i64 r ∧ ko (gv n cd G P x) (gY.drop k) = (r1, r2, r3) ∧ Below V.heap.size V wr) (fun a9 _ => 14 - (intOf a9).toNat)
 case atStart => exact ⟨0, 10, by omega, rfl, rfl, NZ.out, Below.refl _ _⟩
 case round =>
  obtain ⟨k, r, hk, hr, rfl, hc, hb⟩ := hrel
  have zB := aiU hr
  have hr0 : 10 ≤ r := by omega
  have hr4 : r ≤ 14 := by omega
  clear hr
  have HC := aiU hc
  have HB := aiU hb
  have sb := hb.size
  have MG := aiU (BV.out.trans (hb.mono BV.out.size))
  by_cases hlt : r ≤ 13
  ·have dk : decide (r ≤ 13) = true := decide_eq_true hlt
   have hk4 : k < 4 := by have := zB.out; omega
   have sV9 := SV.out
   have h0 := (hb.block _ ahU).trans K0.out
   have h1 := (hb.block _ ahU).trans K1.out
   have h2 := (hb.block _ ahU).trans K2.out
   obtain ⟨a0, a1, a2, a3, a4⟩ := cK h0
   have b0 : wr.cell? ⟨w.heap.size + 1, 0, none⟩ = some bv := by simp [World.cell?, h1]
   have b1 : wr.cell? ⟨w.heap.size + 1, 1, none⟩ = some pv := by simp [World.cell?, h1]
   have b2 : w.heap.size + 1 < wr.heap.size := by omega
   clear sV9
   obtain ⟨c0, c1, c2, c3, c4⟩ := cK h2
   obtain ⟨B, hB⟩ : ∃ B, gv n cd G P x r = B := ⟨_, rfl⟩
   obtain ⟨B1, B2⟩ := B
   have HX := aiU (show Calls Tryz.prog 15 #[.agg #[cv, ev, .int .i64 sh, .int .i64 lk], .agg #[bv, pv], .agg #[.int .i64 xh, v1, v2, .int .i64 p], .int .i64 r] wr fun e w' => e = .returned (.tuple #[.int .i64 B1, .bool B2]) ∧ Below wr.heap.size wr w' from by
    have := Km.out wr r hb
    rw [hB] at this
    exact this)
   have hat : gY[k]? = some r := by
    rw [zB.out]
    match k, hk4 with
    | 0, _ => rfl
    | 1, _ => rfl
    | 2, _ => rfl
    | 3, _ => rfl
   have hst := EI (gv n cd G P x) hat
   rw [hB, hc] at hst
   have HST := aiU hst
   clear hc hb h0 h1 h2 hB hat hst
   cases B2 with
   | true =>
    have HF := aiU (show r1 = r ∧ r2 = B1 ∧ r3 = true from by
     have h := HST.out
     rw [if_pos rfl] at h
     injection h with h1 h2
     injection h2 with h2 h3
     exact ⟨h1, h2, h3⟩)
    go_wp2_with (go_at_call 15; refine HX.out.mono ?_; rintro e w' ⟨rfl, hb2⟩; have B2 := aiU hb2; clear hb2)
    go_ret3
    obtain ⟨e1, e2, e3⟩ := HF.out
    exact ⟨by rw [e1, e2, e3]; rfl, MG.out.trans (B2.out.mono MG.out.size)⟩
   | false =>
    have HF := aiU (show ko (gv n cd G P x) (gY.drop (k + 1)) = (r1, r2, r3) from by
     have h := HST.out
     rw [if_neg ahZ] at h
     exact h.symm)
    go_wp2_with (go_at_call 15; refine HX.out.mono ?_; rintro e w' ⟨rfl, hb2⟩; have B2 := aiU hb2; clear hb2)
    go_roundw
    case rel => exact ⟨k + 1, r + 1, by omega, by have := zB.out; omega, rfl, HF.out, HB.out.trans (B2.out.mono HB.out.size)⟩
    case measure => simp [intOf]; omega
  ·obtain rfl : k = 4 := by have := zB.out; omega
   have dk : decide (r ≤ 13) = false := decide_eq_false hlt
   have HF := aiU (show r1 = 0 ∧ r2 = 0 ∧ r3 = false from by
    have h : ko (gv n cd G P x) [] = (r1, r2, r3) := HC.out
    injection h with h1 h2
    injection h2 with h2 h3
    exact ⟨h1.symm, h2.symm, h3.symm⟩)
   clear hc hb
   go_wp2_with fail
   go_ret3
   obtain ⟨e1, e2, e3⟩ := HF.out
   exact ⟨by rw [e1, e2, e3]; rfl, MG.out⟩
end
section
open Go.RowKit
def oN (n : Nat) (cd : Nat → Int) (G : List aU) (P : List (List Int)) (L : List Lp) (rl : List Bool) (il : Nat) : Prop := bQ G P ∧ fD n cd G ∧ rl.length = G.length ∧ il = G.length ∧ ∀ x ∈ L, kQ G.length x = true
def aag (w' : World) (r : List Int ⊕ Int) (e : Ending) : Prop := match r with
 | .inl out => ∃ ov, e = .returned (.tuple #[ov, .int .i64 (-1), .int .i64 0]) ∧ Ints w' ov out
 | .inr h => e = .returned (.tuple #[.slice none 0 0, .int .i64 h, .int .i64 16])
structure aah (n : Nat) (cd : Nat → Int) (G : List aU) (P : List (List Int)) (L : List Lp) (rl : List Bool) (il : Nat) (w' : World) (e : Ending) : Prop where
 yes : oN n cd G P L rl il → aag w' (jh cd G rl L []) e
 no : ¬ oN n cd G P L rl il → e = .returned (.tuple #[.slice none 0 0, .int .i64 (-1), .int .i64 3])
theorem tv.at_ {w wr : World} {A : Option Addr} {m cap : Nat} {L : List Lp} (h : tv w (.slice A m cap) L) (hb : Below w.heap.size w wr) {k : Nat} (hk : k < L.length) : ∃ b off x A1 m1 cp1 A2 m2 cp2, ∃ p : Int, A = some ⟨b, off, none⟩ ∧ b < w.heap.size ∧ L[k]? = some x ∧ wr.cell? ⟨b, off + k * 4, none⟩ = some (.int .i64 x.h) ∧ wr.cell? ⟨b, off + k * 4 + 1, none⟩ = some (.slice A1 m1 cp1) ∧ wr.cell? ⟨b, off + k * 4 + 2, none⟩ = some (.slice A2 m2 cp2) ∧ wr.cell? ⟨b, off + k * 4 + 3, none⟩ = some (.int .i64 p) ∧ Ints w (.slice A1 m1 cp1) x.bl ∧ Ints w (.slice A2 m2 cp2) x.la := by
 obtain ⟨A', cap', e1, _, _, h4⟩ := h
 cases e1
 obtain ⟨b, off, rfl, hlt, hc⟩ := h4 ahU
 obtain ⟨h1, ⟨v, h2, h3⟩, ⟨u, h5, h6⟩, p, h7⟩ := hc k _ (List.getElem?_eq_getElem hk)
 obtain ⟨A1, c1, rfl, -, -⟩ := h3.slice
 obtain ⟨A2, c2, rfl, -, -⟩ := h6.slice
 exact ⟨b, off, _, A1, _, c1, A2, _, c2, p, rfl, hlt, List.getElem?_eq_getElem hk, (hb.cell (p := ⟨b, _, none⟩) hlt).trans h1, (hb.cell (p := ⟨b, _, none⟩) hlt).trans h2, (hb.cell (p := ⟨b, _, none⟩) hlt).trans h5, (hb.cell (p := ⟨b, _, none⟩) hlt).trans h7, h3, h6⟩
theorem tv.slice {w : World} {v : Value} {L : List Lp} (h : tv w v L) : ∃ A cap, v = .slice A L.length cap ∧ L.length ≤ cap ∧ cap ≤ 2 ^ 63 - 1 := by
 obtain ⟨A, cap, h1, h2, h3, _⟩ := h
 unfold maxLen at h3
 exact ⟨A, cap, h1, h2, h3⟩
theorem rH {n : Nat} {x : Lp} (h : kQ n x = true) : (∃ hx : Nat, x.h = (hx : Int) ∧ hx < n) ∧ eu n x.bl = true ∧ eu n x.la = true := by
 unfold kQ at h
 simp only [Bool.and_eq_true] at h
 have h1 := List.all_eq_true.1 (show (([x.h] : List Int).all fun x => decide (0 ≤ x) && decide (x < (n : Int))) = true from h.1.1) x.h ahZ
 simp only [Bool.and_eq_true, decide_eq_true_eq] at h1
 exact ⟨⟨x.h.toNat, by omega, by omega⟩, h.1.2, h.2⟩
theorem GI (f : Int → Int × Bool) {l : List Int} {k : Nat} {r : Int} (h : l[k]? = some r) (s : Int × Bool) : ((l.take (k + 1)).map f).foldl dL s = dL (((l.take k).map f).foldl dL s) (f r) := by
 rw [List.take_add_one, h]
 simp
theorem vp (cv ev bv pv : Value) (sh lk : Int) (n : Nat) (cd : Nat → Int) (G : List aU) (P : List (List Int)) (w : World) (T : gZ w) (HW : Words w cv n cd) (HG : fL w bv G) (HP : mG w pv P) (hn : G.length ≤ 5000) (fc : ∀ x ∈ G, x.nx.length ≤ 5000) (L : List Lp) (lv : Value) (HL : tv w lv L) (hL : L.length ≤ 1000000) (hla : ∀ x ∈ L, x.la.length ≤ 5000000) (rl : List Bool) (rv iv dv : Value) (HRL : tP w rv rl) (il : Nat) (hiv : ∃ A cap, iv = .slice A il cap ∧ il ≤ cap ∧ cap ≤ maxLen) (HR : bQ G P → JT G) :
  Calls Tryz.prog 20 #[.agg #[cv, ev, .int .i64 sh, .int .i64 lk], .agg #[bv, pv], lv, .agg #[rv, iv, dv]] w fun e w' => aah n cd G P L rl il w' e ∧ Below w.heap.size w w' := by
 obtain ⟨LA, yc, rfl, hl1, hl2⟩ := HL.slice
 obtain ⟨zo, jG, Fl, hr1, hr2, hr4⟩ := id HRL
 obtain ⟨IA, fG, rfl, hi1, hi2⟩ := hiv
 have XS := ep hr2
 have yy := ep hi2
 obtain ⟨GA, aY, mV, hg1, hg2⟩ := HG.slice
 obtain ⟨ln, Eo⟩ : ∃ m, L.length = m := ⟨_, rfl⟩
 obtain ⟨gn, hgn⟩ : ∃ m, G.length = m := ⟨_, rfl⟩
 obtain ⟨rn, XR⟩ : ∃ m, rl.length = m := ⟨_, rfl⟩
 rw [Eo] at hl1 hL
 rw [hgn] at mV hg1 hn
 rw [XR] at Fl hr1
 subst Fl
 obtain ⟨V, hV⟩ : ∃ V, ((w.alloc (.cells #[cv, ev, .int .i64 sh, .int .i64 lk] 25)).alloc (.cells #[bv, pv] 31)).alloc (.cells #[.slice zo rn jG, .slice IA il fG, dv] 59) = V := ⟨_, rfl⟩
 have bV : Below w.heap.size w V := hV ▸ (((Below.refl _ _).alloc (Nat.le_refl _) _).alloc ahZ _).alloc ah3 _
 have sV : V.heap.size = w.heap.size + 1 + 1 + 1 := by rw [← hV]; simp
 have k0 : V.heap[w.heap.size]? = some (.cells #[cv, ev, .int .i64 sh, .int .i64 lk] 25 (0, 0)) := by
  rw [← hV, heap_alloc_old _ _ ah3, heap_alloc_old _ _ ahZ]; exact heap_alloc_new _ _
 have k1 : V.heap[w.heap.size + 1]? = some (.cells #[bv, pv] 31 (0, 0)) := by
  rw [← hV, heap_alloc_old _ _ ahZ]; exact aG _ _ ahZ
 have k2 : V.heap[w.heap.size + 1 + 1]? = some (.cells #[.slice zo rn jG, .slice IA il fG, dv] 59 (0, 0)) := by rw [← hV]; exact aG _ _ ahZ
 obtain ⟨a0, a1, a2, a3, a4⟩ := cK k0
 have b0 : V.cell? ⟨w.heap.size + 1, 0, none⟩ = some bv := by simp [World.cell?, k1]
 have b1 : V.cell? ⟨w.heap.size + 1, 1, none⟩ = some pv := by simp [World.cell?, k1]
 have b2 : w.heap.size + 1 < V.heap.size := by omega
 have c0 : V.cell? ⟨w.heap.size + 1 + 1, 0, none⟩ = some (.slice zo rn jG) := by simp [World.cell?, k2]
 have c1 : V.cell? ⟨w.heap.size + 1 + 1, 1, none⟩ = some (.slice IA il fG) := by simp [World.cell?, k2]
 have c4 : w.heap.size + 1 + 1 < V.heap.size := by omega
 have oL := aiU (oG cv ev bv pv sh lk n cd G P V (T.below bV) (HW.below bV) (HG.below bV) (HP.below bV) (by rw [hgn]; exact hn) fc)
 have BV := aiU bV
 have SV := aiU sV
 have Kj := aiU hla
 have HAR := aiU HR
 have TV := aiU (T.below bV)
 have Un := aiU HW.wd
 have ZH := aiU HW.le
 have FC := aiU Eo
 have eP := aiU hgn
 have Kg := aiU XR
 rw [Eo] at HL ⊢
 have Ki := aiU HL
 have Mu := aiU hr4
 clear k0 k1 k2 bV T HW HG HP fc HL hla HR hr4 HRL Eo hgn XR hr2 hi2 sV
 subst mV
 go_enter Tryz.func20, Tryz.ntmps20
 go_wp2_with fail
 refine oL.out.mono ?_
 rintro e W ⟨VE, vX⟩
 have BW := aiU (BV.out.trans (vX.mono BV.out.size))
 have d0 := (vX.cell (p := ⟨w.heap.size + 1, 0, none⟩) b2).trans b0
 have d1 := (vX.cell (p := ⟨w.heap.size + 1 + 1, 0, none⟩) c4).trans c0
 have d2 := (vX.cell (p := ⟨w.heap.size + 1 + 1, 1, none⟩) c4).trans c1
 have sW := vX.size
 have d3 : w.heap.size + 1 < W.heap.size := by omega
 have d4 : w.heap.size + 1 + 1 < W.heap.size := by omega
 have TW := aiU (TV.out.below vX)
 clear a0 a1 a2 a3 a4 b0 b1 b2 c0 c1 c4 TV vX hV
 rcases VE with ⟨hval, pG, sp, YK, Xo, YI, D, rfl, hS, hT⟩ | ⟨hno, rfl⟩
 case inr =>
  have mZ := aiU (show ¬ oN n cd G P L rl il from fun h => hno ⟨h.1, h.2.1⟩)
  clear hno
  go_wp2_with fail
  go_ret3
  exact ⟨⟨fun h => absurd h mZ.out, fun _ => rfl⟩, BW.out⟩
 have jg := aiU hval
 have wW := aiU pG
 have HS := aiU hS
 have HT := aiU hT
 have JE := aiU (show ∀ y ∈ G, 0 ≤ y.lo from fun y hy => by obtain ⟨z, hz⟩ := hval.ok; exact hz.lo ahU y hy)
 clear hval pG hS hT
 by_cases hrg : rn = gn
 case neg =>
  have e1 : ((rn : Int) != (gn : Int)) = true := by simp; omega
  have mZ := aiU (show ¬ oN n cd G P L rl il from fun h => hrg (by have := h.2.2.1; rw [Kg.out, eP.out] at this; exact this))
  clear hrg
  go_wp2_with fail
  go_ret3
  exact ⟨⟨fun h => absurd h mZ.out, fun _ => rfl⟩, BW.out⟩
 have e1 : ((rn : Int) != (gn : Int)) = false := by simp [hrg]
 by_cases S6 : il = gn
 case neg =>
  have e2 : ((il : Int) != (gn : Int)) = true := by simp; omega
  have mZ := aiU (show ¬ oN n cd G P L rl il from fun h => S6 (by have := h.2.2.2.1; rw [eP.out] at this; exact this))
  clear S6 hrg
  go_wp2_with fail
  go_ret3
  exact ⟨⟨fun h => absurd h mZ.out, fun _ => rfl⟩, BW.out⟩
 have e2 : ((il : Int) != (gn : Int)) = false := by simp [S6]
 have lF := aiU hrg
 have Qn := aiU S6
 clear hrg S6
 go_upto_region 5 with fail
 have D1 := aiU d1
 clear d0 d1 d2 e1 e2 d3
 go_loopw [53] (fun a53 wr => ∃ k : Nat, k ≤ ln ∧ a53 = .int .i64 (k : Int) ∧ (∀ i x, i < k → L[i]? = some x → kQ gn x = true) ∧ Below W.heap.size W wr) (fun a53 _ => ln - (intOf a53).toNat)
 case atStart => exact ⟨0, by omega, rfl, fun i x h => by omega, Below.refl _ _⟩
 case round =>
  obtain ⟨k, hk, rfl, hrf, hb⟩ := hrel
  have nP := aiU hrf
  have HB := aiU hb
  have CX := aiU (BW.out.trans (hb.mono BW.out.size))
  have sb := hb.size
  clear hrf
  by_cases hlt : k < ln
  ·have dk : decide ((k : Int) < (ln : Int)) = true := decide_eq_true ahU
   have ikl : (k : Int) < (ln : Int) := by omega
   obtain ⟨lb, lo, x, A1, m1, cp1, A2, m2, cp2, p, rfl, hlb, hx, q0, q1, q2, q3, Er, yy⟩ := Ki.out.at_ CX.out (k := k) (by rw [FC.out]; exact hlt)
   have RN : lb < wr.heap.size := by have := CX.out.size; omega
   have Zo := aiU (nk (HS.out.below hb) aii x p (.slice A1 m1 cp1) (.slice A2 m2 cp2) (Er.below CX.out) (yy.below CX.out))
   obtain ⟨Y, hY⟩ : ∃ Y, wr.alloc (.cells #[.int .i64 x.h, (.slice A1 m1 cp1), (.slice A2 m2 cp2), .int .i64 p] 46) = Y := ⟨_, rfl⟩
   have bY : Below wr.heap.size wr Y := hY ▸ (Below.refl _ _).alloc (Nat.le_refl _) _
   obtain ⟨b14, O8⟩ : ∃ b, wr.heap.size = b := ⟨_, rfl⟩
   have kY : Y.heap[b14]? = some (.cells #[.int .i64 x.h, (.slice A1 m1 cp1), (.slice A2 m2 cp2), .int .i64 p] 46 (0, 0)) := by rw [← O8, ← hY]; exact heap_alloc_new _ _
   obtain ⟨y0, y1, y2, y3, y4⟩ := cK kY
   have OQ := nk (HS.out.below (hb.trans (bY.mono hb.size))) aii x p (.slice A1 m1 cp1) (.slice A2 m2 cp2) ((Er.below CX.out).below bY) ((yy.below CX.out).below bY)
   obtain ⟨rf, hrf⟩ : ∃ r, kQ gn x = r := ⟨_, rfl⟩
   rw [eP.out, hrf] at OQ
   have Rm := aiU OQ
   have Uw := aiU hrf
   have HX := aiU hx
   have Xe := aiU bY
   obtain ⟨xh, qP⟩ : ∃ h, x.h = h := ⟨_, rfl⟩
   rw [qP] at q0 Rm hY y0
   clear kY hb hx Er yy hrf OQ bY Zo qP
   cases rf with
   | false =>
    have mZ := aiU (show ¬ oN n cd G P L rl il from fun h => by
     have h1 := h.2.2.2.2 x (List.mem_of_getElem? HX.out)
     rw [eP.out, Uw.out] at h1
     cases h1)
    go_wp2_with (go_at_call 45; refine Rm.out.mono ?_; rintro e w' ⟨rfl, hb2⟩; have B2 := aiU (CX.out.trans ((Xe.out.trans (hb2.mono Xe.out.size)).mono CX.out.size)); clear hb2)
    go_ret3
    exact ⟨⟨fun h => absurd h mZ.out, fun _ => rfl⟩, B2.out⟩
   | true =>
    have wR := aiU (show ∀ i y, i < k + 1 → L[i]? = some y → kQ gn y = true from fun i y hi hy => by
     by_cases e : i = k
     ·subst e
      rw [HX.out] at hy
      cases hy
      exact Uw.out
     ·exact nP.out i y ahU hy)
    go_wp2_with (go_at_call 45; refine Rm.out.mono ?_; rintro e w' ⟨rfl, hb2⟩; have B2 := aiU (HB.out.trans ((Xe.out.trans (hb2.mono Xe.out.size)).mono HB.out.size)); clear hb2)
    go_roundw
    case rel => exact ⟨k + 1, by omega, by go_num, wR.out, B2.out⟩
    case measure => simp [intOf]; omega
  ·obtain rfl : ln = k := by omega
   have dk : decide ((ln : Int) < (ln : Int)) = false := by simp
   have Vk := aiU (show ∀ x ∈ L, kQ gn x = true from fun x hx => by
    obtain ⟨i, hi⟩ := List.mem_iff_getElem?.1 hx
    exact nP.out i x (by rw [← FC.out]; exact (List.getElem?_eq_some_iff.1 hi).1) hi)
   have tG := aiU (show oN n cd G P L rl il from ⟨jg.out, wW.out, by rw [Kg.out, eP.out]; exact lF.out, by rw [eP.out]; exact Qn.out, by rw [eP.out]; exact Vk.out⟩)
   obtain ⟨iI, p9, qd, oy, ox⟩ := info_parts ow
   obtain ⟨cI, O3⟩ : ∃ c, madeCells (Value.int .i64 0).cells (ln * 1) = c := ⟨_, rfl⟩
   have hcs : cI.size = ln := by rw [← O3]; simp [madeCells]
   have mkI : ∀ W, (Instr.makeSlice 38 (.int .i64 0) (.int .i64 (ln : Int))).run Tryz.prog W = .ok (.slice (some ⟨W.heap.size, 0, none⟩) 0 ln) (W.alloc (.cells cI 3)) := fun W => by
    have hr := run_make (P := Tryz.prog) W 38 3 iI _ Tryz.underlying38 p9 qd .i64 .i64 0 (ln : Int) ahU ahU aiQ ahU
    rw [oy, Int.toNat_natCast] at hr
    rw [hr, ← O3]
    rfl
   obtain ⟨Y, hY⟩ : ∃ Y, wr.alloc (.cells cI 3) = Y := ⟨_, rfl⟩
   have bY : Below wr.heap.size wr Y := hY ▸ (Below.refl _ _).alloc (Nat.le_refl _) _
   have za := aiU (show Y.ownsRow W.heap.size 3 1 (.slice (some ⟨wr.heap.size, 0, none⟩) 0 ln) 0 (dU []) from
    ⟨by simp, .inr ⟨wr.heap.size, ln, cI, rfl, sb, hY ▸ heap_alloc_new _ _, by omega, by unfold maxLen; omega, by rw [hcs]; omega, by simp⟩⟩)
   have BY := aiU (hb.trans (bY.mono hb.size))
   clear hb bY O3 hcs nP Qn HB CX
   go_upto_region 12 with fail
   clear mkI hY
   go_loopw [15, 18, 19, 20, 21, 22, 23, 24, 67] (fun a15 a18 a19 a20 a21 a22 a23 a24 a67 wx => ∃ (k : Nat) (out : List Int), k ≤ ln ∧ a67 = .int .i64 (k : Int) ∧ (jh cd G rl (L.take k) [] = .inl out ∧ out.length = k) ∧ wx.ownsRow W.heap.size 3 1 a15 k (dU out) ∧ Below W.heap.size W wx) (fun _ _ _ _ _ _ _ _ a67 _ => ln - (intOf a67).toNat)
   case atStart => exact ⟨0, [], by omega, rfl, ⟨rfl, rfl⟩, za.out, BY.out⟩
   case round =>
    clear za BY
    obtain ⟨k, out, hk, rfl, ⟨hfn, hol⟩, hown, hb⟩ := hrel
    have Qr := aiU hfn
    have HOL := aiU hol
    have UI := aiU hown
    have HB := aiU hb
    have CX := aiU (BW.out.trans (hb.mono BW.out.size))
    have sb' := hb.size
    obtain ⟨oA, rP, hoa⟩ : ∃ oA rP, u15 = Value.slice oA k rP := by
     rcases hown.2 with ⟨h, h'⟩ | ⟨g, cap', cur, h, _⟩
     ·exact ⟨_, _, by rw [h, h']⟩
     ·exact ⟨_, _, h⟩
    subst hoa
    clear hfn hol hown
    by_cases hlt : k < ln
    ·have dk : decide ((k : Int) < (ln : Int)) = true := decide_eq_true ahU
     have ikl : (k : Int) < (ln : Int) := by omega
     obtain ⟨lb, lo, x, A1, m1, cp1, A2, m2, cp2, p, rfl, hlb, hx, q0, q1, q2, q3, Er, yy⟩ := Ki.out.at_ CX.out (k := k) (by rw [FC.out]; exact hlt)
     have RN : lb < wr.heap.size := by have := CX.out.size; omega
     obtain ⟨⟨hx', nO, XK⟩, hkb, hkl⟩ := rH (Vk.out x (List.mem_of_getElem? hx))
     have HX := aiU hx
     have Ul := aiU nO
     have HKB := aiU hkb
     have HKL := aiU hkl
     obtain ⟨Y, hY⟩ : ∃ Y, wr.alloc (.cells #[.int .i64 (hx' : Int), (.slice A1 m1 cp1), (.slice A2 m2 cp2), .int .i64 p] 46) = Y := ⟨_, rfl⟩
     obtain ⟨b17, H7⟩ : ∃ b, wr.heap.size = b := ⟨_, rfl⟩
     have bY : Below wr.heap.size wr Y := hY ▸ (Below.refl _ _).alloc (Nat.le_refl _) _
     have kY : Y.heap[b17]? = some (.cells #[.int .i64 (hx' : Int), (.slice A1 m1 cp1), (.slice A2 m2 cp2), .int .i64 p] 46 (0, 0)) := by rw [← H7, ← hY]; exact heap_alloc_new _ _
     obtain ⟨y0, y1, y2, y3, y4⟩ := cK kY
     have BY := aiU (hb.trans (bY.mono hb.size))
     have BYR := aiU bY
     have TM : Below w.heap.size w Y := CX.out.trans (bY.mono CX.out.size)
     have H1Y := aiU (Er.below TM)
     have WV := aiU (yy.below TM)
     have sy := BY.out.size
     obtain ⟨rb, ro, hra, hrb, hrc⟩ := Mu.out (by rw [Kg.out, lF.out]; omega)
     have xr : Y.cell? ⟨rb, ro + hx', none⟩ = some (.bool (rl.getD hx' false)) := (TM.cell (p := ⟨rb, _, none⟩) hrb).trans (hrc hx' (by rw [Kg.out, lF.out]; exact XK))
     have srb : rb < Y.heap.size := by have := TM.size; omega
     have y5 : Y.cell? ⟨w.heap.size + 1 + 1, 0, none⟩ = some (.slice zo rn jG) := (BY.out.cell (p := ⟨w.heap.size + 1 + 1, 0, none⟩) d4).trans D1.out
     have y6 : w.heap.size + 1 + 1 < Y.heap.size := by omega
     have ixr : (hx' : Int) < (rn : Int) := by rw [lF.out]; omega
     have HOY := aiU (ak UI.out bY)
     have Vj := aiU (show ∀ (W2 : World) (f : Int) (W' : World) (v' : Value) row, Below W.heap.size W W2 → (W2.alloc (.cells #[.int .i64 f] 3)).grownBy W' row → row = (Value.slice oA k rP).ownBlock → W2.ownsRow W.heap.size 3 1 (.slice oA k rP) k (dU out) → W'.ownsRow W.heap.size 3 1 v' (k + 1) (dU out ++ [.int .i64 f]) → W'.ownsRow W.heap.size 3 1 v' (k + 1) (dU (out ++ [f])) ∧ Below W.heap.size W W' from fun W2 f W' v' row hb2 h1 h2 ho h3 => by
      subst h2
      refine ⟨by simpa [dU] using h3, (hb2.alloc hb2.size _).grown h1 (by rw [World.size_alloc]; have := hb2.size; omega) (fun k hk => (ho.lt k hk).1)⟩)
     have NU := aiU (show ∀ s, oY cd G rl x = s → jh cd G rl (L.take (k + 1)) [] = if s.2 = true then .inl (out ++ [s.1]) else .inr (hx' : Int) from fun s hs => by
      rw [bT HX.out, uU Qr.out, hs, Ul.out])
     have UJ := aiU (show ∀ f : Int, (out ++ [f]).length = k + 1 from fun f => by rw [List.length_append, HOL.out]; rfl)
     obtain ⟨r0, hr0⟩ : ∃ r, rl.getD hx' false = r := ⟨_, rfl⟩
     rw [hr0] at xr
     have Uy := aiU hr0
     rw [nO] at q0
     subst hra
     go_upto_region 14 with fail
     clear q0 q1 q2 q3 hx nO hkb hkl bY kY TM hr0 hb Er yy hY
     refine aj ahV ahV ?_
     repeat (go_big_quiet_step (fail))
     refine wpQuiet_nil ?_
     rintro _ ⟨x1, rfl⟩
     obtain ⟨Z, hZ⟩ : ∃ Z, x1.w = Z := ⟨_, rfl⟩
     have bZ : Below Y.heap.size Y Z := hZ ▸ x1.h
     rw [hZ]
     have z0 := (bZ.cell (p := ⟨b17, 0, none⟩) y4).trans y0
     have z1 := (bZ.cell (p := ⟨b17, 1, none⟩) y4).trans y1
     have z2 := (bZ.cell (p := ⟨b17, 2, none⟩) y4).trans y2
     have z3 := (bZ.cell (p := ⟨b17, 3, none⟩) y4).trans y3
     have sz := bZ.size
     have z4 : b17 < Z.heap.size := by omega
     have BZ := aiU (BY.out.trans (bZ.mono BY.out.size))
     have Zw := aiU (ak HOY.out bZ)
     have H1Z := aiU (H1Y.out.below bZ)
     have H2Z := aiU (WV.out.below bZ)
     have szW := BZ.out.size
     clear hZ bZ y0 y1 y2 y3 y4 y5 y6 xr srb ixr x1
     cases r0 with
     | false =>
      have Re := aiU (NU.out (0, true) (by unfold oY; rw [Ul.out, Int.toNat_natCast, Uy.out]; rfl))
      go_wp2_with (at_builtin; refine wpList_append_own_at _ rfl (.tmp 115) (.tmp 117) 38 rfl W.heap.size 3 iI (.int .i64 0) 1 8 Tryz.underlying38 p9 qd oy ox rfl ahW (.slice oA k rP) k (dU out) rfl (Zw.out.alloc _) ⟨Z.heap.size, 0, none⟩ 1 1 [.int .i64 0] rfl rfl (cell_one_new _ _ _) ahX ahY ahU ah6 ?_; intro v' W' hown' hgrow _ j6; have F1 := aiU (Vj.out Z 0 W' v' _ BZ.out hgrow rfl Zw.out hown'); clear hown' hgrow j6)
      go_roundw
      case rel => exact ⟨k + 1, _, by omega, by go_num, ⟨Re.out, UJ.out 0⟩, F1.out.1, F1.out.2⟩
      case measure => simp [intOf]; omega
     | true =>
      obtain ⟨gr, -⟩ := qg (List.length_pos_iff.2 jg.out.ne) (GB.of jg.out aii).lt
      have Ut := aiU (HS.out.below BZ.out)
      have Mx := aiU (p8 Ut.out aii x p (.slice A1 m1 cp1) (.slice A2 m2 cp2) H1Z.out H2Z.out (by rw [eP.out]; exact HKB.out))
      rw [Ul.out, eP.out] at Mx
      obtain ⟨Hw, SZ⟩ := Cc HKL.out
      have Qi := aiU Hw
      have ZK := aiU SZ
      clear Hw SZ
      go_wp2_with fail
      refine Mx.out.mono ?_
      rintro e W3 ⟨ig, rfl, hin, hb3⟩
      have t0 := (hb3.cell (p := ⟨b17, 0, none⟩) z4).trans z0
      have t1 := (hb3.cell (p := ⟨b17, 1, none⟩) z4).trans z1
      have t2 := (hb3.cell (p := ⟨b17, 2, none⟩) z4).trans z2
      have t3 := (hb3.cell (p := ⟨b17, 3, none⟩) z4).trans z3
      have s3 := hb3.size
      have t4 : b17 < W3.heap.size := by omega
      have uj := aiU (qM (l := gW gn x.bl) (by rw [gN]; exact hin))
      have UB := aiU (rN (Ut.out.below hb3) (GB.of jg.out aii) gr HT.out hx' x.bl (x.la.map Int.toNat) ig gn (.slice A1 m1 cp1) (.slice A2 m2 cp2) p (by have := uj.out; rw [eP.out]; exact this) (H1Z.out.below hb3) (by rw [Qi.out]; exact H2Z.out.below hb3) (fun l hl => HAR.out jg.out l (by rw [eP.out]; exact ZK.out l hl)) (by rw [List.length_map]; exact Kj.out x (List.mem_of_getElem? HX.out)))
      rw [eP.out] at UB
      have B3 := aiU (BZ.out.trans (hb3.mono BZ.out.size))
      have BZ3 := aiU hb3
      clear hin hb3 z0 z1 z2 z3 z4 Mx
      go_wp2_with fail
      refine UB.out.mono ?_
      rintro e W4 ⟨pg, rfl, hpw, hb4⟩
      have T0 := aiU ((hb4.cell (p := ⟨b17, 0, none⟩) t4).trans t0)
      have T1 := aiU ((hb4.cell (p := ⟨b17, 1, none⟩) t4).trans t1)
      have T2 := aiU ((hb4.cell (p := ⟨b17, 2, none⟩) t4).trans t2)
      have T3 := aiU ((hb4.cell (p := ⟨b17, 3, none⟩) t4).trans t3)
      have s4 := hb4.size
      have RH : b17 < W4.heap.size := by omega
      have B4 := aiU (B3.out.trans (hb4.mono B3.out.size))
      have s4W := B4.out.size
      have HPW := aiU (qM (l := eC G (dR cd G) D hx' x.bl (x.la.map Int.toNat) gn) (by rw [jI, eP.out]; exact hpw))
      have UW := aiU (uj.out.below hb4)
      have BZ4 := aiU (BZ3.out.trans (hb4.mono BZ3.out.size))
      have zE := aiU (show ∀ (r : Int) (W5 : World), Below W4.heap.size W4 W5 → Calls Tryz.prog 47 #[.pointer (some ⟨sp, 0, none⟩), .agg #[.int .i64 (hx' : Int), (.slice A1 m1 cp1), (.slice A2 m2 cp2), .int .i64 p], .slice (some ⟨ig, 0, none⟩) gn gn, .slice (some ⟨pg, 0, none⟩) gn gn, .int .i64 r] W5 fun e w' => e = .returned (.tuple #[.int .i64 (cZ cd G x r).1, .bool (cZ cd G x r).2]) ∧ Below W5.heap.size W5 w' from fun r W5 hb5 => by
       have h := sI ((HS.out.below B4.out).below hb5) aii ((TW.out.below B4.out).below hb5) (Cr Un.out JE.out wW.out) (yP ZH.out aii JE.out wW.out) hx' p (.slice A1 m1 cp1) (.slice A2 m2 cp2) _ _ _ _ (UW.out.below hb5) (by rw [gN, eP.out]) (HPW.out.below hb5) (by rw [jI]) r
       have e1 : sN r (gl r (gW gn x.bl) (eC G (dR cd G) D hx' x.bl (x.la.map Int.toNat) gn) (fV cd G) gn) = cZ cd G x r := by
        rw [cZ, rO, eO.eq jg.out aii HT.out, Ul.out, eP.out]
        rfl
       rw [eP.out, e1] at h
       exact h)
      have HL4 := aiU (show oY cd G rl x = (gY.map (cZ cd G x)).foldl dL (0, false) from by unfold oY; rw [Ul.out, Int.toNat_natCast, Uy.out]; rfl)
      clear hpw hb4 t0 t1 t2 t3 t4 UB uj UW HPW
      go_upto_region 19 with fail
      obtain ⟨wo, Hi⟩ : ∃ wo : World, wo = wr := ⟨_, rfl⟩
      subst Hi
      go_loopw [18, 19, 22, 23, 24] (fun a18 a19 a22 a23 a24 wz => ∃ (j : Nat) (r : Int) (s : Int × Bool), j ≤ 4 ∧ r = 10 + (j : Int) ∧ a22 = .int .i64 r ∧ ((gY.take j).map (cZ cd G x)).foldl dL (0, false) = s ∧ a18 = .int .i64 s.1 ∧ a19 = .bool s.2 ∧ Below W4.heap.size W4 wz) (fun _ _ a22 _ _ _ => 14 - (intOf a22).toNat)
      case atStart => exact ⟨0, 10, (0, false), by omega, rfl, rfl, rfl, rfl, rfl, Below.refl _ _⟩
      case round =>
       obtain ⟨j, r, s, hj, hr, rfl, hs, rfl, rfl, hb5⟩ := hrel
       have zB := aiU hr
       have hr0 : 10 ≤ r := by omega
       have hr9 : r ≤ 14 := by omega
       clear hr
       obtain ⟨s1, s2⟩ := s
       have Zn := aiU hs
       have FE := aiU hb5
       have s5 := hb5.size
       simp only
       clear hs
       by_cases Ar : r ≤ 13
       ·have dj : decide (r ≤ 13) = true := decide_eq_true Ar
        have hj4 : j < 4 := by have := zB.out; omega
        have p0 := (hb5.cell (p := ⟨b17, 0, none⟩) RH).trans T0.out
        have p1 := (hb5.cell (p := ⟨b17, 1, none⟩) RH).trans T1.out
        have p2 := (hb5.cell (p := ⟨b17, 2, none⟩) RH).trans T2.out
        have p3 := (hb5.cell (p := ⟨b17, 3, none⟩) RH).trans T3.out
        have p4 : b17 < wr.heap.size := by omega
        obtain ⟨C, hC⟩ : ∃ C, cZ cd G x r = C := ⟨_, rfl⟩
        obtain ⟨c1, c2⟩ := C
        have Wi := aiU (show Calls Tryz.prog 47 #[.pointer (some ⟨sp, 0, none⟩), .agg #[.int .i64 (hx' : Int), (.slice A1 m1 cp1), (.slice A2 m2 cp2), .int .i64 p], .slice (some ⟨ig, 0, none⟩) gn gn, .slice (some ⟨pg, 0, none⟩) gn gn, .int .i64 r] wr fun e w' => e = .returned (.tuple #[.int .i64 c1, .bool c2]) ∧ Below wr.heap.size wr w' from by
         have := zE.out r wr hb5
         rw [hC] at this
         exact this)
        have hat : gY[j]? = some r := by
         rw [zB.out]
         match j, hj4 with
         | 0, _ => rfl
         | 1, _ => rfl
         | 2, _ => rfl
         | 3, _ => rfl
        have hst := GI (cZ cd G x) hat (0, false)
        rw [Zn.out, hC] at hst
        have HST := aiU hst
        obtain ⟨ql, QK⟩ : ∃ q, decide (c1 < s1) = q := ⟨_, rfl⟩
        have Wu := aiU (show (ql = true ↔ c1 < s1) by rw [← QK]; exact decide_eq_true_iff)
        clear hb5 hC hat hst Zn
        rcases c2 with _ | _
        ·have HN := aiU (show ((gY.take (j + 1)).map (cZ cd G x)).foldl dL (0, false) = (s1, s2) from by rw [HST.out]; rfl)
         go_wp2_with (go_at_call 47; refine Wi.out.mono ?_; rintro e w' ⟨rfl, hb6⟩; have B6 := aiU hb6; clear hb6)
         go_roundw
         case rel => exact ⟨j + 1, r + 1, (s1, s2), by have := zB.out; omega, by have := zB.out; omega, rfl, HN.out, rfl, rfl, FE.out.trans (B6.out.mono FE.out.size)⟩
         case measure => simp [intOf]; omega
        ·rcases s2 with _ | _
         ·have HN := aiU (show ((gY.take (j + 1)).map (cZ cd G x)).foldl dL (0, false) = (c1, true) from by rw [HST.out]; simp [dL])
          go_wp2_with (go_at_call 47; refine Wi.out.mono ?_; rintro e w' ⟨rfl, hb6⟩; have B6 := aiU hb6; clear hb6)
          go_roundw
          case rel => exact ⟨j + 1, r + 1, (c1, true), by have := zB.out; omega, by have := zB.out; omega, rfl, HN.out, rfl, rfl, FE.out.trans (B6.out.mono FE.out.size)⟩
          case measure => simp [intOf]; omega
         ·rcases ql with _ | _
          ·have HN := aiU (show ((gY.take (j + 1)).map (cZ cd G x)).foldl dL (0, false) = (s1, true) from by
            rw [HST.out]; unfold dL; rw [if_neg]; rintro ⟨_, h⟩; rcases h with h | h
            ·cases h
            ·have := Wu.out.2 h; cases this)
           go_wp2_with (go_at_call 47; refine Wi.out.mono ?_; rintro e w' ⟨rfl, hb6⟩; have B6 := aiU hb6; clear hb6)
           go_roundw
           case rel => exact ⟨j + 1, r + 1, (s1, true), by have := zB.out; omega, by have := zB.out; omega, rfl, HN.out, rfl, rfl, FE.out.trans (B6.out.mono FE.out.size)⟩
           case measure => simp [intOf]; omega
          ·have HN := aiU (show ((gY.take (j + 1)).map (cZ cd G x)).foldl dL (0, false) = (c1, true) from by
            rw [HST.out]; unfold dL; rw [if_pos ⟨rfl, .inr (Wu.out.1 rfl)⟩])
           go_wp2_with (go_at_call 47; refine Wi.out.mono ?_; rintro e w' ⟨rfl, hb6⟩; have B6 := aiU hb6; clear hb6)
           go_roundw
           case rel => exact ⟨j + 1, r + 1, (c1, true), by have := zB.out; omega, by have := zB.out; omega, rfl, HN.out, rfl, rfl, FE.out.trans (B6.out.mono FE.out.size)⟩
           case measure => simp [intOf]; omega
       ·obtain rfl : j = 4 := by have := zB.out; omega
        have dj : decide (r ≤ 13) = false := decide_eq_false Ar
        have Re := aiU (NU.out (s1, s2) (by rw [HL4.out]; exact Zn.out))
        have B5 := aiU (B4.out.trans (hb5.mono B4.out.size))
        have p0 := (hb5.cell (p := ⟨b17, 0, none⟩) RH).trans T0.out
        have p4 : b17 < wr.heap.size := by omega
        have HO5 := aiU (ak (ak Zw.out BZ4.out) hb5)
        have s5W := B5.out.size
        clear hb5
        cases s2 with
        | false =>
         have tI := aiU (show jh cd G rl L [] = .inr (hx' : Int) from by
          have h1 : jh cd G rl (L.take (k + 1)) [] = .inr (hx' : Int) := by rw [Re.out, if_neg ahZ]
          have h2 := uT h1 (L.drop (k + 1))
          rwa [List.take_append_drop] at h2)
         go_upto_region 25 with fail
         refine aj ahV ahV ?_
         repeat (go_big_quiet_step (fail))
         refine wpQuiet_nil ?_
         rintro _ ⟨x2, rfl⟩
         have Xf := aiU (BW.out.trans ((B5.out.trans (x2.h.mono B5.out.size)).mono BW.out.size))
         go_wp2_with fail
         go_ret3
         exact ⟨⟨fun _ => by rw [tI.out]; rfl, fun h => absurd tG.out h⟩, Xf.out⟩
        | true =>
         have ZM := aiU (show jh cd G rl (L.take (k + 1)) [] = .inl (out ++ [s1]) from by rw [Re.out, if_pos rfl])
         go_wp2_with (at_builtin; refine wpList_append_own_at _ rfl (.tmp 115) (.tmp 117) 38 rfl W.heap.size 3 iI (.int .i64 0) 1 8 Tryz.underlying38 p9 qd oy ox rfl ahW (.slice oA k rP) k (dU out) rfl (HO5.out.alloc _) ⟨wr.heap.size, 0, none⟩ 1 1 [.int .i64 s1] rfl rfl (cell_one_new _ _ _) ahX ahY ahU ah6 ?_; intro v' W' hown' hgrow _ j6; have F1 := aiU (Vj.out wr s1 W' v' _ B5.out hgrow rfl HO5.out hown'); clear hown' hgrow j6)
         go_roundw
         case rel => exact ⟨k + 1, _, by omega, by go_num, ⟨ZM.out, UJ.out s1⟩, F1.out.1, F1.out.2⟩
         case measure => simp [intOf]; omega
    ·obtain rfl : ln = k := by omega
     have dk : decide ((ln : Int) < (ln : Int)) = false := by simp
     have tI := aiU (show jh cd G rl L [] = .inl out from by rw [← Qr.out, List.take_of_length_le (by rw [FC.out]; exact Nat.le_refl _)])
     have N2 := aiU (eL (l := out) (by rw [HOL.out]; exact UI.out))
     have BE := aiU (BW.out.trans (hb.mono BW.out.size))
     clear hb
     go_wp2_with fail
     go_ret3
     exact ⟨⟨fun _ => by rw [tI.out]; exact ⟨_, rfl, N2.out⟩, fun h => absurd tG.out h⟩, BE.out⟩
end
section
open Go.RowKit
def jl : ByteArray := { data := #[116] }
theorem E0 (v : Value) (l : List Ins) (w : World) (T : gZ w) (H : Uh w v l) (hl : l.length ≤ 1000) (hop : ∀ x ∈ l, 0 ≤ x.op) :
  Calls Tryz.prog 29 #[v] w fun e w' => (∃ cv ev A cap, e = .returned (.agg #[cv, ev, .int .i64 0, .int .i64 0]) ∧ cv = .slice A l.length cap ∧ w'.ownsRow w.heap.size 70 1 cv l.length (MH (l.map fun i => (encI i).1)) ∧ nM w' ev [⟨jl, 0, l.length, 0⟩]) ∧ Below w.heap.size w w' := by
 obtain ⟨A, cap, rfl, h1, h2, h3⟩ := H.at_
 have HC := aiU h3
 have HT := aiU T
 have wS := aiU hop
 unfold maxLen at h2
 clear h3 T hop H
 obtain ⟨iW, hiW, hW0, hW1, hW2⟩ := info_parts Sy
 go_enter Tryz.func29, Tryz.ntmps29
 go_upto_region 3 with fail
 obtain ⟨V, hV⟩ : ∃ V, ((w.alloc (.cells #[.slice none 0 0, .slice none 0 0, .int .i64 0, .int .i64 0] 25)).alloc (.cells #[.string { data := #[116] }, .int .i64 0, .int .i64 (l.length : Int), .int .i64 0] 75)).alloc (.cells #[.slice none 0 0, .slice (some ⟨w.heap.size + 1, 0, none⟩) 1 1, .int .i64 0, .int .i64 0] 25) = V := ⟨_, rfl⟩
 have sV : V.heap.size = w.heap.size + 3 := by rw [← hV]; simp
 have bV : Below w.heap.size w V := hV ▸ (((Below.refl _ _).alloc (Nat.le_refl _) _).alloc ahZ _).alloc ah3 _
 have kr : V.heap[w.heap.size]? = some (.cells #[.slice none 0 0, .slice none 0 0, .int .i64 0, .int .i64 0] 25) := by rw [← hV, heap_alloc_old _ _ (by simp; try omega), heap_alloc_old _ _ ahZ]; exact heap_alloc_new _ _
 have ke : V.heap[w.heap.size + 1]? = some (.cells #[.string { data := #[116] }, .int .i64 0, .int .i64 (l.length : Int), .int .i64 0] 75) := by rw [← hV, heap_alloc_old _ _ ahZ]; exact aG _ _ ahZ
 have ki : V.heap[w.heap.size + 1 + 1]? = some (.cells #[.slice none 0 0, .slice (some ⟨w.heap.size + 1, 0, none⟩) 1 1, .int .i64 0, .int .i64 0] 25) := by rw [← hV]; exact aG _ _ ahZ
 have Qn := aiU (show IG V V (w.heap.size + 1 + 1) (.slice none 0 0) (.slice (some ⟨w.heap.size + 1, 0, none⟩) 1 1) [] from ⟨by omega, rfl, rfl, rfl, Nat.le_refl _, fun _ _ _ => rfl, ki, World.ownsRow_nil _ _ _ _⟩)
 rw [hV]
 obtain ⟨ib, hib⟩ : ∃ ib, w.heap.size + 1 + 1 = ib := ⟨_, rfl⟩
 rw [hib] at Qn ⊢
 obtain ⟨eb, Yj⟩ : ∃ eb, w.heap.size + 1 = eb := ⟨_, rfl⟩
 rw [Yj] at Qn ke ⊢
 have BV := aiU bV
 have KR := aiU kr
 have KE := aiU ke
 clear hV ki kr ke bV
 go_loopw [4, 5, 6] (fun a4 a5 a6 wr => ∃ (j : Nat) (cv : Value), j ≤ l.length ∧ a4 = .int .i64 (j : Int) ∧ IG V wr ib cv (.slice (some ⟨eb, 0, none⟩) 1 1) ((l.take j).map fun i => (encI i).1)) (fun a4 _ _ _ => l.length - (intOf a4).toNat)
 case atStart => exact ⟨0, _, Nat.zero_le _, rfl, Qn.out⟩
 case round =>
  obtain ⟨j, cv, hj, rfl, hG⟩ := hrel
  clear Qn
  have HG := aiU hG
  have BW := aiU (hG.base BV.out ahU)
  have sB := BW.out.size
  have sB2 := hG.sz
  clear hG
  by_cases hlt : j < l.length
  ·obtain ⟨b, off, rfl, hb, hc⟩ := HC.out ahU
   obtain ⟨i, hi⟩ : ∃ i, l[j] = i := ⟨_, rfl⟩
   have hx : l[j]? = some i := by rw [List.getElem?_eq_getElem hlt, hi]
   obtain ⟨c0, c1, c2, c3, c4⟩ := hc j i hx
   have x0 : wr.cell? ⟨b, off + j * 5, none⟩ = some (.int .u8 i.op) := by rw [BW.out.cell (p := ⟨b, _, none⟩) hb]; exact c0
   have x1 : wr.cell? ⟨b, off + j * 5 + 1, none⟩ = some (.int .i64 i.a) := by rw [BW.out.cell (p := ⟨b, _, none⟩) hb]; exact c1
   have x2 : wr.cell? ⟨b, off + j * 5 + 2, none⟩ = some (.int .i64 i.b) := by rw [BW.out.cell (p := ⟨b, _, none⟩) hb]; exact c2
   have x3 : wr.cell? ⟨b, off + j * 5 + 3, none⟩ = some (.int .i64 i.c) := by rw [BW.out.cell (p := ⟨b, _, none⟩) hb]; exact c3
   have x4 : wr.cell? ⟨b, off + j * 5 + 4, none⟩ = some (.int .i64 i.aP) := by rw [BW.out.cell (p := ⟨b, _, none⟩) hb]; exact c4
   have Wm := aiU (show (l.take (j + 1)).map (fun i => (encI i).1) = (l.take j).map (fun i => (encI i).1) ++ [(encI i).1] by rw [bT hx]; simp)
   have hop := wS.out i (List.mem_of_getElem? hx)
   have dl : decide ((j : Int) < (l.length : Int)) = true := by simpa using hlt
   have kL : b < wr.heap.size := by omega
   have Kk := aiU (sA i hop wr (HT.out.below BW.out))
   obtain ⟨ec, er, hec⟩ : ∃ ec er, encI i = (ec, er) := ⟨_, _, rfl⟩
   rw [hec] at Kk Wm
   simp only at Kk Wm
   obtain ⟨ws, VB⟩ : ∃ ws, (l.take j).map (fun i => (encI i).1) = ws := ⟨_, rfl⟩
   have hwl : ws.length = j := by rw [← VB]; simp; omega
   rw [VB] at HG Wm
   have HWL := aiU hwl
   clear hc c0 c1 c2 c3 c4 hx hi hec VB hwl hop
   go_upto_region 6 with (go_at_call 23; refine Kk.out.mono ?_; rintro e Y ⟨rfl, hbY⟩)
   have J5 := HG.out.below hbY
   obtain ⟨cA, cX, rfl⟩ : ∃ cA cX, cv = .slice cA ws.length cX := by
    rcases J5.row.2 with ⟨h, h'⟩ | ⟨g, cap', cur, h, _⟩
    ·exact ⟨_, _, by rw [h, h']⟩
    ·exact ⟨_, _, h⟩
   have i0 : Y.cell? ⟨ib, 0, none⟩ = some (.slice cA ws.length cX) := by simp [World.cell?, J5.im]
   have f0 : Y.frozen? ⟨ib, 0, none⟩ = false := by simp [World.frozen?, J5.im]
   have ZW := aiU J5
   have UK := aiU (show some ib ≠ Value.ownBlock (.slice cA ws.length cX) from fun e' => by have := (J5.row.lt ib e'.symm).1; have := J5.ib1; omega)
   have hiY : ib < Y.heap.size := by have := J5.sz; have := J5.ib1; omega
   have hVY := J5.sz
   have hw5 : ws.length ≤ 1000 := by have := HWL.out; omega
   clear J5 hbY Kk x0 x1 x2 x3 x4
   go_upto_region 4 with (at_builtin; refine wpList_append_own_at _ rfl (.tmp 27) (.tmp 29) 22 rfl V.heap.size 70 iW (.int .u32 0) 1 4 Tryz.underlying22 hiW hW0 hW1 hW2 rfl ahW (.slice cA ws.length cX) _ _ rfl (ZW.out.row.alloc _) ⟨Y.heap.size, 0, none⟩ 1 1 [.int .u32 ec] rfl rfl (cell_one_new _ _ _) ahX ahY ahU ah6 ?_; intro v' W' hown' hgrow _ j6; obtain ⟨g', cap', rfl⟩ := ownsRow_succ hown'; have hc1 := hgrow.cell (a := ⟨ib, 0, none⟩) (v := .slice cA ws.length cX) ah8 UK.out; have hf1 : W'.frozen? ⟨ib, 0, none⟩ = false := (World.frozen?_of_block (hgrow.block ib ah3 UK.out)).trans ah8)
   have HA := aiU (ZW.out.app (x := ec) ((Below.refl Y.heap.size Y).alloc (Nat.le_refl _) _) hgrow (by simpa [MH] using hown'))
   clear hc1 hf1 j6 hgrow hown' i0 f0 ZW UK
   go_wp2_with fail
   go_roundw
   case rel =>
    refine ⟨j + 1, .slice (some ⟨g', 0, none⟩) (ws.length + 1) cap', by omega, by go_num, ?_⟩
    rw [Wm.out]
    exact HA.out
   case measure => simp [intOf]; omega
  ·obtain rfl : j = l.length := by omega
   have dl : decide ((l.length : Int) < (l.length : Int)) = false := by simp
   rw [List.take_length] at HG
   have hwl : (l.map fun i => (encI i).1).length = l.length := by simp
   have hrw := HG.out.row
   rw [hwl] at hrw
   obtain ⟨cA, cX, rfl⟩ : ∃ cA cX, cv = .slice cA l.length cX := by
    rcases hrw.2 with ⟨h, h'⟩ | ⟨g, cap', cur, h, _⟩
    ·exact ⟨_, _, by rw [h, h']⟩
    ·exact ⟨_, _, h⟩
   have i0 : wr.cell? ⟨ib, 0, none⟩ = some (.slice cA l.length cX) := by simp [World.cell?, HG.out.im]
   have i1 : wr.cell? ⟨ib, 1, none⟩ = some (.slice (some ⟨eb, 0, none⟩) 1 1) := by simp [World.cell?, HG.out.im]
   have i2 : wr.cell? ⟨ib, 2, none⟩ = some (.int .i64 0) := by simp [World.cell?, HG.out.im]
   have i3 : wr.cell? ⟨ib, 3, none⟩ = some (.int .i64 0) := by simp [World.cell?, HG.out.im]
   have kr := (HG.out.blk w.heap.size ahU ahU).trans KR.out
   have ke := (HG.out.blk eb ahU ahU).trans KE.out
   have r0 : wr.cell? ⟨w.heap.size, 0, none⟩ = some (.slice none 0 0) := by simp [World.cell?, kr]
   have r1 : wr.cell? ⟨w.heap.size, 1, none⟩ = some (.slice none 0 0) := by simp [World.cell?, kr]
   have r2 : wr.cell? ⟨w.heap.size, 2, none⟩ = some (.int .i64 0) := by simp [World.cell?, kr]
   have r3 : wr.cell? ⟨w.heap.size, 3, none⟩ = some (.int .i64 0) := by simp [World.cell?, kr]
   have f0 : wr.frozen? ⟨w.heap.size, 0, none⟩ = false := by simp [World.frozen?, kr]
   have f1 : wr.frozen? ⟨w.heap.size, 1, none⟩ = false := by simp [World.frozen?, kr]
   have f2 : wr.frozen? ⟨w.heap.size, 2, none⟩ = false := by simp [World.frozen?, kr]
   have f3 : wr.frozen? ⟨w.heap.size, 3, none⟩ = false := by simp [World.frozen?, kr]
   have Uu := aiU hrw
   have KE2 := aiU ke
   clear hrw kr ke hwl
   go_wp2_with fail
   refine bodyPost_ret (v := .agg #[.slice cA l.length cX, .slice (some ⟨eb, 0, none⟩) 1 1, .int .i64 0, .int .i64 0]) (by simp [results, Tryz.results29, go_sem, *]) rfl ⟨⟨_, _, _, _, rfl, rfl, ?_, ?_⟩, ?_⟩
   ·refine ownsRow_base (base := V.heap.size) ?_ ahU
    have hne : ∀ q, (Value.slice cA l.length cX).ownBlock = some q → q ≠ w.heap.size := fun q hq => by have := (Uu.out.lt q hq).1; omega
    refine ownsRow_setCell_other (ownsRow_setCell_other (ownsRow_setCell_other (ownsRow_setCell_other Uu.out ?_ _) ?_ _) ?_ _) ?_ _ <;> exact fun e => hne _ e rfl
   ·refine ⟨fun e he => by simp at he; subst he; show jl.size ≤ maxLen; unfold maxLen; decide, _, 1, rfl, Nat.le_refl _, by unfold maxLen; omega, fun _ => ⟨eb, 0, rfl, by simp; omega, fun i x hx => ?_⟩⟩
    obtain ⟨rfl, rfl⟩ : i = 0 ∧ x = ⟨jl, 0, l.length, 0⟩ := by
     cases i with
     | zero => simp at hx; exact ⟨rfl, hx.symm⟩
     | succ i => simp at hx
    have hb : ((((wr.setCell ⟨w.heap.size, 0, none⟩ (.slice cA l.length cX)).setCell ⟨w.heap.size, 1, none⟩ (.slice (some ⟨eb, 0, none⟩) 1 1)).setCell ⟨w.heap.size, 2, none⟩ (.int .i64 0)).setCell ⟨w.heap.size, 3, none⟩ (.int .i64 0)).heap[eb]? = wr.heap[eb]? := by
     have : eb ≠ w.heap.size := by omega
     rw [Below.heap_setCell _ _ _ _ this, Below.heap_setCell _ _ _ _ this, Below.heap_setCell _ _ _ _ this, Below.heap_setCell _ _ _ _ this]
    have hb2 := hb.trans KE2.out
    refine ⟨?_, ?_, ?_, ?_⟩ <;> simp [World.cell?, hb2, jl]
   ·refine Below.setCell (Below.setCell (Below.setCell (Below.setCell BW.out ?_ _) ?_ _) ?_ _) ?_ _ <;> exact Nat.le_refl _
end
section
def Qx (nx : Nat → List Nat) (ord : List Nat) (a b : Nat) : Prop := a = b ∨ a ∈ ord ∧ Dom nx a b
structure Imm (n : Nat) (nx : Nat → List Nat) (ord : List Nat) (b a : Nat) : Prop where
 b0 : 0 < b
 hb : b ∈ ord
 ne : a ≠ b
 ha : a ∈ ord
 dom : Qx nx ord a b
 all : ∀ c, c < n → c ≠ b → c ≠ a → c ∈ ord → Qx nx ord c b → Qx nx ord c a
section
variable {n : Nat} {nx : Nat → List Nat} {ord : List Nat} {pos : Nat → Nat} {D : List Int}
theorem gD.aP (g : Gr n nx ord pos) (t : gD n nx ord pos D) {b a : Nat} (e : D.getD b (-1) = (a : Int)) (x : Nat) : Imm n nx ord b x ↔ x = a := by
 have hu := t.ti.up b a e
 have hab : a ≠ b := fun h => by have := hu.2.2.1; rw [h] at this; omega
 have hA : bR D b a := .up e (.self a)
 have hD : Dom nx a b := (t.ex b hu.1 a).1 hA
 constructor
 ·intro h
  have hx : bR D b x := (t.ex b hu.1 x).2 (by
   rcases h.dom with h1 | h1
   ·exact absurd h1 h.ne
   ·exact h1.2)
  rcases (bR.step e).1 hx with h1 | h1
  ·exact absurd h1 h.ne
  ·by_cases uO : x = a
   ·exact uO
   ·rcases h.all a (g.lt a hu.2.1) hab (Ne.symm uO) hu.2.1 (.inr ⟨hu.2.1, hD⟩) with h2 | h2
    ·exact h2.symm
    ·have h3 := (t.ex x h.ha a).2 h2.2
     have h4 := t.ti.le h3
     have h5 := (t.ti.Ka h1).2.2.2 (Ne.symm uO)
     omega
 ·rintro rfl
  refine ⟨?_, hu.1, hab, hu.2.1, .inr ⟨hu.2.1, hD⟩, fun c hc h1 h2 h3 h4 => ?_⟩
  ·rcases Nat.eq_zero_or_pos b with h | h
   ·subst h
    rw [t.ti.z] at e
    omega
   ·exact h
  ·rcases h4 with h4 | h4
   ·exact absurd h4 h1
   ·have h5 := (t.ex b hu.1 c).2 h4.2
    rcases (bR.step e).1 h5 with h6 | h6
    ·exact absurd h6 h1
    ·exact .inr ⟨h3, (t.ex x hu.2.1 c).1 h6⟩
theorem gD.none (t : gD n nx ord pos D) {b : Nat} (e : D.getD b (-1) = -1) (x : Nat) : ¬ Imm n nx ord b x := by
 intro h
 rcases t.all b h.hb with h1 | h1
 ·have := h.b0; omega
 ·omega
theorem gD.case (t : gD n nx ord pos D) (b : Nat) : D.getD b (-1) = -1 ∨ ∃ a : Nat, D.getD b (-1) = (a : Int) := by
 have := t.ti.ge b
 by_cases h : D.getD b (-1) = -1
 ·exact .inl h
 ·exact .inr ⟨(D.getD b (-1)).toNat, by omega⟩
end
def RA (nx : Nat → List Nat) (s : Int) (x : Nat) : Prop := ∃ l, Path nx x l ∧ ∀ z ∈ l, (z : Int) ≠ s
theorem RA.zero {nx : Nat → List Nat} {s : Int} (h : s ≠ 0) : RA nx s 0 := ⟨[0], .nil, fun z hz => by
 obtain rfl : z = 0 := by simpa using hz
 exact Ne.symm h⟩
theorem RA.step {nx : Nat → List Nat} {s : Int} {x y : Nat} (h : RA nx s x) (hy : y ∈ nx x) (hs : (y : Int) ≠ s) : RA nx s y := by
 obtain ⟨l, h1, h2⟩ := h
 exact ⟨y :: l, .step h1 hy, fun z hz => by
  rcases List.mem_cons.1 hz with rfl | hz
  ·exact hs
  ·exact h2 z hz⟩
theorem RA.no {nx : Nat → List Nat} {x : Nat} : ¬ RA nx 0 x := fun ⟨l, h1, h2⟩ => h2 0 h1.zero rfl
theorem RA.all {n : Nat} {nx : Nat → List Nat} {ord : List Nat} {pos : Nat → Nat} (g : Gr n nx ord pos) {x : Nat} : RA nx (-1) x ↔ x ∈ ord :=
 ⟨fun ⟨l, h1, _⟩ => (g.mem h1).1, fun h => by
  obtain ⟨l, hl⟩ := g.path h
  exact ⟨l, hl, fun z _ => by omega⟩⟩
theorem RA.dom {nx : Nat → List Nat} {a b : Nat} : ¬ RA nx (a : Int) b ↔ Dom nx a b := by
 constructor
 ·intro h l hl
  by_cases ha : a ∈ l
  ·exact ha
  ·refine absurd (⟨l, hl, fun z hz e => ha ?_⟩ : RA nx (a : Int) b) h
   have : z = a := by omega
   rwa [this] at hz
 ·rintro h ⟨l, hl, hs⟩
  exact hs a (h l hl) rfl
structure Ub (nx : Nat → List Nat) (s : Int) (r : Nat) (S : Nat → Prop) : Prop where
 only : ∀ x, S x → RA nx s x
 has : ∀ x l, Path nx x l → (∀ z ∈ l, (z : Int) ≠ s) → l.length ≤ r + 1 → S x
theorem Ub.done {n : Nat} {nx : Nat → List Nat} {s : Int} {S : Nat → Prop} (h : Ub nx s n S) (hlt : ∀ x l, Path nx x l → ∀ z ∈ l, z < n) (x : Nat) : S x ↔ RA nx s x := by
 refine ⟨h.only x, ?_⟩
 rintro ⟨l, h1, h2⟩
 obtain ⟨l', h3, h4, h5⟩ := h1.simple
 have := fy h4 (hlt x l' h3)
 exact h.has x l' h3 (fun z hz => h2 z (h5 z hz)) ahU
structure P5 (nx : Nat → List Nat) (s : Int) (r : Nat) (Pr : Nat → Prop) (S : Nat → Prop) : Prop where
 Vv : Ub nx s r S
 cl : ∀ x l, Path nx x l → (∀ z ∈ l, (z : Int) ≠ s) → l.length ≤ r + 1 → Pr x → ∀ y ∈ nx x, (y : Int) ≠ s → S y
theorem P5.start {nx : Nat → List Nat} {s : Int} {r : Nat} {S : Nat → Prop} (h : Ub nx s r S) : P5 nx s r (fun _ => False) S := ⟨h, fun _ _ _ _ _ h => h.elim⟩
theorem P5.done {nx : Nat → List Nat} {s : Int} {r : Nat} {S Pr : Nat → Prop} (h : P5 nx s r Pr S) (hp : ∀ x l, Path nx x l → Pr x) : Ub nx s (r + 1) S := by
 refine ⟨h.Vv.only, fun x l hl hs hn => ?_⟩
 cases hl with
 | nil => exact h.Vv.has 0 [0] .nil hs ahZ
 | @step p _ l h1 h2 =>
  have h3 : ∀ z ∈ l, (z : Int) ≠ s := fun z hz => hs z (List.mem_cons_of_mem _ hz)
  exact h.cl p l h1 h3 (by simpa using hn) (hp p l h1) x h2 (hs x List.mem_cons_self)
theorem P5.next {nx : Nat → List Nat} {s : Int} {r : Nat} {S S' Pr Pr' : Nat → Prop} (h : P5 nx s r Pr S) (hg : ∀ x, S x → S' x) (ho : ∀ x, S' x → RA nx s x) (hi : ∀ x, Pr' x → Pr x ∨ (S x → ∀ y ∈ nx x, (y : Int) ≠ s → S' y)) : P5 nx s r Pr' S' := by
 refine ⟨⟨ho, fun x l h1 h2 h3 => hg x (h.Vv.has x l h1 h2 h3)⟩, fun x l h1 h2 h3 h4 y hy h5 => ?_⟩
 rcases hi x h4 with h6 | h6
 ·exact hg y (h.cl x l h1 h2 h3 h6 y hy h5)
 ·exact h6 (h.Vv.has x l h1 h2 h3) y hy h5
section
variable {nx : Nat → List Nat} {inb : Nat → Bool} {hd b : Nat}
end
end
section
open Go.RowKit
def ND : List Ins := [⟨14, 10, 0, 0, 0⟩, ⟨25, 10, 0, 0, 4⟩, ⟨15, 10, 10, 0, 1⟩, ⟨15, 5, 10, 0, -4⟩, ⟨23, 5, 0, 0, -4⟩, ⟨1, 0, 0, 0, 0⟩]
def YR : List Int := ND.map fun i => (encI i).1
def cG (i : Nat) : Int := YR.getD i 0
theorem TP : ∀ x ∈ YR, 0 ≤ x ∧ x < 4294967296 := by decide +kernel
theorem bs0 : bk (cG 0) = (⟨14, 10, 0, 0, 0⟩, 0) := by decide +kernel
theorem bs1 : bk (cG 1) = (⟨25, 10, 0, 0, 4⟩, 0) := by decide +kernel
theorem bs2 : bk (cG 2) = (⟨15, 10, 10, 0, 1⟩, 0) := by decide +kernel
theorem bs3 : bk (cG 3) = (⟨15, 5, 10, 0, -4⟩, 0) := by decide +kernel
theorem bs4 : bk (cG 4) = (⟨23, 5, 0, 0, -4⟩, 0) := by decide +kernel
theorem bs5 : bk (cG 5) = (⟨1, 0, 0, 0, 0⟩, 0) := by decide +kernel
theorem L8 : au cG 0 = ⟨14, 10, 0, 0, 0⟩ := by show (bk (cG 0)).1 = _; rw [bs0]
theorem L6 : au cG 1 = ⟨25, 10, 0, 0, 4⟩ := by show (bk (cG 1)).1 = _; rw [bs1]
theorem L0 : au cG 2 = ⟨15, 10, 10, 0, 1⟩ := by show (bk (cG 2)).1 = _; rw [bs2]
theorem LZ : au cG 3 = ⟨15, 5, 10, 0, -4⟩ := by show (bk (cG 3)).1 = _; rw [bs3]
theorem LY : au cG 4 = ⟨23, 5, 0, 0, -4⟩ := by show (bk (cG 4)).1 = _; rw [bs4]
theorem LX : au cG 5 = ⟨1, 0, 0, 0, 0⟩ := by show (bk (cG 5)).1 = _; rw [bs5]
theorem Mc : ng 6 cG [⟨jl, 0, 6, 0⟩] 0 0 := by
 refine ⟨by omega, by simp, by omega, by omega, by simp, fun e he => ?_, ⟨rfl, by simp, rfl⟩, fun e he k h1 h2 => ?_⟩
 ·simp at he; subst he
  show 1 ≤ jl.size ∧ jl.size ≤ 12
  decide
 ·simp at he; subst he
  simp only at h1 h2
  obtain rfl | rfl | rfl | rfl | rfl | rfl : k = 0 ∨ k = 1 ∨ k = 2 ∨ k = 3 ∨ k = 4 ∨ k = 5 := by omega
  ·refine ⟨by show (bk (cG 0)).2 = 0; rw [bs0], fun h => ?_, fun h => ?_⟩
   ·have : eD (au cG 0).op = true := h
    rw [L8] at this; simp [eD] at this
   ·have : (au cG 0).op = 28 ∨ (au cG 0).op = 29 := h
    rw [L8] at this; simp at this
  ·refine ⟨by show (bk (cG 1)).2 = 0; rw [bs1], fun h => ?_, fun h => ?_⟩
   ·have : eD (au cG 1).op = true := h
    rw [L6] at this; simp [eD] at this
   ·have : (au cG 1).op = 28 ∨ (au cG 1).op = 29 := h
    rw [L6] at this; simp at this
  ·refine ⟨by show (bk (cG 2)).2 = 0; rw [bs2], fun h => ?_, fun h => ?_⟩
   ·have : eD (au cG 2).op = true := h
    rw [L0] at this; simp [eD] at this
   ·have : (au cG 2).op = 28 ∨ (au cG 2).op = 29 := h
    rw [L0] at this; simp at this
  ·refine ⟨by show (bk (cG 3)).2 = 0; rw [bs3], fun h => ?_, fun h => ?_⟩
   ·have : eD (au cG 3).op = true := h
    rw [LZ] at this; simp [eD] at this
   ·have : (au cG 3).op = 28 ∨ (au cG 3).op = 29 := h
    rw [LZ] at this; simp at this
  ·refine ⟨by show (bk (cG 4)).2 = 0; rw [bs4], fun h => ?_, fun h => ?_⟩
   ·show (0 : Int) ≤ 4 + 1 + (au cG 4).aP ∧ 4 + 1 + (au cG 4).aP < 6
    rw [LY]; decide
   ·have : (au cG 4).op = 28 ∨ (au cG 4).op = 29 := h
    rw [LY] at this; simp at this
  ·refine ⟨by show (bk (cG 5)).2 = 0; rw [bs5], fun h => ?_, fun h => ?_⟩
   ·have : eD (au cG 5).op = true := h
    rw [LX] at this; simp [eD] at this
   ·have : (au cG 5).op = 28 ∨ (au cG 5).op = 29 := h
    rw [LX] at this; simp at this
theorem Nu : bL (au cG 0) 0 = [1] := by rw [L8]; decide
theorem Nt : bL (au cG 1) 1 = [2] := by rw [L6]; decide
theorem Ns : bL (au cG 2) 2 = [3] := by rw [L0]; decide
theorem Nr : bL (au cG 3) 3 = [4] := by rw [LZ]; decide
theorem Nq : bL (au cG 4) 4 = [5, 1] := by rw [LY]; decide
theorem TN : bL (au cG 5) 5 = [] := by rw [LX]; decide
theorem Bf (x : Int) : nL (au cG) 0 6 x ↔ x ∈ [(0 : Int), 1, 2, 3, 4, 5] := by
 constructor
 ·intro h
  have := h.range _ _ _ ahU
  simp; omega
 ·intro h
  have r0 : nL (au cG) 0 6 0 := nL.start
  have r1 : nL (au cG) 0 6 1 := nL.step r0 (by rw [Nu]; simp) ahU ahU
  have r2 : nL (au cG) 0 6 2 := nL.step r1 (by rw [Nt]; simp) ahU ahU
  have r3 : nL (au cG) 0 6 3 := nL.step r2 (by rw [Ns]; simp) ahU ahU
  have r4 : nL (au cG) 0 6 4 := nL.step r3 (by rw [Nr]; simp) ahU ahU
  have r5 : nL (au cG) 0 6 5 := nL.step r4 (by rw [Nq]; simp) ahU ahU
  simp at h
  rcases h with rfl | rfl | rfl | rfl | rfl | rfl
  ·exact r0
  ·exact r1
  ·exact r2
  ·exact r3
  ·exact r4
  ·exact r5
theorem Cy (x : Int) (h : x ∈ [(0 : Int), 1, 2, 3, 4, 5]) : ¬ nN (au cG) 0 6 x := by
 rintro ⟨t, ht, hn⟩
 simp at h
 rcases h with rfl | rfl | rfl | rfl | rfl | rfl
 ·rw [Nu] at ht; simp at ht; omega
 ·rw [Nt] at ht; simp at ht; omega
 ·rw [Ns] at ht; simp at ht; omega
 ·rw [Nr] at ht; simp at ht; omega
 ·rw [Nq] at ht; simp at ht; omega
 ·rw [TN] at ht; simp at ht
def YS : List (Int × Int) := [(0, 1), (1, 5), (5, 6)]
theorem Jd : blk (au cG) 0 [0, 1, 2, 3, 4, 5] 6 = YS := by decide +kernel
def cN : List aU := [⟨0, 1, [1]⟩, ⟨1, 5, [2, 1]⟩, ⟨5, 6, []⟩]
def yT : List (List Int) := [[], [0, 1], [1]]
theorem NC : cU (au cG) YS = cN := by decide +kernel
theorem NB : gi (au cG) YS = yT := by decide +kernel
theorem yS : bQ cN yT := by
 refine ⟨by simp [cN], rfl, ⟨6, ⟨by simp, by simp, by simp, by simp [cN], by simp [cN]⟩, ⟨by simp, by simp, by simp, by simp [cN], by simp [cN]⟩, ⟨by simp, by simp, by simp, by simp [cN], by simp [cN]⟩, rfl⟩, by decide⟩
theorem Pz {r : Wd} (h : Out (au cG) 0 6 r) : r = ⟨cN, yT, -1, 0⟩ := by
 cases h with
 | bad D bad hb hR =>
  rcases hR.b with h | h
  ·omega
  ·exact absurd h.2.1 (Cy _ ((Bf _).1 (hR.dr _ h.1)))
 | ok D hR =>
  have hm : ∀ x, x ∈ D ↔ x ∈ [(0 : Int), 1, 2, 3, 4, 5] := fun x => (hR.mem ahZ x).trans (Bf x)
  rw [show ((6 : Int) - 0).toNat = 6 from rfl, pK _ _ hm, Jd, NC, NB]
def CB : List AB := [⟨[⟨14, 10, 0, 0, 0⟩], [1]⟩, ⟨[⟨25, 10, 0, 0, 4⟩, ⟨15, 10, 10, 0, 1⟩, ⟨15, 5, 10, 0, -4⟩, ⟨23, 5, 0, 0, -4⟩], [2, 1]⟩, ⟨[⟨1, 0, 0, 0, 0⟩], []⟩]
def Jf (h : Int) : RG := (aA.set 5 (-3, 0)).set 10 (0, h)
def bsQ : RG := aA.set 10 (1, 4)
theorem Nz : cF CB (cg 3) 3 = (⟨[true, true, false], [aA, Jf 1, aA], [0, 1, 0]⟩, true) := by kernel_rfl
theorem Ny : cF CB (⟨[true, true, false], [aA, Jf 1, aA], [0, 1, 0]⟩) 3 = (⟨[true, true, false], [aA, Jf 2, aA], [0, 2, 0]⟩, true) := by kernel_rfl
theorem Nx : cF CB (⟨[true, true, false], [aA, Jf 2, aA], [0, 2, 0]⟩) 3 = (⟨[true, true, false], [aA, Jf 2147483647, aA], [0, 3, 0]⟩, true) := by kernel_rfl
theorem Nw : cF CB (⟨[true, true, false], [aA, Jf 2147483647, aA], [0, 3, 0]⟩) 3 = (⟨[true, true, true], [aA, Jf 2147483647, bsQ], [0, 3, 0]⟩, true) := by kernel_rfl
def J9 : AS := ⟨[true, true, true], [aA, Jf 2147483647, bsQ], [0, 3, 0]⟩
theorem Nv : cF CB J9 3 = (J9, false) := by kernel_rfl
theorem Md : Ends CB (cg 3) J9 := by
 have hl : CB.length = 3 := rfl
 have e4 : Ends CB J9 J9 := by
  have := Ends.done (B := CB) (s := J9) (by rw [hl, Nv])
  rwa [hl, Nv] at this
 have e3 : Ends CB (⟨[true, true, false], [aA, Jf 2147483647, aA], [0, 3, 0]⟩) J9 := Ends.more (by rw [hl, Nw]) (by rw [hl, Nw]; exact e4)
 have e2 : Ends CB (⟨[true, true, false], [aA, Jf 2, aA], [0, 2, 0]⟩) J9 := Ends.more (by rw [hl, Nx]) (by rw [hl, Nx]; exact e3)
 have e1 : Ends CB (⟨[true, true, false], [aA, Jf 1, aA], [0, 1, 0]⟩) J9 := Ends.more (by rw [hl, Ny]) (by rw [hl, Ny]; exact e2)
 exact Ends.more (by rw [hl, Nz]) (by rw [hl, Nz]; exact e1)
theorem Je : aR cG cN = CB := by
 have h0 : codeFrom cG 0 1 = [⟨14, 10, 0, 0, 0⟩] := by
  show [au cG (0 + 0)] = _
  rw [show ((0 : Int) + 0) = 0 by omega, L8]
 have h1 : codeFrom cG 1 4 = [⟨25, 10, 0, 0, 4⟩, ⟨15, 10, 10, 0, 1⟩, ⟨15, 5, 10, 0, -4⟩, ⟨23, 5, 0, 0, -4⟩] := by
  show [au cG (1 + 0), au cG (1 + 1), au cG (1 + 2), au cG (1 + 3)] = _
  rw [show ((1 : Int) + 0) = 1 by omega, show ((1 : Int) + 1) = 2 by omega, show ((1 : Int) + 2) = 3 by omega, show ((1 : Int) + 3) = 4 by omega, L6, L0, LZ, LY]
 have h2 : codeFrom cG 5 1 = [⟨1, 0, 0, 0, 0⟩] := by
  show [au cG (5 + 0)] = _
  rw [show ((5 : Int) + 0) = 5 by omega, LX]
 show [AB.mk (codeFrom cG 0 1) [1], AB.mk (codeFrom cG 1 4) [2, 1], AB.mk (codeFrom cG 5 1) []] = CB
 rw [h0, h1, h2]
 rfl
theorem I8 {s : AS} (h : Ends (aR cG cN) (cg cN.length) s) : s = J9 := by
 rw [Je] at h
 exact Ends.LQ h Md
theorem PB : dK 3 (cM cN) = [0, 1, 2] := by decide +kernel
theorem Cx : fO 3 (cM cN) 0 = 0 := by decide +kernel
theorem qR : fO 3 (cM cN) 1 = 1 := by decide +kernel
theorem Cw : fO 3 (cM cN) 2 = 2 := by decide +kernel
theorem I9 : jb cN 3 [] = [(0, 1), (1, 2), (1, 1)] := by decide +kernel
theorem Cz : JT cN := by
 intro b hb
 have hb : b < 3 := hb
 show b ∈ dK 3 (cM cN)
 rw [PB]
 simp; omega
theorem Me (D : List Int) : gu (dK cN.length (cM cN)) (fO cN.length (cM cN)) D (jb cN cN.length []) := by
 show gu (dK 3 (cM cN)) (fO 3 (cM cN)) D (jb cN 3 [])
 rw [I9]
 intro e he
 simp only [List.mem_cons, List.not_mem_nil, or_false] at he
 rcases he with rfl | rfl | rfl
 ·intro _ h
  have h : fO 3 (cM cN) 1 ≤ fO 3 (cM cN) 0 := h
  rw [Cx, qR] at h
  omega
 ·intro _ h
  have h : fO 3 (cM cN) 2 ≤ fO 3 (cM cN) 1 := h
  rw [qR, Cw] at h
  omega
 ·intro _ _
  exact .self 1
theorem wG : gh (dK 3 (cM cN)) (fO 3 (cM cN)) (jb cN 3 []) 1 = [1] := by decide +kernel
theorem PC (x : Nat) (h : gh (dK 3 (cM cN)) (fO 3 (cM cN)) (jb cN 3 []) x ≠ []) : x = 1 := by
 rw [I9] at h
 by_cases e : x = 1
 ·exact e
 ·refine absurd ?_ h
  unfold gh
  rw [List.map_eq_nil_iff, List.filter_eq_nil_iff]
  intro p hp
  simp only [List.mem_cons, List.not_mem_nil, or_false] at hp
  rcases hp with rfl | rfl | rfl
  ·have := Cx; have := qR
   simp; omega
  ·have := qR; have := Cw
   simp; omega
  ·simp; omega
theorem CL {l : List Int} (h : l.Pairwise (· < ·)) (hm : ∀ x, x ∈ l ↔ x = 1) : l = [1] := by
 cases l with
 | nil => exact absurd ((hm 1).2 rfl) ahZ
 | cons a l =>
  obtain rfl := (hm a).1 ahZ
  cases l with
  | nil => rfl
  | cons b l =>
   obtain rfl := (hm b).1 ahZ
   simp at h
theorem I6 {D : List Int} {L : List Lp} (h : fl yT (dK cN.length (cM cN)) (fO cN.length (cM cN)) (jb cN cN.length []) D L) : L = [⟨1, [1], [1]⟩] := by
 have h1 : L.map (·.h) = [1] := CL h.Fq fun x => by
  rw [h.mem]
  show 0 ≤ x ∧ gh (dK 3 (cM cN)) (fO 3 (cM cN)) (jb cN 3 []) x.toNat ≠ [] ↔ x = 1
  constructor
  ·rintro ⟨a, b⟩
   have := PC _ b
   omega
  ·rintro rfl
   refine ⟨by omega, ?_⟩
   rw [show (1 : Int).toNat = 1 from rfl, wG]
   simp
 obtain ⟨x, rfl⟩ : ∃ x, L = [x] := by
  cases L with
  | nil => simp at h1
  | cons x M =>
   cases M with
   | nil => exact ⟨x, rfl⟩
   | cons y M => simp at h1
 ·obtain ⟨xh, xb, xl⟩ := x
  obtain rfl : xh = 1 := by simpa using h1
  obtain ⟨h2, h3⟩ := h.each ⟨1, xb, xl⟩ ahZ
  have h2 : xl = cm (gh (dK 3 (cM cN)) (fO 3 (cM cN)) (jb cN 3 []) 1) := h2
  rw [wG] at h2
  have h4 : zf (mA yT) (· ∈ dK 3 (cM cN)) 1 (gh (dK 3 (cM cN)) (fO 3 (cM cN)) (jb cN 3 []) 1) xb := h3
  rw [wG] at h4
  have h5 : xb = [1] := CL h4.Fq fun x => by
   rw [h4.mem]
   constructor
   ·rintro ⟨a, b⟩
    have key : ∀ y, NN (mA yT) (· ∈ dK 3 (cM cN)) 1 [1] y → y = 1 := fun y hy => by
     induction hy with
     | hd => rfl
     | lt h _ => simpa using h
     | up _ h1 _ _ ih => exact absurd ih h1
    have := key _ b
    omega
   ·rintro rfl
    exact ⟨by omega, .hd⟩
  rw [h2, h5]
  rfl
def qT : Lp := ⟨1, [1], [1]⟩
theorem Jb : fV cG cN = [[⟨14, 10, 0, 0, 0⟩], [⟨25, 10, 0, 0, 4⟩, ⟨15, 10, 10, 0, 1⟩, ⟨15, 5, 10, 0, -4⟩, ⟨23, 5, 0, 0, -4⟩], [⟨1, 0, 0, 0, 0⟩]] := by
 have h := congrArg (List.map AB.code) Je
 exact h
theorem Px : dR cG cN = [true, true, false] ∨ dR cG cN = [false, true, false] := by
 unfold dR
 rw [Jb]
 decide
theorem Py : rO cG cN qT = [false, true, false] := by
 have hr : (dR cG cN).getD 1 false = true := by
  rcases Px with h | h <;> rw [h] <;> rfl
 have h1 : pB cN (dR cG cN) (jk cN) 1 [1] [1] 3 1 = true := lQ.2 ⟨by omega, ⟨by simp, hr, fun l hl => by
  obtain rfl : l = 1 := by simpa using hl
  exact .self 1, fun h => h.1 rfl⟩⟩
 have h0 : ∀ b, b ≠ 1 → pB cN (dR cG cN) (jk cN) 1 [1] [1] 3 b = false := fun b hb => by
  cases e : pB cN (dR cG cN) (jk cN) 1 [1] [1] 3 b with
  | false => rfl
  | true =>
   have := (lQ.1 e).2.1
   simp at this
   omega
 show (List.range 3).map (pB cN (dR cG cN) (jk cN) 1 [1] [1] 3) = _
 show [pB cN (dR cG cN) (jk cN) 1 [1] [1] 3 0, pB cN (dR cG cN) (jk cN) 1 [1] [1] 3 1, pB cN (dR cG cN) (jk cN) 1 [1] [1] 3 2] = _
 rw [h1, h0 0 ahU, h0 2 ahU]
theorem wH (r : Int) : cZ cG cN qT r = sN r (gl r [false, true, false] [false, true, false] [[⟨14, 10, 0, 0, 0⟩], [⟨25, 10, 0, 0, 4⟩, ⟨15, 10, 10, 0, 1⟩, ⟨15, 5, 10, 0, -4⟩, ⟨23, 5, 0, 0, -4⟩], [⟨1, 0, 0, 0, 0⟩]] 3) := by
 unfold cZ
 rw [Py, Jb]
 rfl
theorem Jc : cZ cG cN qT 10 = (4, true) := by rw [wH]; decide +kernel
theorem PK : cZ cG cN qT 11 = (0, false) := by rw [wH]; decide +kernel
theorem PJ : cZ cG cN qT 12 = (0, false) := by rw [wH]; decide +kernel
theorem PI : cZ cG cN qT 13 = (0, false) := by rw [wH]; decide +kernel
theorem PE : jh cG cN [true, true, true] [qT] [] = .inl [4] := by
 have h : oY cG cN [true, true, true] qT = (4, true) := by
  unfold oY
  rw [if_pos (by rfl)]
  show dL (dL (dL (dL (0, false) (cZ cG cN qT 10)) (cZ cG cN qT 11)) (cZ cG cN qT 12)) (cZ cG cN qT 13) = _
  rw [Jc, PK, PJ, PI]
  decide
 unfold jh
 rw [h]
 rfl
theorem Ja : fD 6 cG cN := by
 have key : ∀ a : Nat, a < 6 → a < 6 ∧ (bk (cG a)).2 = 0 := fun a ha => by
  obtain rfl | rfl | rfl | rfl | rfl | rfl : a = 0 ∨ a = 1 ∨ a = 2 ∨ a = 3 ∨ a = 4 ∨ a = 5 := by omega
  ·exact ⟨by omega, by rw [bs0]⟩
  ·exact ⟨by omega, by rw [bs1]⟩
  ·exact ⟨by omega, by rw [bs2]⟩
  ·exact ⟨by omega, by rw [bs3]⟩
  ·exact ⟨by omega, by rw [bs4]⟩
  ·exact ⟨by omega, by rw [bs5]⟩
 intro x hx a h1 h2
 simp only [cN, List.mem_cons, List.not_mem_nil, or_false] at hx
 rcases hx with rfl | rfl | rfl
 ·exact key a (by simp only at h2; omega)
 ·exact key a (by simp only at h2; omega)
 ·exact key a (by simp only at h2; omega)
theorem I5 : kQ cN.length qT = true := by decide
theorem PG : ko (gv 6 cG cN yT qT) gY = (10, 4, true) := by
 have h : gv 6 cG cN yT qT 10 = (4, true) := by
  unfold gv
  rw [if_pos ⟨yS, Ja, I5⟩, Jc]
 show (if (gv 6 cG cN yT qT 10).2 = true then (10, (gv 6 cG cN yT qT 10).1, true) else ko (gv 6 cG cN yT qT) [11, 12, 13]) = _
 rw [h]
 rfl
end
section
open Go.RowKit
theorem kA.Bi {w w' : World} {v : Value} {n : Nat} {cd : Nat → Int} (h : kA w v n cd) (hb : Below w.heap.size w w') : kA w' v n cd := by
 obtain ⟨A, cap, h1, h2, h3, h4⟩ := h.at_
 refine ⟨h.wd, A, cap, h1, h2, h3, fun h0 => ?_⟩
 obtain ⟨b, off, ha, hlt, hc⟩ := h4 h0
 exact ⟨b, off, ha, by have := hb.size; omega, fun i hi => (hb.cell (p := ⟨b, off + i, none⟩) hlt).trans (hc i hi)⟩
section
variable {w w' : World} {q B : Nat} {T : TypeId} (hk : w.heap[q]? = some (.cells #[.slice none 0 0, .slice none 0 0] T (0, 0))) (hw : ∀ p, p ≠ q → w'.heap[p]? = w.heap[p]?) (hs : w.heap.size ≤ w'.heap.size) (hqB : q < B)
include hk hw hs
include hqB
end
theorem lS.mem {n : Nat} : ∀ {l : List aU} {a z : Int}, lS n a l z → ∀ x ∈ l, ∃ e, NL n e x
 | [], a, z, _, x, hx => by cases hx
 | y :: l, a, z, h, x, hx => by
  rcases List.mem_cons.1 hx with rfl | hx
  ·exact ⟨a, h.1⟩
  ·exact lS.mem h.2 x hx
end
end Go.Proofs.YtlmgkipmfgijiaaGreatDoor
