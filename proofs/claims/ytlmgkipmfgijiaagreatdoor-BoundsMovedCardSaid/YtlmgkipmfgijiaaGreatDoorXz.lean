/-
  What is proved here: parts lMv.
-/
import Derived.Test.YtlmgkipmfgijiaaGreatDoorXa
import Derived.Test.YtlmgkipmfgijiaaGreatDoorXw
import Derived.Test.YtlmgkipmfgijiaaGreatDoorXy
namespace Go.Proofs.YtlmgkipmfgijiaaGreatDoor
set_option linter.unusedVariables false
set_option linter.unusedSimpArgs false
set_option maxRecDepth 100000
set_option maxHeartbeats 8000000
section
open Go.RowKit
theorem aaY : encI ⟨1, 0, 0, 0, 0⟩ = (67108864, 0) := by decide +kernel
theorem aa8 : bk 67108864 = (⟨1, 0, 0, 0, 0⟩, 0) := by decide +kernel
theorem aam {P : Program} {w : World} {ops : Array Oper} {rest : List Oper} {o : Oper} {a : Act} {Q : Exit → Act → World → Prop} (hgd : o.guard = none) (s x : Operand) (t : TypeId)
  (ho : o.op = .call { callee := .builtin .append, args := #[s, x], argTypes := #[t, t] })
  (e : TypeId) (i : TypeInfo) (ht : P.underlying t = some (.slice e)) (hi : P.info? e = some i)
  (base : Option Addr) (m c : Nat) (hm : m ≤ c) (hs : a.eval s = .slice base m c) (A : Option Addr) (c' : Nat) (hx : a.eval x = .slice A 0 c')
  (h : wpList P ops Q rest (a.put o.dst (.slice base m c)) w) : wpList P ops Q (o :: rest) a w := by
 refine wpList_plain hgd fun K hK => ?_
 have hsrc : Src P i.size t (.slice A 0 c') 0 [] w := by
  cases A with
  | none => exact Src.ofNil _ ht c'
  | some ad => exact Src.ofSlice _ ht ad 0 c' [] ahZ (fun j u hu => by simp at hu) (fun u hu => by simp at hu)
 have hrun := run_append_nothing (P := P) w t t o.type e i ht hi base m c hm _ hsrc
 unfold Oper.wp
 simp [execOp, ho, resolve, invoke, builtin, hs, hx, hrun, Result.andThen]
 exact hK _ _ h
theorem aaP (av bv : Value) (L : List Int) (w : World) (HA : Ints w av L) (HB : Ints w bv L) :
  Calls Tryz.prog 21 #[av, bv] w fun e w' => e = .returned (.bool true) ∧ Below w.heap.size w w' := by
 obtain ⟨A, ac, rfl, ha1, ha2⟩ := HA.slice
 obtain ⟨B, bc, rfl, hb1, hb2⟩ := HB.slice
 have HAH := aiU HA
 have Kl := aiU HB
 obtain ⟨l, hL⟩ : ∃ l, L.length = l := ⟨_, rfl⟩
 have Ki := aiU hL
 have dlm : ((l : Int) != (l : Int)) = false := by simp
 rw [hL] at ha1 hb1 ⊢
 clear HA HB
 go_enter Tryz.func21, Tryz.ntmps21
 go_wp2_with fail
 go_loopw [5] (fun a5 wr => ∃ j : Nat, j ≤ l ∧ a5 = .int .i64 (j : Int) ∧ Below w.heap.size w wr) (fun a5 _ => l - (intOf a5).toNat)
 case atStart => exact ⟨0, by omega, rfl, Below.refl _ _⟩
 case round =>
  obtain ⟨j, hj, rfl, hb⟩ := hrel
  have HB := aiU hb
  clear hb
  by_cases hlt : j < l
  ·have dl : decide ((j : Int) < (l : Int)) = true := decide_eq_true ahU
   have dj : (j : Int) < (l : Int) := by omega
   obtain ⟨s, b1, o1, hs, rfl, h1, c1⟩ := Ints.at_ HAH.out HB.out (j := j) (by rw [Ki.out]; exact hlt)
   obtain ⟨s2, b2, o2, hs2, rfl, h2, c2⟩ := Ints.at_ Kl.out HB.out (j := j) (by rw [Ki.out]; exact hlt)
   rw [hs] at hs2
   cases hs2
   have l1 : b1 < wr.heap.size := by have := HB.out.size; omega
   have l2 : b2 < wr.heap.size := by have := HB.out.size; omega
   have dne : (s != s) = false := by simp
   clear hs
   go_wp2_with fail
   refine aj ahV ahV ?_
   repeat (go_big_quiet_step (fail))
   refine wpQuiet_nil ?_
   rintro _ ⟨x1, rfl⟩
   go_wp2_with fail
   go_roundw
   case rel => exact ⟨j + 1, by omega, by go_num, HB.out.trans (x1.h.mono HB.out.size)⟩
   case measure => simp [intOf]; omega
  ·obtain rfl : l = j := by omega
   have dl : decide ((l : Int) < (l : Int)) = false := by simp
   go_wp2_with fail
   go_ret
   exact ⟨rfl, HB.out⟩
theorem KpR.grown {w U w' w'' : World} {gb : Nat} {row : Option Nat} (h : KpR w U w' gb) (G : w'.grownBy w'' row) (hr : ∀ q, row = some q → U.heap.size ≤ q) (hw : w.heap.size ≤ U.heap.size) : KpR w U w'' gb :=
 ⟨h.aD.grown G h.aD.size (fun q hq => Nat.le_trans hw (hr q hq)), Nat.le_trans h.sz G.size, fun b h1 h2 => (G.block b (by have := h.sz; omega) (fun e => by have := hr b e.symm; omega)).trans (h.hp b h1 h2)⟩
theorem aao {w : World} {ops : Array Oper} {rest : List Oper} {o : Oper} {a : Act} {Q : Exit → Act → World → Prop} (hgd : o.guard = none) (s x : Operand)
  (ho : o.op = .call { callee := .builtin .append, args := #[s, x], argTypes := #[22, 22] }) (base : Nat) (v : Value) (k : Nat) (xs : List Value) (hs : a.eval s = v) (hown : w.ownsRow base 70 1 v k xs)
  (u : Value) (n : Nat) (cd : Nat → Int) (hx : a.eval x = u) (hsrc : kA w u n cd) (hkn : k + n ≤ 5000) (hbase : base ≤ w.heap.size)
  (h : ∀ v' w', w'.ownsRow base 70 1 v' (k + n) (xs ++ MH ((List.range n).map cd)) → w.grownBy w' v.ownBlock → wpList Tryz.prog ops Q rest (a.put o.dst v') w') : wpList Tryz.prog ops Q (o :: rest) a w := by
 obtain ⟨iU, hiU, hU0, hU1, yE⟩ := info_parts Sy
 obtain ⟨A, cap, rfl, h1, h2, hcd⟩ := hsrc.at_
 by_cases hn : n = 0
 ·subst hn
  obtain ⟨bs, c, rfl, hc⟩ : ∃ bs c, v = .slice bs k c ∧ k ≤ c := by
   rcases hown.2 with ⟨h3, h4⟩ | ⟨g, cap', cur, h3, _, _, h4, _⟩
   ·exact ⟨none, 0, by rw [h3, h4], by omega⟩
   ·exact ⟨_, cap', h3, h4⟩
  refine aam hgd s x 22 ho 70 iU Tryz.underlying22 hiU bs k c hc hs A cap hx ?_
  exact h _ w (by simpa [MH] using hown) (World.grownBy.refl w _)
 ·obtain ⟨cb, YN, rfl, hcb, hcc⟩ := hcd ahU
  refine wpList_append_own_at w hgd s x 22 ho base 70 iU (.int .u32 0) 1 4 Tryz.underlying22 hiU hU0 hU1 yE rfl ahW v k xs hs hown ⟨cb, YN, none⟩ n cap (MH ((List.range n).map cd)) hx (by simp [MH]) (fun j q hq => ?_) (aay _) ahY ahU hbase (fun v' w' h3 h4 _ _ => h v' w' h3 h4)
  have hj : j < n := by have := (List.getElem?_eq_some_iff.1 hq).1; simpa [MH] using this
  rw [aaA, hcc j hj, ← hq]
  simp [MH, List.getElem?_range hj]
theorem aa0 {w : World} {q k n : Nat} {nm : ByteArray} {st en da : Int} (h : w.heap[q]? = some (.cells #[.string (ByteArray.mk #[122, 122]), .int .i64 0, .int .i64 (k : Int), .int .i64 0, .string nm, .int .i64 (k : Int), .int .i64 ((k : Int) + (n : Int)), .int .i64 da] 75 (0, 0))) (hnm : nm.size ≤ maxLen) : nM w (.slice (some ⟨q, 0, none⟩) 2 2) (Fi (ByteArray.mk #[122, 122]) k n ⟨nm, st, en, da⟩) := by
 refine ⟨fun e he => ?_, ⟨_, 2, rfl, by simp [Fi], by unfold maxLen; omega, fun _ => ⟨q, 0, rfl, aB h, fun i e he => ?_⟩⟩⟩
 ·rcases (show e = _ ∨ e = _ by simpa [Fi] using he) with rfl | rfl
  ·show ((ByteArray.mk #[122, 122]) : ByteArray).size ≤ maxLen
   rw [show ((ByteArray.mk #[122, 122]) : ByteArray).size = 2 from rfl]
   unfold maxLen
   omega
  ·exact hnm
 ·match i, he with
  | 0, he =>
   cases he
   simp [World.cell?, h]
  | 1, he =>
   cases he
   simp [World.cell?, h]
theorem aa4 {w : World} {r : List Int ⊕ Int} {e : Ending} (h : aag w r e) : ∃ av at_ er L, e = .returned (.tuple #[av, .int .i64 at_, .int .i64 er]) ∧ Ints w av L ∧ (∀ w' e', aag w' r e' → ∃ bv, e' = .returned (.tuple #[bv, .int .i64 at_, .int .i64 er]) ∧ Ints w' bv L) := by
 cases r with
 | inl out =>
  obtain ⟨ov, h1, h2⟩ := h
  exact ⟨ov, -1, 0, out, h1, h2, fun w' e' ⟨ov', h3, h4⟩ => ⟨ov', h3, h4⟩⟩
 | inr q =>
  have nil : ∀ w : World, Ints w (.slice none 0 0) [] := fun w => ⟨none, 0, rfl, Nat.le_refl _, by unfold maxLen; omega, fun h => by simp at h⟩
  exact ⟨_, q, 16, [], h, nil w, fun w' e' h' => ⟨_, h', nil w'⟩⟩
theorem Vs.below {w w' : World} {cd : Nat → Int} {G : List aU} {P : List (List Int)} {bv pv lv rv iv dv : Value} {D : List Int} {L : List Lp} {s : AS} (h : Vs w cd G P bv pv lv rv iv dv D L s) (hb : Below w.heap.size w w') : Vs w' cd G P bv pv lv rv iv dv D L s :=
 ⟨h.Jk.below hb, h.lls.below hb, h.MN.below hb, h.tree, h.loops, h.ends, h.BP.below hb, h.bC, h.l1, h.l2, h.dvs⟩
theorem aaT (cv ev : Value) (sh lk : Int) {n : Nat} {cd : Nat → Int} {aC : List gR} {k : Nat} {en : gR} {G : List aU} {P : List (List Int)} {w : World} (T : gZ w) (HW : Words w cv n cd) (hn : n ≤ 1000) (g : kN n cd aC sh lk k en G P) {bv pv lv rv iv dv : Value} {D : List Int} {L : List Lp} {s : AS} (hA : Vs w cd G P bv pv lv rv iv dv D L s) :
  Calls Tryz.prog 20 #[.agg #[cv, ev, .int .i64 sh, .int .i64 lk], .agg #[bv, pv], lv, .agg #[rv, iv, dv]] w fun e w' => aag w' (jh cd G s.reach L []) e ∧ Below w.heap.size w w' := by
 have Yg := g.len
 have tV := hA.loops.len g.val
 exact (vp cv ev bv pv sh lk n cd G P w T HW hA.Jk hA.lls ahU (fun x hx => by have := g.nx2 x hx; omega) L lv hA.MN ahU (fun x hx => by have := hA.loops.Ah ahU g.nx2 x hx; omega) s.reach rv iv dv hA.BP G.length (by obtain ⟨A, cap, h1, h2, h3⟩ := hA.bC; rw [hA.l2] at h1 h2; exact ⟨A, cap, h1, h2, h3⟩) (fun _ => g.YY ahU)).mono fun e w' ⟨h, hb⟩ => ⟨h.yes ⟨g.val, g.II, hA.l1, rfl, g.ref ahU hA.loops⟩, hb⟩
def mvW (k n : Nat) (cd : Nat → Int) : List Int := List.replicate k 67108864 ++ (List.range n).map cd
theorem aa3 (k n : Nat) (cd : Nat → Int) : (mvW k n cd).length = k + n := by simp [mvW]
theorem aa9 {k n : Nat} {cd : Nat → Int} (hw : ∀ i, i < n → 0 ≤ cd i ∧ cd i < 4294967296) : ∀ x ∈ mvW k n cd, 0 ≤ x ∧ x < 4294967296 := fun x hx => by
 rcases List.mem_append.1 hx with h | h
 ·rw [(List.mem_replicate.1 h).2]
  omega
 ·obtain ⟨i, hi, rfl⟩ := List.mem_map.1 h
  exact hw i (List.mem_range.1 hi)
theorem aba {k n : Nat} {cd : Nat → Int} {e : gR} (hk : 1 ≤ k) (hkn : k + n ≤ 4096) (hst : e.st = 0) (hen : e.en = (n : Int)) : Fv k n cd (fun i => (mvW k n cd).getD i 0) e (ByteArray.mk #[122, 122]) := by
 refine ⟨fun a ha => ?_, fun a ha => ?_, ⟨by decide, by decide⟩, hk, hkn, hst, hen⟩
 ·show (mvW k n cd).getD (k + a) 0 = cd a
  unfold mvW
  rw [List.getD, List.getElem?_append_right ahZ]
  simp [ha]
 ·show bk ((mvW k n cd).getD a 0) = _
  have e1 : (mvW k n cd).getD a 0 = 67108864 := by
   unfold mvW
   rw [List.getD, List.getElem?_append_left (by simpa using ha)]
   simp [ha]
  rw [e1]
  exact aa8
theorem aaS (AZ : qW) (cv ev : Value) (sh lk : Int) (n : Nat) (cd : Nat → Int) (aC : List gR) (y : Int) (hy0 : 0 ≤ y) (hy1 : y < 256) (w : World) (T : gZ w) (HW : kA w cv n cd) (HE : nM w ev aC) :
  Calls Tryz.prog 7 #[.agg #[cv, ev, .int .i64 sh, .int .i64 lk], .int .u8 y] w fun e w' => e = .returned (.bool true) ∧ Below w.heap.size w w' := by
 obtain ⟨CA, cX, hcv, hc1, hc2, -⟩ := HW.at_
 obtain ⟨EA, dS, hev, he1, he2, -⟩ := HE.at_
 subst hcv hev
 obtain ⟨m, hm⟩ : ∃ m, aC.length = m := ⟨_, rfl⟩
 have HM := aiU hm
 have Kk := aiU HE
 rw [hm] at HE he1 ⊢
 obtain ⟨V, hV⟩ : ∃ V, w.alloc (.cells #[.slice CA n cX, .slice EA m dS, .int .i64 sh, .int .i64 lk] 25) = V := ⟨_, rfl⟩
 obtain ⟨q2, hq2⟩ : ∃ q, w.heap.size = q := ⟨_, rfl⟩
 have bV : Below w.heap.size w V := hV ▸ (Below.refl _ _).alloc (Nat.le_refl _) _
 have kV : V.heap[q2]? = some (.cells #[.slice CA n cX, .slice EA m dS, .int .i64 sh, .int .i64 lk] 25 (0, 0)) := by rw [← hq2]; exact hV ▸ heap_alloc_new _ _
 have HAW := aiU (Bj AZ V (T.below bV))
 have BV := aiU bV
 have KV := aiU kV
 have TW := aiU T
 have NP := aiU (HW.Bi bV)
 have Um := aiU HW
 have Rj := aiU (HE.below bV)
 have LV := aiU (aB kV)
 have ahB := ep hc2
 have ahy := ep he2
 clear bV kV T HW HE hm
 go_enter Tryz.func7, Tryz.ntmps7
 go_wp2_with fail
 refine HAW.out.mono ?_
 rintro e W1 ⟨rfl, hb1⟩
 obtain ⟨a0, a1, a2, a3, a4⟩ := cK ((hb1.block q2 LV.out).trans KV.out)
 have Wq := aiU (Dr (.slice CA n cX) (.slice EA m dS) sh lk n cd aC W1 (NP.out.Bi hb1) (Rj.out.below hb1))
 have xk := aiU (BV.out.trans (hb1.mono BV.out.size))
 clear hb1 hV hq2
 go_wp2_with fail
 refine Wq.out.mono ?_
 rintro e W2 ⟨rfl, hb2⟩
 obtain ⟨c0, c1, c2, c3, c4⟩ : W2.cell? ⟨q2, 0, none⟩ = _ ∧ W2.cell? ⟨q2, 1, none⟩ = _ ∧ W2.cell? ⟨q2, 2, none⟩ = _ ∧ W2.cell? ⟨q2, 3, none⟩ = _ ∧ q2 < W2.heap.size := ⟨(hb2.cell (p := ⟨q2, 0, none⟩) a4).trans a0, (hb2.cell (p := ⟨q2, 1, none⟩) a4).trans a1, (hb2.cell (p := ⟨q2, 2, none⟩) a4).trans a2, (hb2.cell (p := ⟨q2, 3, none⟩) a4).trans a3, by have := hb2.size; omega⟩
 have BW2 := aiU (xk.out.trans (hb2.mono xk.out.size))
 clear hb2 a0 a1 a2 a3 a4
 by_cases hsm : vE n aC sh
 case neg =>
  obtain ⟨r, hr⟩ : ∃ r, oV n aC sh = r := ⟨_, rfl⟩
  have hr0 : r = 0 := by rw [← hr]; unfold oV; rw [if_neg hsm]
  rw [hr]
  subst hr0
  clear hr hsm
  go_wp2_with fail
  go_ret
  exact ⟨rfl, BW2.out⟩
 obtain ⟨r, hr⟩ : ∃ r, oV n aC sh = r := ⟨_, rfl⟩
 have hr0 : r = 1 := by rw [← hr]; unfold oV; rw [if_pos hsm]
 rw [hr]
 subst hr0
 have aeD := hsm.1
 clear hr hsm
 by_cases hm1 : m = 1
 case neg =>
  have dm : ((m : Int) != 1) = true := by simp; omega
  clear hm1
  go_wp2_with fail
  go_ret
  exact ⟨rfl, BW2.out⟩
 subst hm1
 obtain ⟨e, he⟩ := List.length_eq_one_iff.1 HM.out
 subst he
 have HE1 := aiU (show nM w (.slice EA [e].length dS) [e] from Kk.out)
 obtain ⟨e', eb, aau, hee, rfl, ahx, x0, x1, x2, x3⟩ := HE1.out.cells BW2.out (j := 0) ahZ
 obtain rfl : e = e' := by simpa using hee
 clear hee
 obtain ⟨nm, st, en, da⟩ := e
 simp only [Nat.zero_mul, Nat.add_zero] at x0 x1 x2 x3
 have leb : eb < W2.heap.size := by have := BW2.out.size; omega
 obtain ⟨yn, rfl⟩ : ∃ yn : Nat, y = (yn : Int) := ⟨y.toNat, by omega⟩
 obtain ⟨k, hk⟩ : ∃ k : Nat, 1 + yn % 20 = k := ⟨_, rfl⟩
 have hk1 : 1 ≤ k := by omega
 have ahv : k ≤ 20 := by omega
 have w0 : IntKind.i64.wrap (yn : Int) = (yn : Int) := IntWalk.i64_in _ ahU
 have w1 : IntKind.i64.wrap ((yn : Int).tmod 20) = ((yn % 20 : Nat) : Int) := by
  rw [show (yn : Int).tmod 20 = ((yn % 20 : Nat) : Int) from rfl]
  exact IntWalk.i64_in _ ahU
 have w2 : (yn : Int).tmod 20 = ((yn % 20 : Nat) : Int) := rfl
 have w3 : IntKind.i64.wrap (1 + ((yn % 20 : Nat) : Int)) = (k : Int) := by
  rw [IntWalk.i64_in _ ahU]
  omega
 go_upto_region 6 with fail
 have hkk : (1 : Int) + (yn : Int) % 20 = (k : Int) := by omega
 rw [hkk]
 go_upto_region 7 with fail
 obtain ⟨b6, hb6⟩ : ∃ b, W2.heap.size = b := ⟨_, rfl⟩
 obtain ⟨X, hX⟩ : ∃ X, W2.alloc (.cells #[.string nm, .int .i64 st, .int .i64 en, .int .i64 da] 75) = X := ⟨_, rfl⟩
 (try rw [hX])
 have bX : Below W2.heap.size W2 X := hX ▸ (Below.refl _ _).alloc (Nat.le_refl _) _
 have kX : X.heap[b6]? = some (.cells #[.string nm, .int .i64 st, .int .i64 en, .int .i64 da] 75 (0, 0)) := by rw [← hb6, ← hX]; exact heap_alloc_new _ _
 (try rw [hb6])
 have sX : W2.heap.size < X.heap.size := by rw [← hX]; simp
 obtain ⟨e0, e1, e2, e3, e4⟩ := cK kX
 have d0 := (bX.cell (p := ⟨q2, 0, none⟩) c4).trans c0
 have d1 := (bX.cell (p := ⟨q2, 1, none⟩) c4).trans c1
 have d2 := (bX.cell (p := ⟨q2, 2, none⟩) c4).trans c2
 have d3 := (bX.cell (p := ⟨q2, 3, none⟩) c4).trans c3
 have d4 : q2 < X.heap.size := by omega
 have BX := aiU (BW2.out.trans (bX.mono BW2.out.size))
 have lH := aiU bX
 clear hX w0 w1 w2 w3 x0 x1 x2 x3 c0 c1 c2 c3 bX
 by_cases hst : st = 0
 case neg =>
  have dst : (st != 0) = true := by simpa using hst
  go_wp2_with fail
  go_ret
  exact ⟨rfl, BX.out⟩
 subst hst
 by_cases hen : en = (n : Int)
 case neg =>
  have den : (en != (n : Int)) = true := by simpa using hen
  go_wp2_with fail
  go_ret
  exact ⟨rfl, BX.out⟩
 subst hen
 have den : ((n : Int) != (n : Int)) = false := by simp
 go_upto_region 10 with fail
 obtain ⟨b7, hb7⟩ : ∃ b, X.heap.size = b := ⟨_, rfl⟩
 obtain ⟨Y, hY⟩ : ∃ Y, X.alloc (.cells #[.slice CA n cX, .slice (some ⟨eb, aau, none⟩) 1 dS, .int .i64 sh, .int .i64 lk] 25) = Y := ⟨_, rfl⟩
 (try rw [hY])
 have bY : Below X.heap.size X Y := hY ▸ (Below.refl _ _).alloc (Nat.le_refl _) _
 have kY : Y.heap[b7]? = some (.cells #[.slice CA n cX, .slice (some ⟨eb, aau, none⟩) 1 dS, .int .i64 sh, .int .i64 lk] 25 (0, 0)) := by rw [← hb7, ← hY]; exact heap_alloc_new _ _
 (try rw [hb7])
 have sY : X.heap.size < Y.heap.size := by rw [← hY]; simp
 have BY := aiU (BX.out.trans (bY.mono BX.out.size))
 have BH := aiU (lH.out.trans (bY.mono lH.out.size))
 have kY6 := (bY.block b6 (aB kX)).trans kX
 have KQ := aiU (show Y.cell? ⟨q2, 0, none⟩ = some (.slice CA n cX) ∧ Y.cell? ⟨q2, 1, none⟩ = some (.slice (some ⟨eb, aau, none⟩) 1 dS) ∧ Y.cell? ⟨q2, 2, none⟩ = some (.int .i64 sh) ∧ Y.cell? ⟨q2, 3, none⟩ = some (.int .i64 lk) from ⟨(bY.cell (p := ⟨q2, 0, none⟩) d4).trans d0, (bY.cell (p := ⟨q2, 1, none⟩) d4).trans d1, (bY.cell (p := ⟨q2, 2, none⟩) d4).trans d2, (bY.cell (p := ⟨q2, 3, none⟩) d4).trans d3⟩)
 have HEC := aiU (show Calls Tryz.prog 23 #[.agg #[.int .u8 1, .int .i64 0, .int .i64 0, .int .i64 0, .int .i64 0]] Y fun e w' => e = .returned (.tuple #[.int .u32 67108864, .int .i64 0]) ∧ Below Y.heap.size Y w' by
  have h := sA ⟨1, 0, 0, 0, 0⟩ (show (0 : Int) ≤ 1 by decide) Y (TW.out.below BY.out)
  rw [aaY] at h
  exact h)
 have KY := aiU kY
 have KY6 := aiU kY6
 have n26 : q2 < b6 := by omega
 have n67 : b6 < b7 := by omega
 have l7Y : b7 < Y.heap.size := aB kY
 clear hY bY kY kX kY6 e0 e1 e2 e3 e4 d0 d1 d2 d3 den
 go_upto_region 11 with (go_at_call 23; refine HEC.out.mono ?_; rintro e W3 ⟨rfl, hb3⟩)
 have k37 := (hb3.block b7 l7Y).trans KY.out
 have k36 := (hb3.block b6 ahU).trans KY6.out
 have v0 : W3.cell? ⟨b7, 0, none⟩ = some (.slice CA n cX) := by simp [World.cell?, k37]
 have v0f : W3.frozen? ⟨b7, 0, none⟩ = false := by simp [World.frozen?, k37]
 have l73 : b7 < W3.heap.size := aB k37
 go_upto_region 12 with fail
 obtain ⟨Z, hZ⟩ : ∃ Z, W3.setCell ⟨b7, 0, none⟩ (.slice none 0 0) = Z := ⟨_, rfl⟩
 (try rw [hZ])
 have kZ7 : Z.heap[b7]? = some (.cells #[.slice none 0 0, .slice (some ⟨eb, aau, none⟩) 1 dS, .int .i64 sh, .int .i64 lk] 25 (0, 0)) := by
  rw [← hZ, heap_setCell_same W3 b7 0 _ _ _ k37]
  rfl
 have N6 := aiU (BH.out.trans (hb3.mono BH.out.size))
 have BZ := aiU (show Below W2.heap.size W2 Z by
  rw [← hZ]
  exact N6.out.setCell (p := ⟨b7, 0, none⟩) (by show W2.heap.size ≤ b7; omega) _)
 have kZ6 : Z.heap[b6]? = some (.cells #[.string nm, .int .i64 0, .int .i64 (n : Int), .int .i64 da] 75 (0, 0)) := by
  rw [← hZ]
  exact (Below.heap_setCell _ _ _ _ (by show b6 ≠ b7; omega)).trans k36
 have KZ6 := aiU kZ6
 have KZ7 := aiU kZ7
 have ZQ := aiU (show Z.cell? ⟨q2, 0, none⟩ = some (.slice CA n cX) ∧ Z.cell? ⟨q2, 1, none⟩ = some (.slice (some ⟨eb, aau, none⟩) 1 dS) ∧ Z.cell? ⟨q2, 2, none⟩ = some (.int .i64 sh) ∧ Z.cell? ⟨q2, 3, none⟩ = some (.int .i64 lk) by
  have hq : ∀ o, Z.cell? ⟨q2, o, none⟩ = Y.cell? ⟨q2, o, none⟩ := fun o => by
   rw [← hZ]
   exact (World.cell?_of_block (Below.heap_setCell _ _ _ _ (by show q2 ≠ b7; omega))).trans (hb3.cell (p := ⟨q2, o, none⟩) (show q2 < Y.heap.size by omega))
  exact ⟨(hq 0).trans KQ.out.1, (hq 1).trans KQ.out.2.1, (hq 2).trans KQ.out.2.2.1, (hq 3).trans KQ.out.2.2.2⟩)
 have lZ7 : b7 < Z.heap.size := aB kZ7
 have lZ2 : W2.heap.size ≤ Z.heap.size := BZ.out.size
 obtain ⟨iU, hiU, hU0, hU1, yE⟩ := info_parts Sy
 clear hZ k37 k36 v0 v0f l73 hb3 kZ7 kZ6 KY KY6 N6 KQ HEC
 go_wp2_with fail
 go_loopw [62] (fun a62 wr => ∃ (j : Nat) (v : Value), j ≤ k ∧ a62 = .int .i64 (j : Int) ∧ wr.heap[b7]? = some (.cells #[v, .slice (some ⟨eb, aau, none⟩) 1 dS, .int .i64 sh, .int .i64 lk] 25 (0, 0)) ∧ wr.ownsRow Z.heap.size 70 1 v j (MH (List.replicate j 67108864)) ∧ KpR W2 Z wr b7) (fun a62 _ => k - (intOf a62).toNat)
 case atStart => exact ⟨0, .slice none 0 0, by omega, rfl, KZ7.out, World.ownsRow_nil _ _ _ _, KpR.start BZ.out⟩
 case round =>
  obtain ⟨j, v, hj, rfl, h7, hown, hkp⟩ := hrel
  obtain ⟨w8, hw8⟩ : ∃ w8 : World, w8 = wr := ⟨_, rfl⟩
  subst hw8
  have HO := aiU hown
  have HK := aiU hkp
  have K7 := aiU h7
  have s8 := hkp.sz
  obtain ⟨vA, dI, rfl⟩ : ∃ vA dI, v = .slice vA j dI := by
   rcases hown.2 with ⟨h, h'⟩ | ⟨g, cap', cur, h, _⟩
   ·exact ⟨_, _, by rw [h, h']⟩
   ·exact ⟨_, _, h⟩
  have UK := aiU (show some b7 ≠ Value.ownBlock (.slice vA j dI) from fun e' => by have := (HO.out.lt b7 e'.symm).1; omega)
  have c70 : w8.cell? ⟨b7, 0, none⟩ = some (.slice vA j dI) := by simp [World.cell?, h7]
  have f70 : w8.frozen? ⟨b7, 0, none⟩ = false := by simp [World.frozen?, h7]
  have l7 : b7 < w8.heap.size := aB h7
  clear hown hkp h7
  by_cases hlt : j < k
  ·have dl : decide ((j : Int) < (k : Int)) = true := decide_eq_true ahU
   go_upto_region 15 with (at_builtin; refine wpList_append_own_at _ rfl (.tmp 65) (.tmp 67) 22 rfl Z.heap.size 70 iU (.int .u32 0) 1 4 Tryz.underlying22 hiU hU0 hU1 yE rfl ahW (.slice vA j dI) j (MH (List.replicate j 67108864)) rfl (HO.out.alloc _) ⟨w8.heap.size, 0, none⟩ 1 1 [.int .u32 67108864] rfl rfl (cell_one_new _ _ _) ahX ahY ahU ah6 ?_; intro v' W' hown' hgrow _ j6; obtain ⟨g', cap', rfl⟩ := ownsRow_succ hown'; have hc1 := hgrow.cell (a := ⟨b7, 0, none⟩) (v := .slice vA j dI) ah8 UK.out; have hf1 : W'.frozen? ⟨b7, 0, none⟩ = false := (World.frozen?_of_block (hgrow.block b7 ah3 UK.out)).trans ah8)
   have N1 := aiU ((HK.out.below ((Below.refl w8.heap.size w8).alloc (Nat.le_refl _) (.cells #[.int .u32 67108864] 70))).grown hgrow (fun q hq => (HO.out.lt q hq).1) lZ2)
   have k1 : W'.heap[b7]? = some (.cells #[.slice vA j dI, .slice (some ⟨eb, aau, none⟩) 1 dS, .int .i64 sh, .int .i64 lk] 25 (0, 0)) := by
    rw [hgrow.block b7 ah6 UK.out, heap_alloc_old _ _ l7]
    exact K7.out
   have hg' : Z.heap.size ≤ g' := (hown'.lt g' rfl).1
   have HO1 := aiU (show (W'.setCell ⟨b7, 0, none⟩ (.slice (some ⟨g', 0, none⟩) (j + 1) cap')).ownsRow Z.heap.size 70 1 (.slice (some ⟨g', 0, none⟩) (j + 1) cap') (j + 1) (MH (List.replicate (j + 1) 67108864)) by
    refine World.ownsRow.kept (w := W') ?_ (aQ W' b7 0 _) (.inr (fun e' => absurd (show g' = b7 by simpa [Value.ownBlock] using e') ahU))
    rw [List.replicate_succ']
    simpa [MH] using hown')
   have K71 := aiU (show (W'.setCell ⟨b7, 0, none⟩ (.slice (some ⟨g', 0, none⟩) (j + 1) cap')).heap[b7]? = some (.cells #[.slice (some ⟨g', 0, none⟩) (j + 1) cap', .slice (some ⟨eb, aau, none⟩) 1 dS, .int .i64 sh, .int .i64 lk] 25 (0, 0)) by
    rw [heap_setCell_same W' b7 0 _ _ _ k1]
    rfl)
   have Ql := aiU (N1.out.set (show W2.heap.size ≤ b7 by omega) 0 (.slice (some ⟨g', 0, none⟩) (j + 1) cap'))
   clear hown' hgrow j6 hc1 hf1 k1
   go_wp2_with fail
   go_roundw
   case rel => exact ⟨j + 1, _, by omega, by go_num, K71.out, HO1.out, Ql.out⟩
   case measure => simp [intOf]; omega
  ·obtain rfl : k = j := by omega
   have dl : decide ((k : Int) < (k : Int)) = false := by simp
   have l28 : q2 < w8.heap.size := by omega
   have q20 := (HK.out.cell (b := q2) (o := 0) ahU ahU).trans ZQ.out.1
   have HWS := aiU (Um.out.Bi (BW2.out.trans (HK.out.aD.mono BW2.out.size)))
   go_upto_region 17 with (at_builtin; refine aao rfl (.tmp 72) (.tmp 74) rfl Z.heap.size (.slice vA k dI) k (MH (List.replicate k 67108864)) rfl HO.out (.slice CA n cX) n cd rfl HWS.out ahU ahU ?_; intro v' W' hown' hgrow; obtain ⟨gb, cp', rfl, hgb⟩ := aax hown' ahU; have hc1 := hgrow.cell (a := ⟨b7, 0, none⟩) (v := .slice vA k dI) c70 UK.out; have hf1 : W'.frozen? ⟨b7, 0, none⟩ = false := (World.frozen?_of_block (hgrow.block b7 l7 UK.out)).trans f70; have hl7 : b7 < W'.heap.size := Nat.lt_of_lt_of_le l7 hgrow.size)
   obtain ⟨U, hU⟩ : ∃ U, W'.setCell ⟨b7, 0, none⟩ (.slice (some ⟨gb, 0, none⟩) (k + n) cp') = U := ⟨_, rfl⟩
   (try rw [hU])
   have HKU := aiU (show KpR W2 Z U b7 by
    rw [← hU]
    exact ((HK.out.grown hgrow (fun q hq => (HO.out.lt q hq).1) lZ2).set (show W2.heap.size ≤ b7 by omega) 0 _))
   have Uu := aiU (show U.ownsRow Z.heap.size 70 1 (.slice (some ⟨gb, 0, none⟩) (k + n) cp') (k + n) (MH (mvW k n cd)) by
    rw [← hU]
    refine World.ownsRow.kept (w := W') ?_ (aQ W' b7 0 _) (.inr (fun e' => absurd (show gb = b7 by simpa [Value.ownBlock] using e') ahU))
    simpa [MH, mvW] using hown')
   have kU7 : U.heap[b7]? = some (.cells #[.slice (some ⟨gb, 0, none⟩) (k + n) cp', .slice (some ⟨eb, aau, none⟩) 1 dS, .int .i64 sh, .int .i64 lk] 25 (0, 0)) := by
    have k1 : W'.heap[b7]? = _ := (hgrow.block b7 l7 UK.out).trans K7.out
    rw [← hU, heap_setCell_same W' b7 0 _ _ _ k1]
    rfl
   have k6 : U.heap[b6]? = some (.cells #[.string nm, .int .i64 0, .int .i64 (n : Int), .int .i64 da] 75 (0, 0)) := (HKU.out.hp b6 ahU ahU).trans KZ6.out
   have m0 := (HKU.out.cell (b := q2) (o := 0) ahU ahU).trans ZQ.out.1
   have Ro := aiU HKU.out.aD
   have sU := HKU.out.sz
   have r2 : q2 < U.heap.size := by omega
   have r6 : b6 < U.heap.size := by omega
   have r7 : b7 < U.heap.size := by omega
   have g2 : q2 ≠ b6 := by omega
   have KU7 := aiU kU7
   have ZU := aiU (show ∀ o v, Z.cell? ⟨q2, o, none⟩ = some v → U.cell? ⟨q2, o, none⟩ = some v from fun o v h => (HKU.out.cell (b := q2) (o := o) ahU ahU).trans h)
   have w1 : IntKind.i64.wrap ((k : Int) + (n : Int)) = (k : Int) + (n : Int) := IntWalk.i64_in _ ahU
   clear hU hown' hgrow hc1 hf1 hl7 kU7 q20 c70 f70 l7 HK HO K7 HWS hlt hj
   refine wp_region_held_drew (S := fun w' => KpR W2 U w' b6) ahV ?_ (fun hHeld => ?_)
   ·exact (KpR.start Ro.out).drew
   have hk : KpR W2 U U.drew b6 := (KpR.start Ro.out).drew
   have hk6 : U.drew.heap[b6]? = some (.cells #[.string nm, .int .i64 0, .int .i64 (n : Int), .int .i64 da] 75 (0, 0)) := k6
   have HRD := aiU (show U.drew.ownsRow Z.heap.size 70 1 (.slice (some ⟨gb, 0, none⟩) (k + n) cp') (k + n) (MH (mvW k n cd)) from Uu.out)
   obtain ⟨D0, Pk⟩ : ∃ D, U.drew = D := ⟨_, rfl⟩
   rw [Pk] at hk hk6 HRD
   rw [Pk] at hHeld ⊢
   clear Pk
   refine wpAnyH_take (i := 0) (oi := _) (v := ?_) rfl ahV ahV ahV (fun _ _ _ h => h) (Or.inl ⟨by rfl, ?_⟩) hHeld ?_
   rotate_left
   ·intro w' hSw
    clear hSw
    go_simp
    (try with_reducible rfl)
   (try simp only [aiV, aiW, aiX, Act.put, aiY, aiZ, ai0])
   refine wpAnyH_take (i := 1) (oi := _) (v := ?_) rfl ahV ahV ahV (fun _ _ _ h => h) (Or.inl ⟨by rfl, ?_⟩) hHeld ?_
   rotate_left
   ·intro w' hSw
    clear hSw
    go_simp
    (try with_reducible rfl)
   (try simp only [aiV, aiW, aiX, Act.put, aiY, aiZ, ai0])
   refine wpAnyH_take (i := 2) (oi := _) (v := ?_) rfl ahV ahV ahV (fun _ _ _ h => h) (Or.inl ⟨by rfl, ?_⟩) hHeld ?_
   rotate_left
   ·intro w' hSw
    clear hSw
    go_simp
    (try with_reducible rfl)
   (try simp only [aiV, aiW, aiX, Act.put, aiY, aiZ, ai0])
   refine wpAnyH_take (i := 3) (oi := _) (v := ?_) rfl ahV ahV ahV (fun _ _ _ h => h) (Or.inl ⟨by rfl, ?_⟩) hHeld ?_
   rotate_left
   ·intro w' hSw
    have s0 := (hSw.cell (o := 0) r2 g2).trans m0
    have u2 := Nat.lt_of_lt_of_le r2 hSw.sz
    have u6 := Nat.lt_of_lt_of_le r6 hSw.sz
    clear hSw
    go_simp
    (try with_reducible rfl)
   (try simp only [aiV, aiW, aiX, Act.put, aiY, aiZ, ai0])
   refine wpAnyH_take (i := 4) (oi := _) (v := ?_) rfl ahV ahV ahV (fun _ _ _ h => h) (Or.inl ⟨by rfl, ?_⟩) hHeld ?_
   rotate_left
   ·intro w' hSw
    clear hSw
    go_simp
    (try with_reducible rfl)
   (try simp only [aiV, aiW, aiX, Act.put, aiY, aiZ, ai0])
   refine wpAnyH_take (i := 5) (oi := _) (v := ?_) rfl ahV ahV ahV (fun _ _ _ h => h) (Or.inl ⟨by rfl, ?_⟩) hHeld ?_
   rotate_left
   ·intro w' hSw
    clear hSw
    go_simp
    (try with_reducible rfl)
   (try simp only [aiV, aiW, aiX, Act.put, aiY, aiZ, ai0])
   refine wpAnyH_take (i := 6) (oi := _) (v := ?_) rfl ahV ahV ahV (fun _ _ _ h => h) (Or.inl ⟨by rfl, ?_⟩) hHeld ?_
   rotate_left
   ·intro w' hSw
    have s0 := (hSw.cell (o := 0) r2 g2).trans m0
    have u2 := Nat.lt_of_lt_of_le r2 hSw.sz
    have u6 := Nat.lt_of_lt_of_le r6 hSw.sz
    clear hSw
    go_simp
    (try with_reducible rfl)
   (try simp only [aiV, aiW, aiX, Act.put, aiY, aiZ, ai0])
   refine wpAnyH_ready (rs := [7]) ahV ahZ ?_
   refine AllReadyH.cons (o := _) rfl (fun K hK => ?_) AllReadyH.nil
   have c1 : D0.cell? ⟨b6, 1, none⟩ = some (.int .i64 0) := by simp [World.cell?, hk6]
   have c1f : D0.frozen? ⟨b6, 1, none⟩ = false := by simp [World.frozen?, hk6]
   have lg1 : b6 < D0.heap.size := aB hk6
   go_simp
   have hk := hk.set (show W2.heap.size ≤ b6 by omega) 1 (.int .i64 (k : Int))
   have hk6 := heap_setCell_same D0 b6 1 _ _ (.int .i64 (k : Int)) hk6
   have abf := aiU (HRD.out.kept (aQ D0 b6 1 (.int .i64 (k : Int))) (.inr (fun e' => absurd (show gb = b6 by simpa [Value.ownBlock] using e') ahU)))
   obtain ⟨D1, hD1⟩ : ∃ E, D0.setCell ⟨b6, 1, none⟩ (.int .i64 (k : Int)) = E := ⟨_, rfl⟩
   rw [hD1] at hk hk6 abf ⊢
   clear c1 c1f lg1 hD1 HRD
   refine hK.out _ _ hk (fun hHeld => ?_)
   clear hK K
   (try simp only [aiV, aiW, aiX, Act.put, aiY, aiZ, ai0])
   refine wpAnyH_take (i := 8) (oi := _) (v := ?_) rfl ahV ahV ahV (fun _ _ _ h => h) (Or.inl ⟨by rfl, ?_⟩) hHeld ?_
   rotate_left
   ·intro w' hSw
    have s0 := (hSw.cell (o := 0) r2 g2).trans m0
    have u2 := Nat.lt_of_lt_of_le r2 hSw.sz
    have u6 := Nat.lt_of_lt_of_le r6 hSw.sz
    clear hSw
    go_simp
    (try with_reducible rfl)
   (try simp only [aiV, aiW, aiX, Act.put, aiY, aiZ, ai0])
   refine wpAnyH_ready (rs := [9]) ahV ahZ ?_
   refine AllReadyH.cons (o := _) rfl (fun K hK => ?_) AllReadyH.nil
   have c1 : D1.cell? ⟨b6, 2, none⟩ = some (.int .i64 (n : Int)) := by simp [World.cell?, hk6]
   have c1f : D1.frozen? ⟨b6, 2, none⟩ = false := by simp [World.frozen?, hk6]
   have lg1 : b6 < D1.heap.size := aB hk6
   go_simp
   have hk := hk.set (show W2.heap.size ≤ b6 by omega) 2 (.int .i64 ((k : Int) + (n : Int)))
   have hk6 := heap_setCell_same D1 b6 2 _ _ (.int .i64 ((k : Int) + (n : Int))) hk6
   have abe := aiU (abf.out.kept (aQ D1 b6 2 (.int .i64 ((k : Int) + (n : Int)))) (.inr (fun e' => absurd (show gb = b6 by simpa [Value.ownBlock] using e') ahU)))
   obtain ⟨W10, aaI⟩ : ∃ E, D1.setCell ⟨b6, 2, none⟩ (.int .i64 ((k : Int) + (n : Int))) = E := ⟨_, rfl⟩
   rw [aaI] at hk hk6 abe ⊢
   have HKK := aiU hk
   have K6 := aiU (show W10.heap[b6]? = some (.cells #[.string nm, .int .i64 (k : Int), .int .i64 ((k : Int) + (n : Int)), .int .i64 da] 75 (0, 0)) from hk6)
   clear c1 c1f lg1 aaI abf hk6
   refine hK.out _ _ hk (fun hHeld => ?_)
   clear hK K
   (try simp only [aiV, aiW, aiX, Act.put, aiY, aiZ, ai0])
   refine wpAnyH_done ahV ?_ _
   clear hHeld hk
   have HKQ := HKK.out
   have k7 : W10.heap[b7]? = _ := (HKQ.hp b7 r7 ahU).trans KU7.out
   obtain ⟨e0, e1, e2, e3, e4⟩ := cK K6.out
   have u1 : W10.cell? ⟨b7, 1, none⟩ = some (.slice (some ⟨eb, aau, none⟩) 1 dS) := by simp [World.cell?, k7]
   have u1f : W10.frozen? ⟨b7, 1, none⟩ = false := by simp [World.frozen?, k7]
   have abn : b7 < W10.heap.size := aB k7
   go_upto_region 19 with fail
   obtain ⟨qe, hqe⟩ : ∃ q, W10.heap.size = q := ⟨_, rfl⟩
   obtain ⟨M, hM⟩ : ∃ M, (W10.setCell ⟨b7, 1, none⟩ (.slice (some ⟨W10.heap.size, 0, none⟩) 2 2)).alloc (.cells #[.string (ByteArray.mk #[122, 122]), .int .i64 0, .int .i64 (k : Int), .int .i64 0, .string nm, .int .i64 (k : Int), .int .i64 ((k : Int) + (n : Int)), .int .i64 da] 75) = M := ⟨_, rfl⟩
   (try rw [hM])
   have bM : Below W2.heap.size W2 M := by
    rw [← hM]
    exact (HKQ.aD.setCell (p := ⟨b7, 1, none⟩) (show W2.heap.size ≤ b7 by omega) _).alloc (by rw [World.size_setCell]; exact HKQ.aD.size) _
   have kM7 : M.heap[b7]? = some (.cells #[.slice (some ⟨gb, 0, none⟩) (k + n) cp', .slice (some ⟨qe, 0, none⟩) 2 2, .int .i64 sh, .int .i64 lk] 25 (0, 0)) := by
    rw [← hM, heap_alloc_old _ _ (by rw [World.size_setCell]; exact abn), heap_setCell_same W10 b7 1 _ _ _ k7, hqe]
    rfl
   have kMe : M.heap[qe]? = some (.cells #[.string (ByteArray.mk #[122, 122]), .int .i64 0, .int .i64 (k : Int), .int .i64 0, .string nm, .int .i64 (k : Int), .int .i64 ((k : Int) + (n : Int)), .int .i64 da] 75 (0, 0)) := by
    have h := heap_alloc_new (W10.setCell ⟨b7, 1, none⟩ (.slice (some ⟨W10.heap.size, 0, none⟩) 2 2)) (.cells #[.string (ByteArray.mk #[122, 122]), .int .i64 0, .int .i64 (k : Int), .int .i64 0, .string nm, .int .i64 (k : Int), .int .i64 ((k : Int) + (n : Int)), .int .i64 da] 75)
    rw [World.size_setCell, hM, hqe] at h
    exact h
   have HRM : M.ownsRow Z.heap.size 70 1 (.slice (some ⟨gb, 0, none⟩) (k + n) cp') (k + n) (MH (mvW k n cd)) := by
    rw [← hM]
    exact (abe.out.kept (aQ W10 b7 1 _) (.inr (fun e' => absurd (show gb = b7 by simpa [Value.ownBlock] using e') ahU))).alloc _
   have mq : ∀ o v, Z.cell? ⟨q2, o, none⟩ = some v → M.cell? ⟨q2, o, none⟩ = some v := fun o v h => by
    have h1 := ZU.out o v h
    have h2 := (HKQ.cell (b := q2) (o := o) r2 g2).trans h1
    rw [← hM]
    exact (World.cell?_of_block (heap_alloc_old _ _ (by rw [World.size_setCell]; exact Nat.lt_of_lt_of_le r2 HKQ.sz))).trans ((World.cell?_of_block (Below.heap_setCell _ _ _ _ (show q2 ≠ b7 by omega))).trans h2)
   have i0 := mq 0 _ ZQ.out.1
   have i1 := mq 1 _ ZQ.out.2.1
   have i2 := mq 2 _ ZQ.out.2.2.1
   have i3 := mq 3 _ ZQ.out.2.2.2
   have lM2 : q2 < M.heap.size := by have := bM.size; omega
   have BM := aiU (BW2.out.trans (bM.mono BW2.out.size))
   have TM := aiU (TW.out.below BM.out)
   have HW1 := aiU ((Um.out.Bi BM.out).words ahU)
   have BD := aiU (show nM M (.slice (some ⟨eb, aau, none⟩) 1 dS) [⟨nm, 0, (n : Int), da⟩] from HE1.out.below BM.out)
   have HW2 := aiU (show Words M (.slice (some ⟨gb, 0, none⟩) (k + n) cp') (k + n) (fun i => (mvW k n cd).getD i 0) by
    have hl := aa3 k n cd
    have h := DC (ws := mvW k n cd) (by rw [hl]; exact HRM) (by rw [hl]; omega) (aa9 Um.out.wd)
    rw [hl] at h
    exact h)
   have HE2 := aiU (show nM M (.slice (some ⟨qe, 0, none⟩) 2 2) (Fi (ByteArray.mk #[122, 122]) k n ⟨nm, 0, (n : Int), da⟩) from aa0 kMe (HE1.out.nm ⟨nm, 0, (n : Int), da⟩ ahZ))
   have MC := aiU (aba (cd := cd) (e := ⟨nm, 0, (n : Int), da⟩) hk1 (show k + n ≤ 4096 by omega) rfl rfl)
   obtain ⟨ce, hce⟩ : ∃ f : Nat → Int, (fun i => (mvW k n cd).getD i 0) = f := ⟨_, rfl⟩
   rw [hce] at HW2 MC
   have KM7 := aiU kM7
   have lM7 : b7 < M.heap.size := aB kM7
   have abz := aiU (CN AZ (.slice CA n cX) (.slice (some ⟨eb, aau, none⟩) 1 dS) sh lk n cd [⟨nm, 0, (n : Int), da⟩] 0 M TM.out HW1.out ahU BD.out)
   have aby := aiU (fun (W : World) (hb : Below M.heap.size M W) => CN AZ (.slice (some ⟨gb, 0, none⟩) (k + n) cp') (.slice (some ⟨qe, 0, none⟩) 2 2) sh lk (k + n) ce (Fi (ByteArray.mk #[122, 122]) k n ⟨nm, 0, (n : Int), da⟩) 1 W (TM.out.below hb) (HW2.out.below hb) ahU (HE2.out.below hb))
   clear hM bM kM7 kMe HRM mq hce e0 e1 e2 e3 e4 u1 u1f abn k7 k6 m0 HKQ HKK K6 abe ZU KU7 Uu HKU Ro ZQ w1
   go_wp2_with fail
   refine abz.out.mono ?_
   rintro e W12 ⟨h, aav⟩
   have j0 := (aav.cell (p := ⟨q2, 0, none⟩) lM2).trans i0
   have j1 := (aav.cell (p := ⟨q2, 1, none⟩) lM2).trans i1
   have j2 := (aav.cell (p := ⟨q2, 2, none⟩) lM2).trans i2
   have j3 := (aav.cell (p := ⟨q2, 3, none⟩) lM2).trans i3
   have aaQ := (aav.block b7 lM7).trans KM7.out
   have l12 : q2 < W12.heap.size := by have := aav.size; omega
   have B12 := aiU aav
   clear aav i0 i1 i2 i3 abz
   rcases h with ⟨hC, hy⟩ | ⟨hC, hno⟩
   case inr =>
    obtain ⟨bv, pv, lv, rv, iv, dv, ⟨⟨_, _, _, rfl⟩, ⟨_, _, _, rfl⟩, ⟨_, _, _, rfl⟩, ⟨_, _, _, rfl⟩, ⟨_, _, _, rfl⟩, ⟨_, _, _, rfl⟩⟩, rfl⟩ := hno
    go_upto_region 20 with fail
    obtain ⟨Y2, Ni, k5, k12, Mi, sY2⟩ := ji W12 #[.slice _ _ _, .slice _ _ _] #[.slice _ _ _, .slice _ _ _, .slice _ _ _] 31 59
    rw [Ni]
    obtain ⟨c0, c1, c2, c3, c4⟩ := cK ((Mi.block b7 (aB aaQ)).trans aaQ)
    have BY2 := aiU (B12.out.trans (Mi.mono B12.out.size))
    clear Ni k5 k12 sY2
    go_wp2_with fail
    refine (aby.out Y2 BY2.out).mono ?_
    rintro e W13 ⟨h2, aaC⟩
    rcases h2 with ⟨hC2, -⟩ | ⟨-, abW⟩
    ·exact absurd (MC.out.anz.1 hC2) hC
    obtain ⟨bv2, pv2, lv2, rv2, iv2, dv2, ⟨⟨_, _, _, rfl⟩, ⟨_, _, _, rfl⟩, ⟨_, _, _, rfl⟩, ⟨_, _, _, rfl⟩, ⟨_, _, _, rfl⟩, ⟨_, _, _, rfl⟩⟩, rfl⟩ := abW
    have B13 := BM.out.trans ((BY2.out.trans (aaC.mono BY2.out.size)).mono BM.out.size)
    go_wp2_with fail
    go_ret
    exact ⟨rfl, (B13.alloc B13.size _).alloc (by rw [World.size_alloc]; have := B13.size; omega) _⟩
   obtain ⟨k0, en0, G, P, D, L, s, GA, PA, LA, Bv, IA, DA, gc, pc, lc, rc, ic, dn, dc, hk0, hg, hA, rfl, -, -⟩ := hy.parts
   obtain rfl : k0 = 0 := by omega
   have abC := aiU hA
   have HG := aiU hg
   clear hk0 hy hA hg
   go_upto_region 20 with fail
   obtain ⟨b10, yC⟩ : ∃ b, W12.heap.size = b := ⟨_, rfl⟩
   obtain ⟨b12, aav⟩ : ∃ b, b10 + 1 = b := ⟨_, rfl⟩
   obtain ⟨Y2, Ni, k5, k12, Mi, sY2⟩ := ji W12 #[.slice GA G.length gc, .slice PA P.length pc] #[.slice Bv G.length rc, .slice IA G.length ic, .slice DA dn dc] 31 59
   rw [Ni]
   rw [yC, aav] at k12
   rw [yC] at k5
   (try rw [yC])
   (try rw [aav])
   obtain ⟨c0, c1, c2, c3, c4⟩ := cK ((Mi.block b7 (aB aaQ)).trans aaQ)
   have BY2 := aiU (B12.out.trans (Mi.mono B12.out.size))
   have zG := aiU (abC.out.below Mi)
   have KY7 := aiU ((Mi.block b7 (aB aaQ)).trans aaQ)
   have K5 := aiU k5
   have K12 := aiU k12
   have QY := aiU (show Y2.cell? ⟨q2, 0, none⟩ = some (.slice CA n cX) ∧ Y2.cell? ⟨q2, 1, none⟩ = some (.slice (some ⟨eb, aau, none⟩) 1 dS) ∧ Y2.cell? ⟨q2, 2, none⟩ = some (.int .i64 sh) ∧ Y2.cell? ⟨q2, 3, none⟩ = some (.int .i64 lk) from ⟨(Mi.cell (p := ⟨q2, 0, none⟩) l12).trans j0, (Mi.cell (p := ⟨q2, 1, none⟩) l12).trans j1, (Mi.cell (p := ⟨q2, 2, none⟩) l12).trans j2, (Mi.cell (p := ⟨q2, 3, none⟩) l12).trans j3⟩)
   have Sl : q2 < Y2.heap.size := by have := Mi.size; omega
   clear Ni k5 k12 sY2 Mi j0 j1 j2 j3 aaQ l12 abC
   go_wp2_with fail
   refine (aby.out Y2 BY2.out).mono ?_
   rintro e W13 ⟨h2, aaC⟩
   rcases h2 with ⟨-, hy2⟩ | ⟨hC2, -⟩
   case inr => exact absurd (MC.out.anz.2 hC) hC2
   obtain ⟨k1, en1, G', P', D', L', s', GA', PA', LA', RA2, IA', DA', gc', pc', lc', rc', ic', dn', dc', abX, hg', hA', rfl, -, -⟩ := hy2.parts
   obtain rfl : k1 = 1 := by omega
   have HFE := aiU (MC.out.find HG.out hg' zG.out.loops hA'.loops zG.out.ends hA'.ends)
   have abB := aiU hA'
   have MA := aiU hg'
   have abg := aiU aaC
   clear abX hy2 hA' hg' aaC
   go_upto_region 21 with fail
   obtain ⟨b14, O8⟩ : ∃ b, W13.heap.size = b := ⟨_, rfl⟩
   obtain ⟨b16, aaR⟩ : ∃ b, b14 + 1 = b := ⟨_, rfl⟩
   obtain ⟨Y3, wh, k14, k16, bY3, sY3⟩ := ji W13 #[.slice GA' G'.length gc', .slice PA' P'.length pc'] #[.slice RA2 G'.length rc', .slice IA' G'.length ic', .slice DA' dn' dc'] 31 59
   rw [wh]
   rw [O8, aaR] at k16
   rw [O8] at k14
   (try rw [O8])
   (try rw [aaR])
   have b23 : Below Y2.heap.size Y2 Y3 := abg.out.trans (bY3.mono abg.out.size)
   have BY3 := aiU (BY2.out.trans (b23.mono BY2.out.size))
   have HA3 := aiU (zG.out.below b23)
   have Vl := aiU (abB.out.below bY3)
   have o5 := (b23.block b10 (aB K5.out)).trans K5.out
   have o12 := (b23.block b12 (aB K12.out)).trans K12.out
   have o7 := (b23.block b7 (aB KY7.out)).trans KY7.out
   have z0 := (b23.cell (p := ⟨q2, 0, none⟩) Sl).trans QY.out.1
   have z1 := (b23.cell (p := ⟨q2, 1, none⟩) Sl).trans QY.out.2.1
   have z2 := (b23.cell (p := ⟨q2, 2, none⟩) Sl).trans QY.out.2.2.1
   have z3 := (b23.cell (p := ⟨q2, 3, none⟩) Sl).trans QY.out.2.2.2
   have Xu : q2 < Y3.heap.size := by have := b23.size; omega
   have p0 : Y3.cell? ⟨b10, 0, none⟩ = some (.slice GA G.length gc) := by simp [World.cell?, o5]
   have p1 : Y3.cell? ⟨b10, 1, none⟩ = some (.slice PA P.length pc) := by simp [World.cell?, o5]
   have r0 : Y3.cell? ⟨b12, 0, none⟩ = some (.slice Bv G.length rc) := by simp [World.cell?, o12]
   have r1 : Y3.cell? ⟨b12, 1, none⟩ = some (.slice IA G.length ic) := by simp [World.cell?, o12]
   have r2 : Y3.cell? ⟨b12, 2, none⟩ = some (.slice DA dn dc) := by simp [World.cell?, o12]
   have t10 : b10 < Y3.heap.size := aB o5
   have t12 : b12 < Y3.heap.size := aB o12
   have O7 := aiU o7
   have K14 := aiU k14
   have K16 := aiU k16
   clear wh k14 k16 sY3 bY3 b23 abB abg o5 o12 o7 c0 c1 c2 c3 c4 O8 aaR yC aav
   go_wp2_with fail
   refine (aaT (.slice CA n cX) (.slice (some ⟨eb, aau, none⟩) 1 dS) sh lk (TM.out.below BY3.out) (HW1.out.below BY3.out) ahU HG.out HA3.out).mono ?_
   rintro e W15 ⟨hv, aar⟩
   obtain ⟨av, at_, er, LL, rfl, hIa, hnext⟩ := aa4 hv
   obtain ⟨v0, v1, v2, v3, v4⟩ := cK ((aar.block b7 (aB O7.out)).trans O7.out)
   have o14 := (aar.block b14 (aB K14.out)).trans K14.out
   have o16 := (aar.block b16 (aB K16.out)).trans K16.out
   have p0' : W15.cell? ⟨b14, 0, none⟩ = some (.slice GA' G'.length gc') := by simp [World.cell?, o14]
   have p1' : W15.cell? ⟨b14, 1, none⟩ = some (.slice PA' P'.length pc') := by simp [World.cell?, o14]
   have r0' : W15.cell? ⟨b16, 0, none⟩ = some (.slice RA2 G'.length rc') := by simp [World.cell?, o16]
   have r1' : W15.cell? ⟨b16, 1, none⟩ = some (.slice IA' G'.length ic') := by simp [World.cell?, o16]
   have r2' : W15.cell? ⟨b16, 2, none⟩ = some (.slice DA' dn' dc') := by simp [World.cell?, o16]
   have t14 : b14 < W15.heap.size := aB o14
   have t16 : b16 < W15.heap.size := aB o16
   have B15 := aiU (BY3.out.trans (aar.mono BY3.out.size))
   have HA5 := aiU (Vl.out.below aar)
   have HIA := aiU hIa
   have mY := aiU hnext
   have der : (er == er) = true := by simp
   have dax : (at_ == at_) = true := by simp
   obtain ⟨aA, ajm, rfl, -, -⟩ := hIa.slice
   clear aar hv hIa hnext o14 o16 p0 p1 r0 r1 r2 z0 z1 z2 z3
   go_wp2_with fail
   refine (aaT (.slice (some ⟨gb, 0, none⟩) (k + n) cp') (.slice (some ⟨qe, 0, none⟩) 2 2) sh lk (TM.out.below B15.out) (HW2.out.below B15.out) ahU MA.out HA5.out).mono ?_
   rintro e W16 ⟨hv2, aaR⟩
   rw [HFE.out] at hv2
   obtain ⟨bv2, rfl, hIb⟩ := mY.out _ _ hv2
   have uj := aiU (aaP _ bv2 LL W16 (HIA.out.below aaR) hIb)
   have B16 := aiU (BM.out.trans ((B15.out.trans (aaR.mono B15.out.size)).mono BM.out.size))
   clear hv2 hIb aaR
   go_wp2_with (go_at_call 21; refine uj.out.mono ?_; rintro e W17 ⟨rfl, H7⟩)
   go_ret
   exact ⟨rfl, B16.out.trans (H7.mono B16.out.size)⟩
end
end Go.Proofs.YtlmgkipmfgijiaaGreatDoor
