/-
  What is proved here: parts lForm.
-/
import Derived.Test.YtlmgkipmfgijiaaGreatDoorYa
import Derived.Test.YtlmgkipmfgijiaaGreatDoorYs
import Derived.Maps.AppendAt
import Derived.Laws.AppendOwnNone
import Derived.Laws.OwnMore
import Derived.BigRegion
import Derived.Deep.Upon
import Derived.Deep.RegionHeld3
import Derived.Deep.DeepCutAuto
namespace Go.Proofs.YtlmgkipmfgijiaaGreatDoor
set_option linter.unusedVariables false
set_option linter.unusedSimpArgs false
set_option maxRecDepth 100000
set_option maxHeartbeats 8000000
section
open Go.RowKit
theorem wpList_append_row {P : Program} {w : World} {ops : Array Oper} {rest : List Oper} {o : Oper} {a : Act} {Q : Exit → Act → World → Prop} (hgd : o.guard = none) (s x : Operand) (t : TypeId)
    (ho : o.op = .call { callee := .builtin .append, args := #[s, x], argTypes := #[t, t] })
    (base : Nat) (e : TypeId) (i : TypeInfo) (z : Value) (size bytes : Nat) (ht : P.underlying t = some (.slice e)) (hi : P.info? e = some i) (hz : i.zero = some z)
    (hsize : i.size = size) (hby : i.bytes = bytes) (hzs : z.cells.size = size) (hsz : 0 < size)
    (v : Value) (n : Nat) (xs : List Value) (hs : a.eval s = v) (hown : w.ownsRow base e size v n xs)
    (base' : Nat) (u : Value) (m : Nat) (news : List Value) (hx : a.eval x = u) (hsrc : w.ownsRow base' e size u m news) (h1 : ∀ u ∈ news, u.oneCell' = true)
    (h63 : n + m ≤ maxLen) (hbytes : (n + m) * bytes ≤ 140737488355328) (hbase : base ≤ w.heap.size)
    (h : ∀ v' w', w'.ownsRow base e size v' (n + m) (xs ++ news) → w.grownBy w' v.ownBlock → (v'.ownBlock = v.ownBlock ∨ v'.ownBlock = some w.heap.size) → wpList P ops Q rest (a.put o.dst v') w') :
    wpList P ops Q (o :: rest) a w := by
  rcases hsrc.2 with ⟨rfl, rfl⟩ | ⟨g, cap, cur, rfl, _, hg, hn, _, hcs, htk⟩
  · have hn : news = [] := List.length_eq_zero_iff.1 (by simpa using hsrc.1)
    subst hn
    refine wpList_append_own_none hgd s x t ho base e i size ht hi v n xs hs hown hx ?_
    exact h v w (by simpa using hown) (World.grownBy.refl w _) (.inl rfl)
  · refine wpList_append_own_at w hgd s x t ho base e i z size bytes ht hi hz hsize hby hzs hsz v n xs hs hown ⟨g, 0, none⟩ m cap news hx hsrc.1 (fun j y hy => ?_) h1 h63 hbytes hbase (fun v' w' h2 h3 _ h5 => h v' w' h2 h3 h5)
    have hjl := (List.getElem?_eq_some_iff.1 hy).1
    have ea : (⟨g, 0, none⟩ : Addr).add j = ⟨g, j, none⟩ := by cases j <;> simp [Addr.add]
    have key := congrArg (fun x => x[j]?) htk
    rw [hsrc.1] at hjl
    simp only [List.getElem?_take, hjl, if_true] at key
    rw [ea]
    have := key.trans hy
    simpa [World.cell?, hg] using this
end
section
open Go.RowKit
theorem eB {w : World} {B g : Nat} {e : TypeId} {size : Nat} (h : w.heap[g]? = some (.cells #[] e (0, 0))) (hB : B ≤ g) : w.ownsRow B e size (.slice (some ⟨g, 0, none⟩) 0 0) 0 [] := by
 refine ⟨by simp, .inr ⟨g, 0, #[], rfl, hB, h, Nat.le_refl _, by unfold maxLen; omega, by simp, by simp⟩⟩
theorem gQ (w : World) (x y : Obj) : ((w.alloc x).alloc y).heap[w.heap.size]? = some x := by
 show ((w.heap.push x).push y)[w.heap.size]? = some x
 rw [Array.getElem?_push_lt (by rw [Array.size_push]; omega), Array.getElem_push_eq]
theorem gP (w : World) (x y : Obj) : ((w.alloc x).alloc y).heap[w.heap.size + 1]? = some y := by
 have h := heap_alloc_new (w.alloc x) y
 rw [World.size_alloc] at h
 exact h
theorem LQ {w W' : World} {row : Option Nat} {p : Nat} {a b c d : Value} {t : TypeId} (hg : w.drew.grownBy W' row) (hk : w.heap[p]? = some (.cells #[a, b, c, d] t (0, 0))) (hne : some p ≠ row) : ∀ j u, [a, b, c, d][j]? = some u → W'.cell? ((⟨p, 0, none⟩ : Addr).add j) = some u := by
 intro j u h
 have e : (⟨p, 0, none⟩ : Addr).add j = ⟨p, j, none⟩ := by cases j <;> simp [Addr.add]
 rw [e]
 have hk' : w.drew.heap[p]? = some (.cells #[a, b, c, d] t (0, 0)) := hk
 refine hg.cell (a := ⟨p, j, none⟩) ?_ hne
 unfold World.cell?
 rw [hk']
 simpa using h
theorem at4 {w : World} {p : Nat} {a b c d : Value} {t : TypeId} (hk : w.heap[p]? = some (.cells #[a, b, c, d] t (0, 0))) : ∀ j u, [a, b, c, d][j]? = some u → w.drew.cell? ((⟨p, 0, none⟩ : Addr).add j) = some u := by
 intro j u h
 have e : (⟨p, 0, none⟩ : Addr).add j = ⟨p, j, none⟩ := by cases j <;> simp [Addr.add]
 rw [e]
 have hk' : w.drew.heap[p]? = some (.cells #[a, b, c, d] t (0, 0)) := hk
 unfold World.cell?
 rw [hk']
 simpa using h
theorem mh {P : Program} {ops : Array Oper} {o : Oper} {a : Act} {w : World} {K : Act → World → Prop} {Q : Exit → Act → World → Prop} {E : Prop} (hgd : o.guard = none) (s x : Operand) (t : TypeId)
  (ho : o.op = .call { callee := .builtin .append, args := #[s, x], argTypes := #[t, t] })
  (e : TypeId) (i : TypeInfo) (ht : P.underlying t = some (.slice e)) (hi : P.info? e = some i)
  (base : Option Addr) (c : Nat) (hs : a.eval s = .slice base 0 c) (A : Option Addr) (c' : Nat) (hx : a.eval x = .slice A 0 c')
  (h : K (a.put o.dst (.slice base 0 c)) w) :
  if Region.wanted o (yielded ops a.tmps) = true then Oper.wp P o a w K Q else E := by
 have hw : Region.wanted o (yielded ops a.tmps) = true := by simp [Region.wanted, hgd]
 rw [if_pos hw]
 have hsrc : Src P i.size t (.slice A 0 c') 0 [] w := by
  cases A with
  | none => exact Src.ofNil _ ht c'
  | some ad => exact Src.ofSlice _ ht ad 0 c' [] agT (fun j u hu => by simp at hu) (fun u hu => by simp at hu)
 have hr := run_append_nothing (P := P) w t t o.type e i ht hi base 0 c (Nat.zero_le _) _ hsrc
 unfold Oper.wp
 simp [execOp, ho, resolve, invoke, builtin, hs, hx, hr, Result.andThen]
 exact h
theorem zu {w W : World} {b off m : Nat} {L : List Lp} {Q : List Qp} (h : SR w (some ⟨b, off, none⟩) m L Q) (h0 : 0 < m) (hb : Below w.heap.size w W) : ∀ j u, (j8 Q)[j]? = some u → W.cell? ((⟨b, off, none⟩ : Addr).add j) = some u := by
 intro j u hu
 obtain ⟨hlt, hc⟩ := h.cell b off rfl h0
 have e : (⟨b, off, none⟩ : Addr).add j = ⟨b, off + j, none⟩ := by cases j <;> simp [Addr.add]
 rw [e]
 exact (hb.cell (p := ⟨b, off + j, none⟩) hlt).trans (hc j u hu)
theorem Ep (AZ : qK) (cv ev : Value) (sh lk : Int) (n : Nat) (cd : Nat → Int) (aD : List jJ) (task : Int) (w : World) (T : gL w) (HW : jY w cv n cd) (HE : nj w ev aD) :
  Calls Tryz.prog 8 #[.agg #[cv, ev, .int .i64 sh, .int .i64 lk], .int .i64 task] w fun e w' => e = .returned (.bool true) ∧ Below w.heap.size w w' := by
 obtain ⟨CA, cV, hcv, hc1, hc2, -⟩ := HW.at_
 obtain ⟨EA, dP, hev, -, -, -⟩ := HE.at_
 subst hcv hev
 obtain ⟨m, hm⟩ : ∃ m, aD.length = m := ⟨_, rfl⟩
 rw [hm] at HE ⊢
 obtain ⟨V, hV⟩ : ∃ V, w.alloc (.cells #[.slice CA n cV, .slice EA m dP, .int .i64 sh, .int .i64 lk] 25) = V := ⟨_, rfl⟩
 obtain ⟨q2, hq2⟩ : ∃ q, w.heap.size = q := ⟨_, rfl⟩
 have bV : Below w.heap.size w V := hV ▸ (Below.refl _ _).alloc (Nat.le_refl _) _
 have kV : V.heap[q2]? = some (.cells #[.slice CA n cV, .slice EA m dP, .int .i64 sh, .int .i64 lk] 25 (0, 0)) := by rw [← hq2]; exact hV ▸ heap_alloc_new _ _
 have HAW := ahM (AO AZ V (T.below bV))
 have BV := ahM bV
 have KV := ahM kV
 have TV := ahM (T.below bV)
 have MN := ahM (HW.AL bV)
 have Qa := ahM (HE.below bV)
 have T8 := ahM (And.intro hc1 hc2)
 have LV := ahM (aB kV)
 clear bV kV T HW HE hc1 hc2 hm
 go_enter Tryz.func8, Tryz.ntmps8
 go_wp2_with fail
 refine HAW.out.mono ?_
 rintro e W1 ⟨rfl, hb1⟩
 have B1 := ahM hb1
 obtain ⟨a0, a1, a2, a3, a4⟩ := cJ ((hb1.block q2 LV.out).trans KV.out)
 have Vb := ahM (CS (.slice CA n cV) (.slice EA m dP) sh lk n cd aD W1 (MN.out.AL hb1) (Qa.out.below hb1))
 have wM := ahM (BV.out.trans (hb1.mono BV.out.size))
 clear hb1 hV hq2
 go_wp2_with fail
 refine Vb.out.mono ?_
 rintro e W2 ⟨rfl, hb2⟩
 obtain ⟨c0, c1, c2, c3, c4⟩ : W2.cell? ⟨q2, 0, none⟩ = _ ∧ W2.cell? ⟨q2, 1, none⟩ = _ ∧ W2.cell? ⟨q2, 2, none⟩ = _ ∧ W2.cell? ⟨q2, 3, none⟩ = _ ∧ q2 < W2.heap.size := ⟨(hb2.cell (p := ⟨q2, 0, none⟩) a4).trans a0, (hb2.cell (p := ⟨q2, 1, none⟩) a4).trans a1, (hb2.cell (p := ⟨q2, 2, none⟩) a4).trans a2, (hb2.cell (p := ⟨q2, 3, none⟩) a4).trans a3, by have := hb2.size; omega⟩
 have B2 := ahM (B1.out.trans (hb2.mono B1.out.size))
 have Zh := ahM (wM.out.trans (hb2.mono wM.out.size))
 clear hb2 a0 a1 a2 a3 a4
 by_cases hsm : uX n aD sh
 case neg =>
  obtain ⟨r, hr⟩ : ∃ r, oH n aD sh = r := ⟨_, rfl⟩
  have hr0 : r = 0 := by rw [← hr]; unfold oH; rw [if_neg hsm]
  rw [hr]
  subst hr0
  clear hr hsm
  go_wp2_with fail
  go_ret
  exact ⟨rfl, Zh.out⟩
 obtain ⟨r, hr⟩ : ∃ r, oH n aD sh = r := ⟨_, rfl⟩
 have hr0 : r = 1 := by rw [← hr]; unfold oH; rw [if_pos hsm]
 rw [hr]
 subst hr0
 have adz := hsm.1
 have S8 := ahM ((MN.out.AL B2.out).words agO)
 have IX := ahM (Cc AZ (.slice CA n cV) (.slice EA m dP) sh lk n cd aD task W2 (TV.out.below B2.out) S8.out agO (Qa.out.below B2.out))
 clear hr hsm
 go_wp2_with fail
 refine IX.out.mono ?_
 rintro e W3 ⟨h, hb3⟩
 have B23 := ahM hb3
 have Ui := ahM (Zh.out.trans (hb3.mono Zh.out.size))
 obtain ⟨d0, d1, d2, d3, d4⟩ : W3.cell? ⟨q2, 0, none⟩ = _ ∧ W3.cell? ⟨q2, 1, none⟩ = _ ∧ W3.cell? ⟨q2, 2, none⟩ = _ ∧ W3.cell? ⟨q2, 3, none⟩ = _ ∧ q2 < W3.heap.size := ⟨(hb3.cell (p := ⟨q2, 0, none⟩) c4).trans c0, (hb3.cell (p := ⟨q2, 1, none⟩) c4).trans c1, (hb3.cell (p := ⟨q2, 2, none⟩) c4).trans c2, (hb3.cell (p := ⟨q2, 3, none⟩) c4).trans c3, by have := hb3.size; omega⟩
 clear hb3 c0 c1 c2 c3 c4 IX
 rcases h with ⟨-, hy⟩ | ⟨-, hno⟩
 case inr =>
  obtain ⟨bv, pv, lv, rv, iv, dv, ⟨⟨_, _, _, rfl⟩, ⟨_, _, _, rfl⟩, ⟨_, _, _, rfl⟩, ⟨_, _, _, rfl⟩, ⟨_, _, _, rfl⟩, ⟨_, _, _, rfl⟩⟩, rfl⟩ := hno
  go_wp2_with fail
  go_ret
  exact ⟨rfl, (Ui.out.alloc Ui.out.size _).alloc (by rw [World.size_alloc]; have := Ui.out.size; omega) _⟩
 obtain ⟨k, en, G, P, D, L, s, GA, PA, LA, AY, IA, DA, gc, pc, lc, rc, ic, dn, dc, hk, hg, hA, rfl, hi1, hi2⟩ := hy.parts
 have HG := ahM hg
 have HA := ahM hA
 have HI := ahM (And.intro hi1 hi2)
 have RH := List.length_pos_iff.2 hg.val.ne
 have Xa := hg.len
 have tE := hA.loops.len hg.val
 obtain ⟨lc1, lc2⟩ : L.length ≤ lc ∧ lc ≤ 2 ^ 63 - 1 := by obtain ⟨A, c, e, h1, h2⟩ := hA.LJ.slice; cases e; exact ⟨h1, h2⟩
 obtain ⟨gc1, gc2⟩ : G.length ≤ gc ∧ gc ≤ 2 ^ 63 - 1 := by obtain ⟨A, c, e, h1, h2⟩ := hA.Ie.slice; cases e; exact ⟨h1, h2⟩
 obtain ⟨rc1, rc2⟩ : G.length ≤ rc ∧ rc ≤ 2 ^ 63 - 1 := by obtain ⟨A, c, e, h1, h2, _⟩ := hA.Bc; rw [hA.l1] at e h1; cases e; exact ⟨h1, dY h2⟩
 obtain ⟨gn, hgn⟩ : ∃ m, G.length = m := ⟨_, rfl⟩
 obtain ⟨ln, DG⟩ : ∃ m, L.length = m := ⟨_, rfl⟩
 obtain ⟨pn, xQ⟩ : ∃ m, P.length = m := ⟨_, rfl⟩
 obtain ⟨rb, ro, hRA, hrb, hrc⟩ : ∃ rb ro, AY = some ⟨rb, ro, none⟩ ∧ rb < W3.heap.size ∧ ∀ k, k < s.reach.length → W3.cell? ⟨rb, ro + k, none⟩ = some (.bool (s.reach.getD k false)) := by
  obtain ⟨A, c, e, h1, h2, h4⟩ := hA.Bc
  rw [hA.l1] at e
  cases e
  exact h4 (by rw [hA.l1]; exact RH)
 subst hRA
 have Lj := ahM hrc
 rw [hgn] at RH Xa tE gc1 rc1
 rw [DG] at tE lc1
 rw [hgn, DG, xQ]
 have eM := ahM hgn
 have EW := ahM DG
 have HPN := ahM xQ
 clear hk hg hA hy hgn DG xQ hi1 hi2 hrc
 go_upto_region 8 with fail
 obtain ⟨Y, hY, k5, k7, bY, sY⟩ := iU W3 #[.slice GA gn gc, .slice PA pn pc] #[.slice (some ⟨rb, ro, none⟩) gn rc, .slice IA gn ic, .slice DA dn dc] 31 59
 rw [hY]
 obtain ⟨q5, hq5⟩ : ∃ q, W3.heap.size = q := ⟨_, rfl⟩
 obtain ⟨q7, hq7⟩ : ∃ q, q5 + 1 = q := ⟨_, rfl⟩
 rw [hq5, hq7] at k7
 rw [hq5] at k5
 rw [hq5, hq7]
 have lq5 : q5 < Y.heap.size := aB k5
 have lq7 : q7 < Y.heap.size := aB k7
 have g0 : Y.cell? ⟨q5, 0, none⟩ = some (.slice GA gn gc) := by simp [World.cell?, k5]
 have g1 : Y.cell? ⟨q5, 1, none⟩ = some (.slice PA pn pc) := by simp [World.cell?, k5]
 have r0 : Y.cell? ⟨q7, 0, none⟩ = some (.slice (some ⟨rb, ro, none⟩) gn rc) := by simp [World.cell?, k7]
 have r1 : Y.cell? ⟨q7, 1, none⟩ = some (.slice IA gn ic) := by simp [World.cell?, k7]
 have r2 : Y.cell? ⟨q7, 2, none⟩ = some (.slice DA dn dc) := by simp [World.cell?, k7]
 obtain ⟨i0, i1, i2, i3, i4⟩ : Y.cell? ⟨q2, 0, none⟩ = _ ∧ Y.cell? ⟨q2, 1, none⟩ = _ ∧ Y.cell? ⟨q2, 2, none⟩ = _ ∧ Y.cell? ⟨q2, 3, none⟩ = _ ∧ q2 < Y.heap.size := ⟨(bY.cell (p := ⟨q2, 0, none⟩) d4).trans d0, (bY.cell (p := ⟨q2, 1, none⟩) d4).trans d1, (bY.cell (p := ⟨q2, 2, none⟩) d4).trans d2, (bY.cell (p := ⟨q2, 3, none⟩) d4).trans d3, by have := bY.size; omega⟩
 have BY := ahM (Ui.out.trans (bY.mono Ui.out.size))
 have A8 := ahM (B23.out.trans (bY.mono B23.out.size))
 have B3Y := ahM bY
 have SY := ahM (show rb < Y.heap.size by have := bY.size; omega)
 have K5 := ahM k5
 have K7 := ahM k7
 have Y1 := ahM (show fF Y (.slice GA gn gc) G from by have h := HA.out.Ie; rw [eM.out] at h; exact h.below bY)
 have HBP := ahM (show l9 Y (.slice PA pn pc) P from by have h := HA.out.lls; rw [HPN.out] at h; exact h.below bY)
 have qq := ahM (show sI Y (.slice LA ln lc) L from by have h := HA.out.LJ; rw [EW.out] at h; exact h.below bY)
 have Y0 := ahM (show s8 Y (.slice (some ⟨rb, ro, none⟩) gn rc) s.reach from by have h := HA.out.Bc; rw [eM.out] at h; exact h.below bY)
 clear hY k5 k7 bY sY hq5 hq7 d0 d1 d2 d3 d4
 go_upto_region 9 with fail
 go_cut [9] from 42 to 45 (fun a9 wx => ∃ RS Ph, a9 = .pointer (some ⟨Y.heap.size, 0, none⟩) ∧ wx = Y.alloc (.cells #[.slice RS (gn - 1) Ph, .slice IA gn ic, .slice DA dn dc] 59) ∧ s8 Y (.slice RS (gn - 1) Ph) (s.reach.drop 1))
 case first =>
  by_cases h1 : rc = 1
  ·obtain rfl : gn = 1 := by omega
   subst h1
   go_wp2_with fail
   go_meet
   refine ⟨_, _, rfl, rfl, ⟨_, _, by rw [List.length_drop, HA.out.l1, eM.out], by rw [List.length_drop, HA.out.l1, eM.out]; omega, by unfold maxLen; omega, fun h => ?_⟩⟩
   rw [List.length_drop, HA.out.l1, eM.out] at h
   omega
  ·have adn : 1 < rc := by omega
   have ZV : (1 : Int) < (rc : Int) := by omega
   go_wp2_with fail
   go_meet
   refine ⟨_, _, rfl, rfl, ?_⟩
   obtain ⟨A, c, e, x1, x2, x4⟩ := Y0.out
   rw [HA.out.l1, eM.out] at e x1
   cases e
   obtain ⟨b, o, e, x5, x6⟩ := x4 (by rw [HA.out.l1, eM.out]; omega)
   cases e
   refine ⟨_, _, by rw [List.length_drop, HA.out.l1, eM.out], by rw [List.length_drop, HA.out.l1, eM.out]; omega, by omega, fun h => ⟨rb, ro + 1, rfl, x5, fun j hj => ?_⟩⟩
   rw [List.length_drop, HA.out.l1, eM.out] at hj
   rw [show ro + 1 + j = ro + (j + 1) by omega, x6 (j + 1) (by rw [HA.out.l1, eM.out]; omega)]
   simp [List.getD, List.getElem?_drop, Nat.add_comm]
 obtain ⟨RS, Ph, rfl, hwc, hRS⟩ := hcut
 obtain ⟨Z, hZ⟩ : ∃ Z : World, Z = wc := ⟨_, rfl⟩
 subst hZ
 have bZ : Below Y.heap.size Y Z := hwc ▸ (Below.refl _ _).alloc (Nat.le_refl _) _
 have kZ : Z.heap[Y.heap.size]? = some (.cells #[.slice RS (gn - 1) Ph, .slice IA gn ic, .slice DA dn dc] 59 (0, 0)) := hwc ▸ heap_alloc_new _ _
 obtain ⟨q9, hq9⟩ : ∃ q, Y.heap.size = q := ⟨_, rfl⟩
 rw [hq9] at kZ ⊢
 have z0 : Z.cell? ⟨q9, 0, none⟩ = some (.slice RS (gn - 1) Ph) := by simp [World.cell?, kZ]
 have z1 : Z.cell? ⟨q9, 1, none⟩ = some (.slice IA gn ic) := by simp [World.cell?, kZ]
 have z2 : Z.cell? ⟨q9, 2, none⟩ = some (.slice DA dn dc) := by simp [World.cell?, kZ]
 have lz9 : q9 < Z.heap.size := aB kZ
 have x0 := (bZ.cell (p := ⟨q2, 0, none⟩) i4).trans i0
 have x1 := (bZ.cell (p := ⟨q2, 1, none⟩) i4).trans i1
 have x2 := (bZ.cell (p := ⟨q2, 2, none⟩) i4).trans i2
 have x3 := (bZ.cell (p := ⟨q2, 3, none⟩) i4).trans i3
 have x4 := (bZ.cell (p := ⟨q5, 0, none⟩) lq5).trans g0
 have x5 := (bZ.cell (p := ⟨q5, 1, none⟩) lq5).trans g1
 have szZ := bZ.size
 have lz2 : q2 < Z.heap.size := by omega
 have lz5 : q5 < Z.heap.size := by omega
 have BZ := ahM bZ
 have MP := ahM (And.intro HG.out.val (HG.out.XR ag5))
 have YT := ahM (show ∀ (W : World) (n' : Nat) (C' : Value) (L' : List Lp) (lv : Value) (rl : List Bool) (rv : Value), Below Y.heap.size Y W → Words W C' n' cd → sI W lv L' → L'.length ≤ 1000 → (∀ x ∈ L', x.la.length ≤ 10000) → s8 W rv rl → ¬ oy n' cd G P L' rl gn → Calls Tryz.prog 20 #[.agg #[C', .slice EA m dP, .int .i64 sh, .int .i64 lk], .agg #[.slice GA gn gc, .slice PA pn pc], lv, .agg #[rv, .slice IA gn ic, .slice DA dn dc]] W fun e w' => e = .returned (.tuple #[.slice none 0 0, .int .i64 (-1), .int .i64 3]) ∧ Below W.heap.size W w' from fun W n' C' L' lv rl rv hb hw hl h1 h2 hr hno =>
  (uN C' _ _ _ sh lk n' cd G P W ((TV.out.below (B2.out.trans (A8.out.mono B2.out.size))).below hb) hw (Y1.out.below hb) (HBP.out.below hb) ag5 (fun x hx => by have := HG.out.nx2 x hx; omega) L' lv hl agO (fun x hx => by have := h2 x hx; omega) rl rv _ _ hr gn ⟨IA, ic, rfl, by have := HI.out.1; rw [eM.out] at this; exact this, HI.out.2⟩ (fun _ => MP.out.2)).mono fun e w' ⟨h, hb'⟩ => ⟨h.no hno, hb'⟩)
 have Vq := ahM (YT.out Z n (.slice CA n cV) L (.slice LA ln lc) (s.reach.drop 1) (.slice RS (gn - 1) Ph) bZ (S8.out.below (A8.out.trans (bZ.mono A8.out.size))) (qq.out.below bZ) (by rw [EW.out]; omega) (HA.out.loops.zL ag5 HG.out.nx2) (hRS.below bZ) (fun h => by
  have := h.2.2.1
  rw [List.length_drop, HA.out.l1, eM.out] at this
  omega))
 clear hwc bZ kZ hq9 hRS
 go_upto_region 10 with fail
 go_wp2_with fail
 refine Vq.out.mono ?_
 rintro e W4 ⟨rfl, hb4⟩
 have B4 := ahM hb4
 have Zf := ahM (BZ.out.trans (hb4.mono BZ.out.size))
 have e0 := (hb4.cell (p := ⟨q2, 0, none⟩) lz2).trans x0
 have e1 := (hb4.cell (p := ⟨q2, 1, none⟩) lz2).trans x1
 have e2 := (hb4.cell (p := ⟨q2, 2, none⟩) lz2).trans x2
 have e3 := (hb4.cell (p := ⟨q2, 3, none⟩) lz2).trans x3
 have e4 := (hb4.cell (p := ⟨q5, 0, none⟩) lz5).trans x4
 have e5 := (hb4.cell (p := ⟨q5, 1, none⟩) lz5).trans x5
 have sz4 := hb4.size
 have l42 : q2 < W4.heap.size := by omega
 have l45 : q5 < W4.heap.size := by omega
 have T9 := ahM (qq.out.below Zf.out)
 clear hb4 Vq x0 x1 x2 x3 x4 x5 z0 z1 z2 i0 i1 i2 i3 g0 g1 r0 r1 r2
 have dgn : (gn : Int) ≤ 5000 := by omega
 go_upto_region 11 with fail
 go_cut [13] from 55 to 63 (fun a13 wx => ∃ BA bc, a13 = .slice BA (ln + 1) bc ∧ (ln + 1 ≤ bc ∧ bc ≤ 2 ^ 63 - 1) ∧ sI wx (.slice BA (ln + 1) bc) (L ++ [⟨(gn : Int), [], []⟩]) ∧ Below W4.heap.size W4 wx)
 case first =>
  obtain ⟨iL, rN, Jf, Kh, hL2⟩ := info_parts Gc
  obtain ⟨Q, hQ, hQA⟩ := T9.out.qof
  have HQ := ahM hQ
  clear hQ
  by_cases J5 : 0 < ln
  case neg =>
   obtain rfl : ln = 0 := by omega
   obtain rfl : Q = [] := List.length_eq_zero_iff.1 (by rw [HQ.out.len, HQ.out.lm])
   go_region_held3 (fun w' => (∀ b o, b < W4.heap.size → w'.cell? ⟨b, o, none⟩ = W4.cell? ⟨b, o, none⟩) ∧ Below W4.heap.size W4 w') ((refine zN ?_; repeat (first | (with_reducible assumption) | (with_reducible exact Below.refl _ _) | (with_reducible refine Below.drew ?_) | (with_reducible refine Below.alloc ?_ ahi _)))) (first | (refine mh rfl (.tmp 55) (.tmp 56) 35 rfl 46 iL Tryz.underlying35 rN _ 0 rfl _ _ rfl ?_) | (refine bI (w := World.drew (World.alloc (World.alloc W4 (.cells #[] 46)) _)) rfl (.tmp 57) (.tmp 62) 35 rfl W4.heap.size 46 iL _ 4 64 Tryz.underlying35 rN Jf Kh hL2 rfl agQ (.slice (some ⟨W4.heap.size, 0, none⟩) 0 0) 0 [] agW (World.ownsRow.drew (eB (size := 4) (gQ _ _ _) (Nat.le_refl _))) ⟨W4.heap.size + 1, 0, none⟩ 1 1 [.int .i64 (gn : Int), .slice none 0 0, .slice none 0 0, .int .i64 (-1)] agW rfl (at4 (gP _ _ _)) agR agS agO agU ?_; intro v2 W2 hown2 hgrow2 sG; have N0 : Below W4.heap.size W4 W2 := Below.trans (by (repeat (first | (with_reducible assumption) | (with_reducible exact Below.refl _ _) | (with_reducible refine Below.drew ?_) | (with_reducible refine Below.alloc ?_ ahi _)))) (eW (World.ownsRow.drew (eB (size := 4) (gQ _ _ _) (Nat.le_refl _))) hgrow2 (Nat.le_refl _) agU); clear hgrow2 sG) | (refine bI (w := World.drew (World.alloc (World.alloc W4 _) (.cells #[] 46))) rfl (.tmp 57) (.tmp 62) 35 rfl W4.heap.size 46 iL _ 4 64 Tryz.underlying35 rN Jf Kh hL2 rfl agQ (.slice (some ⟨W4.heap.size + 1, 0, none⟩) 0 0) 0 [] agW (World.ownsRow.drew (eB (size := 4) (gP _ _ _) (Nat.le_succ _))) ⟨W4.heap.size, 0, none⟩ 1 1 [.int .i64 (gn : Int), .slice none 0 0, .slice none 0 0, .int .i64 (-1)] agW rfl (at4 (gQ _ _ _)) agR agS agO agU ?_; intro v2 W2 hown2 hgrow2 sG; have N0 : Below W4.heap.size W4 W2 := Below.trans (by (repeat (first | (with_reducible assumption) | (with_reducible exact Below.refl _ _) | (with_reducible refine Below.drew ?_) | (with_reducible refine Below.alloc ?_ ahi _)))) (eW (World.ownsRow.drew (eB (size := 4) (gP _ _ _) (Nat.le_succ _))) hgrow2 (Nat.le_refl _) agU); clear hgrow2 sG))
   all_goals
    obtain ⟨BA, bc, rfl, hbc, PO⟩ := B9 HQ.out N0 hown2
    go_wp2_with fail
    go_meet
    exact ⟨BA, bc, rfl, hbc, PO, N0⟩
  obtain ⟨lb, lo, rfl⟩ := hQA J5
  go_region_held3 (fun w' => (∀ b o, b < W4.heap.size → w'.cell? ⟨b, o, none⟩ = W4.cell? ⟨b, o, none⟩) ∧ Below W4.heap.size W4 w') ((refine zN ?_; repeat (first | (with_reducible assumption) | (with_reducible exact Below.refl _ _) | (with_reducible refine Below.drew ?_) | (with_reducible refine Below.alloc ?_ agV _)))) (first | (refine bI (w := World.drew (World.alloc W4 (.cells #[] 46))) rfl (.tmp 55) (.tmp 56) 35 rfl W4.heap.size 46 iL _ 4 64 Tryz.underlying35 rN Jf Kh hL2 rfl agQ (.slice (some ⟨W4.heap.size, 0, none⟩) 0 0) 0 [] agW (World.ownsRow.drew (eB (size := 4) (heap_alloc_new _ _) (Nat.le_refl _))) ⟨lb, lo, none⟩ ln lc (j8 Q) agW (by rw [qz, HQ.out.len, HQ.out.lm]) (zu HQ.out J5 (by (repeat (first | (with_reducible assumption) | (with_reducible exact Below.refl _ _) | (with_reducible refine Below.drew ?_) | (with_reducible refine Below.alloc ?_ agV _))))) HQ.out.ones agS agO agU ?_; intro v' W' hown' hgrow Ij; have vH : Below W4.heap.size W4 W' := Below.trans (by (repeat (first | (with_reducible assumption) | (with_reducible exact Below.refl _ _) | (with_reducible refine Below.drew ?_) | (with_reducible refine Below.alloc ?_ agV _)))) (eW (World.ownsRow.drew (eB (size := 4) (heap_alloc_new _ _) (Nat.le_refl _))) hgrow (Nat.le_refl _) agU); clear hgrow Ij; rw [Nat.zero_add, List.nil_append] at hown'; obtain ⟨A1, c1, rfl⟩ := gR hown') | (refine bI (w := World.drew (World.alloc (World.alloc W4 (.cells #[] 46)) _)) rfl (.tmp 55) (.tmp 56) 35 rfl W4.heap.size 46 iL _ 4 64 Tryz.underlying35 rN Jf Kh hL2 rfl agQ (.slice (some ⟨W4.heap.size, 0, none⟩) 0 0) 0 [] agW (World.ownsRow.drew (eB (size := 4) (gQ _ _ _) (Nat.le_refl _))) ⟨lb, lo, none⟩ ln lc (j8 Q) agW (by rw [qz, HQ.out.len, HQ.out.lm]) (zu HQ.out J5 (by (repeat (first | (with_reducible assumption) | (with_reducible exact Below.refl _ _) | (with_reducible refine Below.drew ?_) | (with_reducible refine Below.alloc ?_ agV _))))) HQ.out.ones agS agO agU ?_; intro v' W' hown' hgrow Ij; have vH : Below W4.heap.size W4 W' := Below.trans (by (repeat (first | (with_reducible assumption) | (with_reducible exact Below.refl _ _) | (with_reducible refine Below.drew ?_) | (with_reducible refine Below.alloc ?_ agV _)))) (eW (World.ownsRow.drew (eB (size := 4) (gQ _ _ _) (Nat.le_refl _))) hgrow (Nat.le_refl _) agU); have WQ := LQ hgrow (gP _ _ _) ahw; clear hgrow Ij; rw [Nat.zero_add, List.nil_append] at hown'; obtain ⟨A1, c1, rfl⟩ := gR hown') | (refine bI (w := World.drew (World.alloc (World.alloc W4 _) (.cells #[] 46))) rfl (.tmp 55) (.tmp 56) 35 rfl W4.heap.size 46 iL _ 4 64 Tryz.underlying35 rN Jf Kh hL2 rfl agQ (.slice (some ⟨W4.heap.size + 1, 0, none⟩) 0 0) 0 [] agW (World.ownsRow.drew (eB (size := 4) (gP _ _ _) (Nat.le_succ _))) ⟨lb, lo, none⟩ ln lc (j8 Q) agW (by rw [qz, HQ.out.len, HQ.out.lm]) (zu HQ.out J5 (by (repeat (first | (with_reducible assumption) | (with_reducible exact Below.refl _ _) | (with_reducible refine Below.drew ?_) | (with_reducible refine Below.alloc ?_ agV _))))) HQ.out.ones agS agO agU ?_; intro v' W' hown' hgrow Ij; have vH : Below W4.heap.size W4 W' := Below.trans (by (repeat (first | (with_reducible assumption) | (with_reducible exact Below.refl _ _) | (with_reducible refine Below.drew ?_) | (with_reducible refine Below.alloc ?_ agV _)))) (eW (World.ownsRow.drew (eB (size := 4) (gP _ _ _) (Nat.le_succ _))) hgrow (Nat.le_refl _) agU); have WQ := LQ hgrow (gQ _ _ _) ahw; clear hgrow Ij; rw [Nat.zero_add, List.nil_append] at hown'; obtain ⟨A1, c1, rfl⟩ := gR hown') | (refine bI rfl (.tmp 57) (.tmp 62) 35 rfl W4.heap.size 46 iL _ 4 64 Tryz.underlying35 rN Jf Kh hL2 rfl agQ (.slice A1 ln c1) ln (j8 Q) agW (World.ownsRow.alloc hown' _) ⟨W'.heap.size, 0, none⟩ 1 1 [.int .i64 (gn : Int), .slice none 0 0, .slice none 0 0, .int .i64 (-1)] agW rfl (r7 _ _ _ _ _ _) agR agS agO ag7 ?_; intro v2 W2 hown2 hgrow2 sG; have N0 : Below W4.heap.size W4 W2 := Below.trans (by (repeat (first | (with_reducible assumption) | (with_reducible exact Below.refl _ _) | (with_reducible refine Below.drew ?_) | (with_reducible refine Below.alloc ?_ agV _)))) (eW (World.ownsRow.alloc hown' _) hgrow2 (Nat.le_refl _) ag7); clear hgrow2 sG) | (refine bI rfl (.tmp 57) (.tmp 62) 35 rfl W4.heap.size 46 iL _ 4 64 Tryz.underlying35 rN Jf Kh hL2 rfl agQ (.slice A1 ln c1) ln (j8 Q) agW hown' ⟨_, 0, none⟩ 1 1 [.int .i64 (gn : Int), .slice none 0 0, .slice none 0 0, .int .i64 (-1)] agW rfl WQ agR agS agO ag7 ?_; intro v2 W2 hown2 hgrow2 sG; have N0 : Below W4.heap.size W4 W2 := Below.trans (by (repeat (first | (with_reducible assumption) | (with_reducible exact Below.refl _ _) | (with_reducible refine Below.drew ?_) | (with_reducible refine Below.alloc ?_ agV _)))) (eW hown' hgrow2 (Nat.le_refl _) ag7); clear hgrow2 sG))
  all_goals
   obtain ⟨BA, bc, rfl, hbc, PO⟩ := B9 HQ.out N0 hown2
   go_wp2_with fail
   go_meet
   exact ⟨BA, bc, rfl, hbc, PO, N0⟩
 obtain ⟨BA, bc, rfl, ⟨adQ, adP⟩, PO, hb5⟩ := hcut
 obtain ⟨W5, hW5⟩ : ∃ Z : World, Z = wc := ⟨_, rfl⟩
 subst hW5
 have M7 := ahM (Zf.out.trans (hb5.mono Zf.out.size))
 have e0' := (hb5.cell (p := ⟨q2, 0, none⟩) l42).trans e0
 have e1' := (hb5.cell (p := ⟨q2, 1, none⟩) l42).trans e1
 have e2' := (hb5.cell (p := ⟨q2, 2, none⟩) l42).trans e2
 have e3' := (hb5.cell (p := ⟨q2, 3, none⟩) l42).trans e3
 have e4' := (hb5.cell (p := ⟨q5, 0, none⟩) l45).trans e4
 have e5' := (hb5.cell (p := ⟨q5, 1, none⟩) l45).trans e5
 have sz5 := hb5.size
 have l52 : q2 < W5.heap.size := by omega
 have l55 : q5 < W5.heap.size := by omega
 have Q4 := (M7.out.block q7 lq7).trans K7.out
 have f0 : W5.cell? ⟨q7, 0, none⟩ = some (.slice (some ⟨rb, ro, none⟩) gn rc) := by simp [World.cell?, Q4]
 have f1 : W5.cell? ⟨q7, 1, none⟩ = some (.slice IA gn ic) := by simp [World.cell?, Q4]
 have f2 : W5.cell? ⟨q7, 2, none⟩ = some (.slice DA dn dc) := by simp [World.cell?, Q4]
 have l57 : q7 < W5.heap.size := aB Q4
 have HF2 := ahM (YT.out W5 n (.slice CA n cV) _ _ s.reach (.slice (some ⟨rb, ro, none⟩) gn rc) M7.out (S8.out.below (A8.out.trans (M7.out.mono A8.out.size))) PO (by rw [List.length_append, EW.out, List.length_singleton]; omega) (fun x hx => by
  rcases List.mem_append.1 hx with hx | hx
  ·exact HA.out.loops.zL ag5 HG.out.nx2 x hx
  ·obtain rfl : x = ⟨(gn : Int), [], []⟩ := by simpa using hx
   exact Nat.zero_le _) (Y0.out.below M7.out) (fun h => by
  have h1 := h.2.2.2.2 ⟨(gn : Int), [], []⟩ agT
  obtain ⟨⟨hx, h2, h3⟩, _⟩ := rj h1
  rw [eM.out] at h3
  have h2 : (gn : Int) = (hx : Int) := h2
  omega))
 clear hb5 PO Q4 e0 e1 e2 e3 e4 e5 T9
 go_upto_region 12 with fail
 go_wp2_with fail
 refine HF2.out.mono ?_
 rintro e W6 ⟨rfl, hb6⟩
 have Ze := ahM (M7.out.trans (hb6.mono M7.out.size))
 have m0 := (hb6.cell (p := ⟨q2, 0, none⟩) l52).trans e0'
 have m1 := (hb6.cell (p := ⟨q2, 1, none⟩) l52).trans e1'
 have m2 := (hb6.cell (p := ⟨q2, 2, none⟩) l52).trans e2'
 have m3 := (hb6.cell (p := ⟨q2, 3, none⟩) l52).trans e3'
 have m4 := (hb6.cell (p := ⟨q5, 0, none⟩) l55).trans e4'
 have m5 := (hb6.cell (p := ⟨q5, 1, none⟩) l55).trans e5'
 have sz6 := hb6.size
 have l62 : q2 < W6.heap.size := by omega
 have l65 : q5 < W6.heap.size := by omega
 clear hb6 e0' e1' e2' e3' e4' e5' f0 f1 f2 HF2
 go_upto_region 14 with fail
 obtain ⟨U, hU⟩ : ∃ U, W6.alloc (.cells #[.slice CA n cV, .slice EA m dP, .int .i64 sh, .int .i64 lk] 25) = U := ⟨_, rfl⟩
 obtain ⟨q17, J2⟩ : ∃ q, W6.heap.size = q := ⟨_, rfl⟩
 have bU : Below W6.heap.size W6 U := hU ▸ (Below.refl _ _).alloc (Nat.le_refl _) _
 have kU : U.heap[q17]? = some (.cells #[.slice CA n cV, .slice EA m dP, .int .i64 sh, .int .i64 lk] 25 (0, 0)) := by rw [← J2]; exact hU ▸ heap_alloc_new _ _
 rw [hU, J2]
 have L8 : Y.heap.size ≤ q17 := by rw [← J2]; exact Ze.out.size
 obtain ⟨x, hx⟩ : ∃ x, G[gn - 1]? = some x := ⟨_, List.getElem?_eq_getElem ag5⟩
 have Ws := List.mem_of_getElem? hx
 have Us := HG.out.Wl x Ws
 have Re := HG.out.range
 obtain ⟨hM, qE⟩ : ∃ h : Nat, x.hi = (h : Int) + 1 := ⟨(x.hi - 1).toNat, by omega⟩
 have hMn : hM < n := by omega
 obtain ⟨gb, go, hGA, hgb, Xb⟩ : ∃ gb go, GA = some ⟨gb, go, none⟩ ∧ gb < Y.heap.size ∧ Y.cell? ⟨gb, go + (gn - 1) * 3 + 1, none⟩ = some (.int .i64 x.hi) := by
  obtain ⟨A, c, e, _, _, h4⟩ := Y1.out
  rw [eM.out] at e
  cases e
  obtain ⟨b, o, e, h5, h6⟩ := h4 ag5
  exact ⟨b, o, e, h5, (h6 (gn - 1) x hx).2.1⟩
 subst hGA
 have MW := ahM (show ¬ jK hM cd G from fun h => by
  have := (h x Ws hM agO agO).1
  omega)
 obtain ⟨gM, hgM⟩ : ∃ g, gn - 1 = g := ⟨_, rfl⟩
 rw [hgM, qE] at Xb
 have VH := ahM (Ze.out.trans (bU.mono Ze.out.size))
 have w0 : U.cell? ⟨q17, 0, none⟩ = some (.slice CA n cV) := by simp [World.cell?, kU]
 have wf : U.frozen? ⟨q17, 0, none⟩ = false := by simp [World.frozen?, kU]
 have lw : q17 < U.heap.size := aB kU
 have v0 := (bU.cell (p := ⟨q2, 0, none⟩) l62).trans m0
 have v1 := (bU.cell (p := ⟨q2, 1, none⟩) l62).trans m1
 have v2 := (bU.cell (p := ⟨q2, 2, none⟩) l62).trans m2
 have v3 := (bU.cell (p := ⟨q2, 3, none⟩) l62).trans m3
 have v4 := (bU.cell (p := ⟨q5, 0, none⟩) l65).trans m4
 have v5 := (bU.cell (p := ⟨q5, 1, none⟩) l65).trans m5
 have v6 : U.cell? ⟨gb, go + gM * 3 + 1, none⟩ = some (.int .i64 ((hM : Int) + 1)) := (VH.out.cell (p := ⟨gb, _, none⟩) hgb).trans Xb
 have lgb : gb < U.heap.size := by have := VH.out.size; omega
 have lu2 : q2 < U.heap.size := by have := bU.size; omega
 have lu5 : q5 < U.heap.size := by have := bU.size; omega
 have wg0 : (0 : Int) ≤ (gM : Int) := by omega
 have wg1 : (gM : Int) < (gn : Int) := by omega
 have wg2 : gM < gn := by omega
 have wh0 : (0 : Int) ≤ (hM : Int) := by omega
 have wh1 : (hM : Int) ≤ (cV : Int) := by have := T8.out.1; omega
 have wh2 : hM ≤ cV := by have := T8.out.1; omega
 have wh3 : (hM : Int) ≤ 1000 := by omega
 have P5 := ahM hMn
 have KU := ahM kU
 have Q17 := ahM L8
 have wr1 : IntKind.i64.wrap ((gn : Int) - 1) = (gM : Int) := by rw [show (gn : Int) - 1 = (gM : Int) by omega]; exact IntWalk.i64_in _ agO
 have wr2 : IntKind.i64.wrap ((hM : Int) + 1 - 1) = (hM : Int) := by rw [show (hM : Int) + 1 - 1 = (hM : Int) by omega]; exact IntWalk.i64_in _ agO
 clear hx Ws Us Re qE Xb hgM m0 m1 m2 m3 m4 m5 hU J2 kU bU hMn L8
 refine aI 14 agP agP ?_
 simp only [ahT, List.take_zero, ahU, List.drop_zero]
 repeat (go_big_quiet_step (fail))
 refine wpQuiet_nil ?_
 rintro _ ⟨x1, rfl⟩
 clear wr1 wr2
 go_upto_region 15 with fail
 obtain ⟨F, hF⟩ : ∃ F, x1.w.setCell ⟨q17, 0, none⟩ (.slice CA hM cV) = F := ⟨_, rfl⟩
 rw [hF]
 have kx : x1.w.heap[q17]? = _ := (x1.h.block q17 lw).trans KU.out
 have kF : F.heap[q17]? = some (.cells #[.slice CA hM cV, .slice EA m dP, .int .i64 sh, .int .i64 lk] 25 (0, 0)) := by
  rw [← hF, heap_setCell_same _ q17 0 _ _ _ kx]; rfl
 have bF : Below Y.heap.size Y F := by
  rw [← hF]
  exact (VH.out.trans (x1.h.mono VH.out.size)).setCell (p := ⟨q17, 0, none⟩) Q17.out _
 obtain ⟨p0, p1, p2, p3, p4⟩ := cJ kF
 have kI : Y.heap[q2]? = some (.cells #[.slice CA n cV, .slice EA m dP, .int .i64 sh, .int .i64 lk] 25 (0, 0)) := ((B2.out.trans (A8.out.mono B2.out.size)).block q2 LV.out).trans KV.out
 obtain ⟨o0, o1, o2, o3, o4⟩ := cJ ((bF.block q2 (aB kI)).trans kI)
 have Ur := (bF.block q5 lq5).trans K5.out
 have Q3 := (bF.block q7 lq7).trans K7.out
 have o5 : F.cell? ⟨q5, 0, none⟩ = some (.slice (some ⟨gb, go, none⟩) gn gc) := by simp [World.cell?, Ur]
 have o6 : F.cell? ⟨q5, 1, none⟩ = some (.slice PA pn pc) := by simp [World.cell?, Ur]
 have o7 : q5 < F.heap.size := aB Ur
 have f0 : F.cell? ⟨q7, 0, none⟩ = some (.slice (some ⟨rb, ro, none⟩) gn rc) := by simp [World.cell?, Q3]
 have f1 : F.cell? ⟨q7, 1, none⟩ = some (.slice IA gn ic) := by simp [World.cell?, Q3]
 have f2 : F.cell? ⟨q7, 2, none⟩ = some (.slice DA dn dc) := by simp [World.cell?, Q3]
 have f3 : q7 < F.heap.size := aB Q3
 have BF := ahM bF
 have HWF := ahM (show Words F (.slice CA hM cV) hM cd from by
  have h := (S8.out.below (A8.out.trans (bF.mono A8.out.size)))
  obtain ⟨A, c, e, h1, h2, h4⟩ := h.at_
  cases e
  refine ⟨by omega, fun i hi => h.wd i (by have := P5.out; omega), CA, cV, rfl, by omega, h2, fun h0 => ?_⟩
  obtain ⟨b, o, e, h5, h6⟩ := h4 (by have := P5.out; omega)
  exact ⟨b, o, e, h5, fun i hi => h6 i (by have := P5.out; omega)⟩)
 have TN := ahM (YT.out F hM (.slice CA hM cV) L (.slice LA ln lc) s.reach (.slice (some ⟨rb, ro, none⟩) gn rc) bF HWF.out (qq.out.below bF) (by rw [EW.out]; omega) (HA.out.loops.zL ag5 HG.out.nx2) (Y0.out.below bF) (fun h => MW.out h.2.1))
 clear hF kx kF bF kI Ur Q3 v0 v1 v2 v3 v4 v5 v6 w0 wf lw x1
 go_wp2_with fail
 refine TN.out.mono ?_
 rintro e W7 ⟨rfl, hb7⟩
 have B7 := ahM (BF.out.trans (hb7.mono BF.out.size))
 have FW7 := ahM hb7
 have s0 := (hb7.cell (p := ⟨q2, 0, none⟩) o4).trans o0
 have s1 := (hb7.cell (p := ⟨q2, 1, none⟩) o4).trans o1
 have s2 := (hb7.cell (p := ⟨q2, 2, none⟩) o4).trans o2
 have s3 := (hb7.cell (p := ⟨q2, 3, none⟩) o4).trans o3
 have sz7 := hb7.size
 have s4 : q2 < W7.heap.size := by omega
 have TY := ahM (TV.out.below (B2.out.trans (A8.out.mono B2.out.size)))
 have Jv := ahM (uL (.slice CA n cV) (.slice EA m dP) (.slice none 0 0) (.slice none 0 0) sh lk n cd [] [] W7 (TY.out.below B7.out) (S8.out.below (A8.out.trans (B7.out.mono A8.out.size))) ⟨none, 0, rfl, Nat.le_refl _, by unfold maxLen; omega, fun h => absurd h (Nat.lt_irrefl _)⟩ ⟨none, 0, rfl, Nat.le_refl _, by unfold maxLen; omega, fun h => absurd h (Nat.lt_irrefl _)⟩ agQ agT ⟨0, [], []⟩ 0 (.slice none 0 0) (.slice none 0 0) (jA _) (jA _) agQ (fun h => h.nil.elim) 10)
 rw [BS (fun h => h.1.nil)] at Jv
 clear hb7 o0 o1 o2 o3 f0 f1 f2 TN
 go_wp2_with fail
 refine Jv.out.mono ?_
 rintro e W8 ⟨rfl, hb8⟩
 have IY := ahM (FW7.out.trans (hb8.mono FW7.out.size))
 have t0 := (IY.out.cell (p := ⟨q17, 0, none⟩) p4).trans p0
 have t1 := (IY.out.cell (p := ⟨q17, 1, none⟩) p4).trans p1
 have t2 := (IY.out.cell (p := ⟨q17, 2, none⟩) p4).trans p2
 have t3 := (IY.out.cell (p := ⟨q17, 3, none⟩) p4).trans p3
 have t5 := (IY.out.cell (p := ⟨q5, 0, none⟩) o7).trans o5
 have t6 := (IY.out.cell (p := ⟨q5, 1, none⟩) o7).trans o6
 have sz8 := IY.out.size
 have t4 : q17 < W8.heap.size := by omega
 have t7 : q5 < W8.heap.size := by omega
 obtain ⟨X, hX, x8, x9, bX, sX⟩ := iU W8 #[.int .i64 0] #[.int .i64 0] 3 3
 obtain ⟨b8, Xj⟩ : ∃ b, W8.heap.size = b := ⟨_, rfl⟩
 rw [Xj] at x8 x9
 have hi1 : Ints X (.slice (some ⟨b8, 0, none⟩) 1 1) [0] := ⟨_, 1, rfl, Nat.le_refl _, by unfold maxLen; omega, fun _ => ⟨b8, 0, rfl, aB x8, fun i hi => by
  obtain rfl : i = 0 := by simpa using hi
  simp [World.cell?, x8]⟩⟩
 have hi2 : Ints X (.slice (some ⟨b8 + 1, 0, none⟩) 1 1) [0] := ⟨_, 1, rfl, Nat.le_refl _, by unfold maxLen; omega, fun _ => ⟨b8 + 1, 0, rfl, aB x9, fun i hi => by
  obtain rfl : i = 0 := by simpa using hi
  simp [World.cell?, x9]⟩⟩
 have SC : Below Y.heap.size Y X := BF.out.trans ((IY.out.trans (bX.mono IY.out.size)).mono BF.out.size)
 have yZ := ahM (pW (.slice CA hM cV) (.slice EA m dP) _ _ sh lk hM cd G P X (TY.out.below SC) (HWF.out.below (IY.out.trans (bX.mono IY.out.size))) (Y1.out.below SC) (HBP.out.below SC) ag5 (fun x hx => by have := HG.out.nx2 x hx; omega) ⟨0, [0], [0]⟩ (-1) _ _ hi1 hi2 agT (fun _ => MP.out.2))
 rw [Eb (fun r => by rw [BS (fun h => MW.out h.2)])] at yZ
 have BXW := ahM (BY.out.trans (SC.mono BY.out.size))
 clear hb8 hi1 hi2 x8 x9 bX sX SC Jv
 go_wp2_with fail
 refine yZ.out.mono ?_
 rintro e W9 ⟨he, hb9⟩
 obtain rfl : e = .returned (.tuple #[.int .i64 0, .int .i64 0, .bool false]) := he
 have BE := ahM (BXW.out.trans (hb9.mono BXW.out.size))
 clear hb9 hX yZ
 go_wp2_with fail
 go_ret
 exact ⟨rfl, BE.out⟩
end
end Go.Proofs.YtlmgkipmfgijiaaGreatDoor
