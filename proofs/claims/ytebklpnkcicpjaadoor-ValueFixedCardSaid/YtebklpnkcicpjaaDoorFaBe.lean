/-
 What is proved here: what Before returns.
-/
import Derived.Test.YtebklpnkcicpjaaDoorFaBf
import Derived.Test.YtebklpnkcicpjaaDoorFaCb
namespace Go.Proofs.YtebklpnkcicpjaaDoor
open Go.RowKit
set_option linter.unusedVariables false
set_option linter.unusedSimpArgs false

def ResIn (w : World) (rv iv : Value) (rl : List Bool) (il : List RG) : Prop :=
 (∃ A cap, rv = .slice A rl.length cap ∧ rl.length ≤ cap ∧ cap ≤ maxLen ∧ (0 < rl.length → ∃ q off, A = some ⟨q, off, none⟩ ∧ q < w.heap.size ∧ ∀ k, k < rl.length → w.cell? ⟨q, off + k, none⟩ = some (.bool (rl.getD k false)))) ∧
 (∃ A cap, iv = .slice A il.length cap ∧ il.length ≤ cap ∧ cap ≤ maxLen ∧ (0 < il.length → ∃ q off, A = some ⟨q, off, none⟩ ∧ q < w.heap.size ∧ ∀ k, k < il.length → w.rangeAt q (off + k * 32) (cellsR (il.getD k []))))
theorem ResIn.below {w w' : World} {rv iv : Value} {rl : List Bool} {il : List RG} (h : ResIn w rv iv rl il) (hb : Below w.heap.size w w') : ResIn w' rv iv rl il := by
 obtain ⟨⟨A, cap, e1, e2, e3, e4⟩, ⟨A', cap', f1, f2, f3, f4⟩⟩ := h
 refine ⟨⟨A, cap, e1, e2, e3, fun h0 => ?_⟩, ⟨A', cap', f1, f2, f3, fun h0 => ?_⟩⟩
 ·obtain ⟨q, off, ha, hq, hc⟩ := e4 h0
  exact ⟨q, off, ha, by have := hb.size; omega, fun k hk => (hb.cell (p := ⟨q, off + k, none⟩) hq).trans (hc k hk)⟩
 ·obtain ⟨q, off, ha, hq, hc⟩ := f4 h0
  exact ⟨q, off, ha, by have := hb.size; omega, fun k hk j v hv => (hb.cell (p := ⟨q, off + k * 32 + j, none⟩) hq).trans (hc k hk j v hv)⟩
def codeFrom (cd : Nat → Int) (lo : Int) (m : Nat) : List Ins := (List.range m).map fun i : Nat => insAt cd (lo + (i : Int))
theorem codeFrom_succ (cd : Nat → Int) (lo : Int) (m : Nat) : codeFrom cd lo (m + 1) = codeFrom cd lo m ++ [insAt cd (lo + m)] := by
 unfold codeFrom
 rw [List.range_succ, List.map_append]
 rfl
theorem codeFrom_add (cd : Nat → Int) (lo : Int) (a : Nat) : ∀ b, codeFrom cd lo (a + b) = codeFrom cd lo a ++ codeFrom cd (lo + a) b
 | 0 => by simp [codeFrom]
 | b + 1 => by
  rw [← Nat.add_assoc, codeFrom_succ, codeFrom_add cd lo a b, codeFrom_succ, List.append_assoc]
  congr 4
  omega
theorem runR_append : ∀ (l l' : List Ins) (r : RG), runR (l ++ l') r = match runR l r with | none => none | some r' => runR l' r'
 | [], l', r => rfl
 | i :: l, l', r => by
  simp only [List.cons_append, runR]
  cases transR i r with
  | none => rfl
  | some r' => exact runR_append l l' r'
def befR (cd : Nat → Int) (G : List Blk) (rl : List Bool) (il : List RG) (pc : Int) : Option RG :=
 if rl.length = G.length ∧ il.length = G.length then
  match findB G pc with
  | none => none
  | some k => if rl.getD k false = true then runR (codeFrom cd (G.getD k ⟨0, 0, []⟩).lo (pc - (G.getD k ⟨0, 0, []⟩).lo).toNat) (il.getD k []) else none
 else none
theorem findB_in {G : List Blk} {pc : Int} {k : Nat} (h : findB G pc = some k) : ∃ x, G[k]? = some x ∧ x.lo ≤ pc ∧ pc < x.hi := by
 unfold findB at h
 rw [List.findIdx?_eq_some_iff_getElem] at h
 obtain ⟨hk, h1, _⟩ := h
 refine ⟨G[k], List.getElem?_eq_getElem hk, ?_⟩
 exact of_decide_eq_true (p := inB pc G[k]) h1
theorem ires_cells {w : World} {G : Nat} {bv pv rv iv dv cv ev : Value} {sh lk : Int} : ∃ V, ((((w.alloc (.cells #[cv, ev, .int .i64 sh, .int .i64 lk] 38)).alloc (.cells #[bv, pv] 48)).alloc (.cells #[rv, iv, dv] 55)).alloc (.cells #[.int .i32 0, .int .i32 0, .int .i32 0, .int .i32 0, .int .i32 0, .int .i32 0, .int .i32 0, .int .i32 0, .int .i32 0, .int .i32 0, .int .i32 0, .int .i32 0, .int .i32 0, .int .i32 0, .int .i32 0, .int .i32 0, .int .i32 0, .int .i32 0, .int .i32 0, .int .i32 0, .int .i32 0, .int .i32 0, .int .i32 0, .int .i32 0, .int .i32 0, .int .i32 0, .int .i32 0, .int .i32 0, .int .i32 0, .int .i32 0, .int .i32 0, .int .i32 0] 27)) = V ∧ V.heap[w.heap.size]? = some (.cells #[cv, ev, .int .i64 sh, .int .i64 lk] 38 (0, 0)) ∧ V.heap[w.heap.size + 1]? = some (.cells #[bv, pv] 48 (0, 0)) ∧ V.heap[w.heap.size + 1 + 1]? = some (.cells #[rv, iv, dv] 55 (0, 0)) ∧ RBox V (w.heap.size + 1 + 1 + 1) 27 zeroR ∧ Below w.heap.size w V ∧ V.heap.size = w.heap.size + 1 + 1 + 1 + 1 := by
 obtain ⟨V, e, h0, h1, h2, h3, hb, hs⟩ := four_new w #[cv, ev, .int .i64 sh, .int .i64 lk] #[bv, pv] #[rv, iv, dv] #[.int .i32 0, .int .i32 0, .int .i32 0, .int .i32 0, .int .i32 0, .int .i32 0, .int .i32 0, .int .i32 0, .int .i32 0, .int .i32 0, .int .i32 0, .int .i32 0, .int .i32 0, .int .i32 0, .int .i32 0, .int .i32 0, .int .i32 0, .int .i32 0, .int .i32 0, .int .i32 0, .int .i32 0, .int .i32 0, .int .i32 0, .int .i32 0, .int .i32 0, .int .i32 0, .int .i32 0, .int .i32 0, .int .i32 0, .int .i32 0, .int .i32 0, .int .i32 0] 38 48 55 27
 exact ⟨V, e, h0, h1, h2, h3, hb, by rw [← e]; simp⟩

set_option maxRecDepth 100000 in
set_option maxHeartbeats 4000000 in
theorem before_any (cv ev bv pv rv iv dv : Value) (sh lk : Int) (n : Nat) (cd : Nat → Int) (G : List Blk) (rl : List Bool) (il : List RG) (pc : Int) (w : World) (T : Tab w) (HW : Words w cv n cd) (HG : Blks w bv G) (HR : ResIn w rv iv rl il)
  (hl : ∀ r ∈ il, R16 r) (hok : ∀ x ∈ G, 0 ≤ x.lo ∧ ∀ a : Nat, x.lo ≤ (a : Int) → (a : Int) < x.hi → a < n ∧ (decI (cd a)).2 = 0 ∧ 0 ≤ (insAt cd (a : Int)).op) :
  Calls Tryd.prog 17 #[.agg #[cv, ev, .int .i64 sh, .int .i64 lk], .agg #[bv, pv], .agg #[rv, iv, dv], .int .i64 pc] w fun e w' => e = .returned (outR (befR cd G rl il pc)) ∧ Below w.heap.size w w' := by
 have HBK := Lib.hid (fun (w' : World) (hb : Below w.heap.size w w') => block_any bv pv G pc w' (HG.below hb))
 have HWH := Lib.hid HW
 have HT := Lib.hid T
 have HRH := Lib.hid HR
 have HGH := Lib.hid HG
 have HL := Lib.hid hl
 have HOK := Lib.hid hok
 obtain ⟨RA, rcap, hrv, r2, r3, r4⟩ := HR.1
 obtain ⟨IA, icap, hiv, i2, i3, i4⟩ := HR.2
 have r3' := max_63 r3
 have i3' := max_63 i3
 obtain ⟨GA, gcap, hbv, g2, g3, g4⟩ := id HG
 have g3' := max_63 g3
 obtain ⟨V, hV, k0, k1, k2, kz, bV, sV⟩ := ires_cells (w := w) (G := 0) (bv := bv) (pv := pv) (rv := rv) (iv := iv) (dv := dv) (cv := cv) (ev := ev) (sh := sh) (lk := lk)
 have a0 : V.cell? ⟨w.heap.size, 0, none⟩ = some cv := by simp [World.cell?, k0]
 have a1 : V.cell? ⟨w.heap.size, 1, none⟩ = some ev := by simp [World.cell?, k0]
 have a2 : V.cell? ⟨w.heap.size, 2, none⟩ = some (.int .i64 sh) := by simp [World.cell?, k0]
 have a3 : V.cell? ⟨w.heap.size, 3, none⟩ = some (.int .i64 lk) := by simp [World.cell?, k0]
 have b0 : V.cell? ⟨w.heap.size + 1, 0, none⟩ = some bv := by simp [World.cell?, k1]
 have b1 : V.cell? ⟨w.heap.size + 1, 1, none⟩ = some pv := by simp [World.cell?, k1]
 have c0 : V.cell? ⟨w.heap.size + 1 + 1, 0, none⟩ = some rv := by simp [World.cell?, k2]
 have c1 : V.cell? ⟨w.heap.size + 1 + 1, 1, none⟩ = some iv := by simp [World.cell?, k2]
 have l0 : w.heap.size < V.heap.size := by omega
 have l1 : w.heap.size + 1 < V.heap.size := by omega
 have l2 : w.heap.size + 1 + 1 < V.heap.size := by omega
 have KZ := Lib.hid kz
 have BV := Lib.hid bV
 have SV := Lib.hid sV
 have KZC := Lib.hid kz
 obtain ⟨gn, hgn⟩ : ∃ m, G.length = m := ⟨_, rfl⟩
 obtain ⟨rn, hrn⟩ : ∃ m, rl.length = m := ⟨_, rfl⟩
 obtain ⟨inn, hin⟩ : ∃ m, il.length = m := ⟨_, rfl⟩
 rw [hgn] at hbv g2
 rw [hrn] at hrv r2
 rw [hin] at hiv i2
 subst hbv hrv hiv
 have HGN := Lib.hid hgn
 have HRN := Lib.hid hrn
 have HIN := Lib.hid hin
 have HR4 := Lib.hid r4
 have HI4 := Lib.hid i4
 have HG4 := Lib.hid g4
 clear HW T HR hl hok r4 i4 g4 HG hgn hrn hin k0 k1 k2 kz bV
 by_cases hlen : rn = gn ∧ inn = gn
 case neg =>
  have HB := Lib.hid (show befR cd G rl il pc = none by unfold befR; rw [HGN.out, HRN.out, HIN.out, if_neg hlen])
  by_cases h1 : rn = gn
  ·have d1 : ((rn : Int) != (gn : Int)) = false := by simp; omega
   have d2 : ((inn : Int) != (gn : Int)) = true := by simp; omega
   clear hlen h1
   go_enter Tryd.func17, Tryd.ntmps17
   go_wp2_with (refine wpList_store_row rfl 27 (.tmp 8) (.tmp 32) rfl (w.heap.size + 1 + 1 + 1) #[.int .i32 0, .int .i32 0, .int .i32 0, .int .i32 0, .int .i32 0, .int .i32 0, .int .i32 0, .int .i32 0, .int .i32 0, .int .i32 0, .int .i32 0, .int .i32 0, .int .i32 0, .int .i32 0, .int .i32 0, .int .i32 0, .int .i32 0, .int .i32 0, .int .i32 0, .int .i32 0, .int .i32 0, .int .i32 0, .int .i32 0, .int .i32 0, .int .i32 0, .int .i32 0, .int .i32 0, .int .i32 0, .int .i32 0, .int .i32 0, .int .i32 0, .int .i32 0] rfl rfl 27 _ KZC.out (by kernel_rfl) rfl (by simp [Value.oneCell']) ?_)
   refine bodyPost_ret (results_out Tryd.results17 _ (w.heap.size + 1 + 1 + 1) zero16 rfl (RBox.row (r := zeroR) KZ.out)) rfl ⟨?_, below_setRow BV.out (by omega) _⟩
   rw [HB.out]; rfl
  ·have d1 : ((rn : Int) != (gn : Int)) = true := by simp; omega
   clear hlen h1
   go_enter Tryd.func17, Tryd.ntmps17
   go_wp2_with (refine wpList_store_row rfl 27 (.tmp 8) (.tmp 32) rfl (w.heap.size + 1 + 1 + 1) #[.int .i32 0, .int .i32 0, .int .i32 0, .int .i32 0, .int .i32 0, .int .i32 0, .int .i32 0, .int .i32 0, .int .i32 0, .int .i32 0, .int .i32 0, .int .i32 0, .int .i32 0, .int .i32 0, .int .i32 0, .int .i32 0, .int .i32 0, .int .i32 0, .int .i32 0, .int .i32 0, .int .i32 0, .int .i32 0, .int .i32 0, .int .i32 0, .int .i32 0, .int .i32 0, .int .i32 0, .int .i32 0, .int .i32 0, .int .i32 0, .int .i32 0, .int .i32 0] rfl rfl 27 _ KZC.out (by kernel_rfl) rfl (by simp [Value.oneCell']) ?_)
   refine bodyPost_ret (results_out Tryd.results17 _ (w.heap.size + 1 + 1 + 1) zero16 rfl (RBox.row (r := zeroR) KZ.out)) rfl ⟨?_, below_setRow BV.out (by omega) _⟩
   rw [HB.out]; rfl
 obtain ⟨e1, e2⟩ := hlen
 have HE := Lib.hid (And.intro e1 e2)
 subst e1
 subst e2
 have d1 : ((inn : Int) != (inn : Int)) = false := by simp
 have HB0 := Lib.hid (show befR cd G rl il pc = match findB G pc with
  | none => none
  | some k => if rl.getD k false = true then runR (codeFrom cd (G.getD k ⟨0, 0, []⟩).lo (pc - (G.getD k ⟨0, 0, []⟩).lo).toNat) (il.getD k []) else none by unfold befR; rw [HGN.out, HRN.out, HIN.out, if_pos ⟨rfl, rfl⟩])
 have HBK2 := Lib.hid (HBK.out V BV.out)
 clear HBK
 rcases hf : findB G pc with _ | k
 ·rw [hf] at HBK2 HB0
  simp only [Option.getD_none, Option.isSome_none] at HBK2
  clear hf
  go_enter Tryd.func17, Tryd.ntmps17
  go_wp2_with (first | (go_at_call 18; refine HBK2.out.mono ?_; rintro e w1 ⟨rfl, hb1⟩) | (refine wpList_store_row rfl 27 (.tmp 8) (.tmp 58) rfl (w.heap.size + 1 + 1 + 1) #[.int .i32 0, .int .i32 0, .int .i32 0, .int .i32 0, .int .i32 0, .int .i32 0, .int .i32 0, .int .i32 0, .int .i32 0, .int .i32 0, .int .i32 0, .int .i32 0, .int .i32 0, .int .i32 0, .int .i32 0, .int .i32 0, .int .i32 0, .int .i32 0, .int .i32 0, .int .i32 0, .int .i32 0, .int .i32 0, .int .i32 0, .int .i32 0, .int .i32 0, .int .i32 0, .int .i32 0, .int .i32 0, .int .i32 0, .int .i32 0, .int .i32 0, .int .i32 0] rfl rfl 27 _ (KZC.out.keep hb1) (by kernel_rfl) rfl (by simp [Value.oneCell']) ?_))
  refine bodyPost_ret (results_out Tryd.results17 _ (w.heap.size + 1 + 1 + 1) zero16 rfl (RBox.row (r := zeroR) (KZ.out.keep hb1))) rfl ⟨?_, below_setRow (BV.out.trans (hb1.mono BV.out.size)) (by omega) _⟩
  rw [HB0.out]; rfl
 rw [hf] at HBK2 HB0
 simp only [Option.getD_some, Option.isSome_some] at HBK2 HB0
 obtain ⟨x, hx, hx1, hx2⟩ := findB_in hf
 have hkl := (List.getElem?_eq_some_iff.1 hx).1
 rw [HGN.out] at hkl
 rw [show G.getD k ⟨0, 0, []⟩ = x by simp [List.getD, hx]] at HB0
 obtain ⟨rq, roff, rfl, rlt, rc⟩ := HR4.out (by rw [HRN.out]; omega)
 obtain ⟨iq, ioff, rfl, ilt, ic⟩ := HI4.out (by rw [HIN.out]; omega)
 obtain ⟨gq, goff, rfl, glt, gc⟩ := HG4.out (by rw [HGN.out]; omega)
 have rck := rc k (by rw [HRN.out]; exact hkl)
 have ick := ic k (by rw [HIN.out]; exact hkl)
 obtain ⟨gck, -⟩ := gc k x hx
 obtain ⟨rb, hrb⟩ : ∃ rb, rl.getD k false = rb := ⟨_, rfl⟩
 obtain ⟨r, hr⟩ : ∃ r, il.getD k [] = r := ⟨_, rfl⟩
 have r16 : R16 r := by
  rw [← hr]
  have hli : k < il.length := by rw [HIN.out]; exact hkl
  rw [show il.getD k [] = il[k] by simp [List.getD, List.getElem?_eq_getElem hli]]
  exact HL.out _ (List.getElem_mem hli)
 rw [hrb] at rck HB0
 rw [hr] at ick HB0
 have dk1 : ((k : Int) < 0) = False := by simp
 have dk2 : decide ((inn : Int) ≤ (k : Int)) = false := decide_eq_false (by omega)
 have dk3 : (k : Int) < (inn : Int) := by omega
 have XIN := Lib.hid (And.intro hx1 hx2)
 have XM := Lib.hid (HOK.out x (List.mem_of_getElem? hx))
 have R := Lib.hid r16
 clear hf hx rc ic gc hrb hr r16 HL HR4 HI4 HG4 hx1 hx2
 rcases rb with _ | _
 ·go_enter Tryd.func17, Tryd.ntmps17
  go_upto_region 5 with (go_at_call 18; refine HBK2.out.mono ?_; rintro e w1 ⟨rfl, hb1⟩)
  have bw1 : Below w.heap.size w w1 := BV.out.trans (hb1.mono BV.out.size)
  have q0 : w1.cell? ⟨w.heap.size + 1 + 1, 0, none⟩ = _ := (hb1.cell (p := ⟨w.heap.size + 1 + 1, 0, none⟩) l2).trans c0
  have q1 : w1.cell? ⟨rq, roff + k, none⟩ = _ := (bw1.cell (p := ⟨rq, roff + k, none⟩) rlt).trans rck
  have lq : w.heap.size + 1 + 1 < w1.heap.size := by have := hb1.size; omega
  have lr : rq < w1.heap.size := by have := bw1.size; omega
  have KZ1 := Lib.hid (KZ.out.keep hb1)
  have BW1 := Lib.hid bw1
  clear hb1 bw1 hV
  go_wp2_with (refine wpList_store_row rfl 27 (.tmp 8) (.tmp 58) rfl (w.heap.size + 1 + 1 + 1) #[.int .i32 0, .int .i32 0, .int .i32 0, .int .i32 0, .int .i32 0, .int .i32 0, .int .i32 0, .int .i32 0, .int .i32 0, .int .i32 0, .int .i32 0, .int .i32 0, .int .i32 0, .int .i32 0, .int .i32 0, .int .i32 0, .int .i32 0, .int .i32 0, .int .i32 0, .int .i32 0, .int .i32 0, .int .i32 0, .int .i32 0, .int .i32 0, .int .i32 0, .int .i32 0, .int .i32 0, .int .i32 0, .int .i32 0, .int .i32 0, .int .i32 0, .int .i32 0] rfl rfl 27 _ KZ1.out (by kernel_rfl) rfl (by simp [Value.oneCell']) ?_)
  refine bodyPost_ret (results_out Tryd.results17 _ (w.heap.size + 1 + 1 + 1) zero16 rfl (RBox.row (r := zeroR) KZ1.out)) rfl ⟨?_, below_setRow BW1.out (by omega) _⟩
  rw [HB0.out]; rfl
 ·rw [if_pos rfl] at HB0
  go_enter Tryd.func17, Tryd.ntmps17
  go_upto_region 5 with (go_at_call 18; refine HBK2.out.mono ?_; rintro e w1 ⟨rfl, hb1⟩)
  have bw1 : Below w.heap.size w w1 := BV.out.trans (hb1.mono BV.out.size)
  have q0 : w1.cell? ⟨w.heap.size + 1 + 1, 0, none⟩ = _ := (hb1.cell (p := ⟨w.heap.size + 1 + 1, 0, none⟩) l2).trans c0
  have q1 : w1.cell? ⟨rq, roff + k, none⟩ = _ := (bw1.cell (p := ⟨rq, roff + k, none⟩) rlt).trans rck
  have q2 : w1.cell? ⟨w.heap.size + 1 + 1, 1, none⟩ = _ := (hb1.cell (p := ⟨w.heap.size + 1 + 1, 1, none⟩) l2).trans c1
  have lq : w.heap.size + 1 + 1 < w1.heap.size := by have := hb1.size; omega
  have lr : rq < w1.heap.size := by have := bw1.size; omega
  have li : iq < w1.heap.size := by have := bw1.size; omega
  have KZ1 := Lib.hid (KZ.out.keep hb1)
  have BW1 := Lib.hid bw1
  have HRG := Lib.hid (show w1.rangeAt iq (ioff + k * 32) (cellsR r) from fun j v hv => (bw1.cell (p := ⟨iq, ioff + k * 32 + j, none⟩) ilt).trans (ick j v hv))
  have V1 := Lib.hid hb1
  clear hb1 bw1 hV
  go_upto_region 8 with (first | (refine wpList_load_mid rfl _ _ rfl _ _ rfl (cellsR r) _ HRG.out Tryd.underlying27 rfl (hi3 R.out.len) ?_) | (refine wpList_store_row rfl 27 (.tmp 13) (.tmp 63) rfl w1.heap.size (cellsR r).toArray rfl rfl 27 _ (heap_alloc_new _ _) (hi4 R.out.len) (hi6 R.out.len zero16) (cellsR_one r) ?_))
  obtain ⟨X, hX⟩ : ∃ X, (w1.alloc (.cells #[.int .i32 0, .int .i32 0, .int .i32 0, .int .i32 0, .int .i32 0, .int .i32 0, .int .i32 0, .int .i32 0, .int .i32 0, .int .i32 0, .int .i32 0, .int .i32 0, .int .i32 0, .int .i32 0, .int .i32 0, .int .i32 0, .int .i32 0, .int .i32 0, .int .i32 0, .int .i32 0, .int .i32 0, .int .i32 0, .int .i32 0, .int .i32 0, .int .i32 0, .int .i32 0, .int .i32 0, .int .i32 0, .int .i32 0, .int .i32 0, .int .i32 0, .int .i32 0] 27)).setRow w1.heap.size (cellsR r).toArray = X := ⟨_, rfl⟩
  rw [hX]
  have bX : Below w1.heap.size w1 X := hX ▸ below_setRow ((Below.refl _ _).alloc (Nat.le_refl _) _) (Nat.le_refl _) _
  have kX : RBox X w1.heap.size 27 r := hX ▸ RBox.row (z := zeroR) (heap_alloc_new _ _)
  obtain ⟨b13, hb13⟩ : ∃ b13, w1.heap.size = b13 := ⟨_, rfl⟩
  have L13 := Lib.hid (show V.heap.size ≤ b13 by rw [← hb13]; exact V1.out.size)
  rw [hb13] at kX
  rw [hb13]
  have bVX : Below V.heap.size V X := V1.out.trans (bX.mono V1.out.size)
  have bWX : Below w.heap.size w X := BV.out.trans (bVX.mono BV.out.size)
  have x0 : X.cell? ⟨w.heap.size, 0, none⟩ = _ := (bVX.cell (p := ⟨w.heap.size, 0, none⟩) l0).trans a0
  have x1 : X.cell? ⟨w.heap.size, 1, none⟩ = _ := (bVX.cell (p := ⟨w.heap.size, 1, none⟩) l0).trans a1
  have x2 : X.cell? ⟨w.heap.size, 2, none⟩ = _ := (bVX.cell (p := ⟨w.heap.size, 2, none⟩) l0).trans a2
  have x3 : X.cell? ⟨w.heap.size, 3, none⟩ = _ := (bVX.cell (p := ⟨w.heap.size, 3, none⟩) l0).trans a3
  have y0 : X.cell? ⟨w.heap.size + 1, 0, none⟩ = _ := (bVX.cell (p := ⟨w.heap.size + 1, 0, none⟩) l1).trans b0
  have y1 : X.cell? ⟨gq, goff + k * 3, none⟩ = _ := (bWX.cell (p := ⟨gq, goff + k * 3, none⟩) glt).trans gck
  have lx0 : w.heap.size < X.heap.size := by have := bVX.size; omega
  have lx1 : w.heap.size + 1 < X.heap.size := by have := bVX.size; omega
  have lx2 : gq < X.heap.size := by have := bWX.size; omega
  have KX := Lib.hid kX
  have BVX := Lib.hid bVX
  have KZX := Lib.hid (KZ.out.keep bVX)
  obtain ⟨xlo, hxlo⟩ : ∃ v, x.lo = v := ⟨_, rfl⟩
  have hlo0 := XM.out.1
  have hp1 := XIN.out.1
  have hp2 := XIN.out.2
  rw [hxlo] at y1 hlo0 hp1 HB0
  obtain ⟨ln, rfl⟩ : ∃ ln : Nat, xlo = (ln : Int) := ⟨xlo.toNat, by omega⟩
  obtain ⟨pn, rfl⟩ : ∃ pn : Nat, pc = (pn : Int) := ⟨pc.toNat, by omega⟩
  obtain ⟨mm, hmm⟩ : ∃ mm : Nat, pn = ln + mm := ⟨pn - ln, by omega⟩
  have HMM := Lib.hid hmm
  have HBF := Lib.hid (show befR cd G rl il (pn : Int) = runR (codeFrom cd (ln : Int) mm) r by rw [HB0.out]; congr 2; omega)
  have hpn : pn ≤ 1000000 := by
   have h1 := HWH.out.le
   have := (XM.out.2 pn (by rw [hxlo]; omega) (by omega))
   omega
  have XMM := Lib.hid (show ∀ a : Nat, ln ≤ a → a < pn → a < n ∧ (decI (cd a)).2 = 0 ∧ 0 ≤ (insAt cd (a : Int)).op from fun a h1 h2 => XM.out.2 a (by rw [hxlo]; omega) (by omega))
  clear hX bX kX hb13 bVX bWX q0 q1 q2 a0 a1 a2 a3 b0 gck hxlo hlo0 hp1 hp2 hmm
  go_upto_region 9 with fail
  clear y0 y1
  go_loopw [14] (fun a14 wr => ∃ (j : Nat) (r1 : RG), j ≤ mm ∧ a14 = .int .i64 ((ln : Int) + (j : Int)) ∧ runR (codeFrom cd (ln : Int) j) r = some r1 ∧ R16 r1 ∧ Below b13 X wr ∧ RBox wr b13 27 r1) (fun a14 _ => pn - (intOf a14).toNat)
  case atStart => exact ⟨0, r, by omega, rfl, rfl, R.out, Below.refl _ _, KX.out⟩
  case round =>
   obtain ⟨j, r1, hj, rfl, hrun, hr1, hb, kr⟩ := hrel
   have HRUN := Lib.hid hrun
   have R1 := Lib.hid hr1
   have HB := Lib.hid hb
   have KR := Lib.hid kr
   have lsX := hb.size
   clear hrun hr1 hb kr
   by_cases hlt : j < mm
   ·have dl : decide ((ln : Int) + (j : Int) < (pn : Int)) = true := decide_eq_true (by have := HMM.out; omega)
    obtain ⟨m1, m2, m3⟩ := XMM.out (ln + j) (by omega) (by have := HMM.out; omega)
    have lX13 : b13 < X.heap.size := KX.out.lt
    have bwr : Below V.heap.size V wr := BVX.out.trans (HB.out.mono L13.out)
    have t0 : wr.cell? ⟨w.heap.size, 0, none⟩ = _ := (HB.out.cell (p := ⟨w.heap.size, 0, none⟩) (show w.heap.size < b13 by have := L13.out; omega)).trans x0
    have t1 : wr.cell? ⟨w.heap.size, 1, none⟩ = _ := (HB.out.cell (p := ⟨w.heap.size, 1, none⟩) (show w.heap.size < b13 by have := L13.out; omega)).trans x1
    have t2 : wr.cell? ⟨w.heap.size, 2, none⟩ = _ := (HB.out.cell (p := ⟨w.heap.size, 2, none⟩) (show w.heap.size < b13 by have := L13.out; omega)).trans x2
    have t3 : wr.cell? ⟨w.heap.size, 3, none⟩ = _ := (HB.out.cell (p := ⟨w.heap.size, 3, none⟩) (show w.heap.size < b13 by have := L13.out; omega)).trans x3
    have lwr : w.heap.size < wr.heap.size := by omega
    have bww : Below w.heap.size w wr := BV.out.trans (bwr.mono BV.out.size)
    obtain ⟨op, ia, ic, id, im, hi⟩ : ∃ op ia ic id im, insAt cd ((ln : Int) + (j : Int)) = ⟨op, ia, ic, id, im⟩ := ⟨_, _, _, _, _, rfl⟩
    have HDE := Lib.hid (show Calls Tryd.prog 42 #[.agg #[cv, ev, .int .i64 sh, .int .i64 lk], .int .i64 ((ln : Int) + (j : Int))] wr fun e w' => e = .returned (.tuple #[.agg #[.int .u8 op, .int .i64 ia, .int .i64 ic, .int .i64 id, .int .i64 im], .bool true]) ∧ Below wr.heap.size wr w' from by
     have := vdecode_any cv ev sh lk n cd (ln + j) m1 m2 wr (HT.out.below bww) (HWH.out.below bww)
     rw [Int.natCast_add, hi] at this
     exact this)
    rw [Int.natCast_add, hi] at m3
    have HI := Lib.hid hi
    have M3 := Lib.hid m3
    have BWW := Lib.hid bww
    have wl : IntKind.i64.wrap ((ln : Int) + (j : Int) + 1) = (ln : Int) + (j : Int) + 1 := IntWalk.i64_in _ (by have := HMM.out; omega)
    clear m1 m2 m3 bwr bww hi
    go_upto_region 14 with (first | (go_at_call 42; refine HDE.out.mono ?_; rintro e w2 ⟨rfl, hb2⟩))
    obtain ⟨Y, hY⟩ : ∃ Y, w2.alloc (.cells #[.int .u8 op, .int .i64 ia, .int .i64 ic, .int .i64 id, .int .i64 im] 23) = Y := ⟨_, rfl⟩
    rw [hY]
    have bY : Below w2.heap.size w2 Y := hY ▸ (Below.refl _ _).alloc (Nat.le_refl _) _
    obtain ⟨z0, z1, z2, z3, z4, lY⟩ := ins_block (show Y.heap[w2.heap.size]? = some (.cells #[.int .u8 op, .int .i64 ia, .int .i64 ic, .int .i64 id, .int .i64 im] 23 (0, 0)) from hY ▸ heap_alloc_new _ _)
    obtain ⟨q15, hq15⟩ : ∃ q, w2.heap.size = q := ⟨_, rfl⟩
    have bRY : Below wr.heap.size wr Y := hb2.trans (bY.mono hb2.size)
    rw [hq15] at z0 z1 z2 z3 z4 lY
    rw [hq15]
    have KY := Lib.hid (KR.out.keep bRY)
    have HRG1 := Lib.hid KY.out.range
    have BXY := Lib.hid (HB.out.trans (bRY.mono (by omega)))
    have BWY := Lib.hid (BWW.out.trans (bRY.mono BWW.out.size))
    have KZY := Lib.hid (show RBox Y (w.heap.size + 1 + 1 + 1) 27 zeroR from (BXY.out.block _ (by have := L13.out; have := SV.out; omega)).trans KZX.out)
    have HTR := Lib.hid (transfer_any op ia ic id im M3.out r1 R1.out Y (HT.out.below BWY.out))
    have lY13 : b13 < Y.heap.size := KY.out.lt
    have lYz : w.heap.size + 1 + 1 + 1 < Y.heap.size := KZY.out.lt
    clear hY bY bRY hq15 hb2 t0 t1 t2 t3 lwr
    have HST := Lib.hid (show runR (codeFrom cd (ln : Int) (j + 1)) r = transR ⟨op, ia, ic, id, im⟩ r1 by
     rw [codeFrom_succ, runR_append, HRUN.out]
     have e : insAt cd ((ln : Int) + (j : Int)) = ⟨op, ia, ic, id, im⟩ := by rw [← HI.out]
     rw [e]
     simp only [runR]
     cases transR ⟨op, ia, ic, id, im⟩ r1 <;> rfl)
    have HTL := Lib.hid (show runR (codeFrom cd (ln : Int) (j + 1)) r = none → runR (codeFrom cd (ln : Int) mm) r = none from fun hn => by
     rw [show mm = (j + 1) + (mm - (j + 1)) by omega, codeFrom_add, runR_append, hn])
    rcases ho : transR ⟨op, ia, ic, id, im⟩ r1 with _ | r2
    ·rw [ho] at HTR
     have HN := Lib.hid (show befR cd G rl il (pn : Int) = none by rw [HBF.out]; exact HTL.out (by rw [HST.out, ho]))
     clear ho
     go_wp2_with (first | (refine wpList_load_mid rfl _ _ rfl _ _ rfl (cellsR r1) _ HRG1.out Tryd.underlying27 rfl (hi3 R1.out.len) ?_) | (go_at_call 20; refine HTR.out.mono ?_; rintro e w4 ⟨rfl, hb4⟩; unfold outR) | (refine wpList_store_row rfl 27 (.tmp 13) (.tmp 88) rfl b13 (cellsR zeroR).toArray rfl rfl 27 _ (KY.out.keep hb4) (hi4 zero16) (hi6 zero16 R1.out.len) (cellsR_one zeroR) ?_) | (refine wpList_store_row rfl 27 (.tmp 8) (.tmp 92) rfl (w.heap.size + 1 + 1 + 1) #[.int .i32 0, .int .i32 0, .int .i32 0, .int .i32 0, .int .i32 0, .int .i32 0, .int .i32 0, .int .i32 0, .int .i32 0, .int .i32 0, .int .i32 0, .int .i32 0, .int .i32 0, .int .i32 0, .int .i32 0, .int .i32 0, .int .i32 0, .int .i32 0, .int .i32 0, .int .i32 0, .int .i32 0, .int .i32 0, .int .i32 0, .int .i32 0, .int .i32 0, .int .i32 0, .int .i32 0, .int .i32 0, .int .i32 0, .int .i32 0, .int .i32 0, .int .i32 0] rfl rfl 27 _ ((setRow_other _ _ _ _ (by have := L13.out; have := SV.out; omega)).trans (KZY.out.keep hb4)) (by kernel_rfl) rfl (by simp [Value.oneCell']) ?_))
     refine bodyPost_ret (results_out Tryd.results17 _ (w.heap.size + 1 + 1 + 1) zero16 rfl (RBox.row (r := zeroR) (z := zeroR) ((setRow_other _ _ _ _ (by have := L13.out; have := SV.out; omega)).trans (KZY.out.keep hb4)))) rfl ⟨?_, ?_⟩
     ·rw [HN.out]; rfl
     ·exact below_setRow (below_setRow (BWY.out.trans (hb4.mono BWY.out.size)) (by have := L13.out; have := SV.out; omega) _) (by omega) _
    ·rw [ho] at HTR
     have HN := Lib.hid (show runR (codeFrom cd (ln : Int) (j + 1)) r = some r2 by rw [HST.out, ho])
     have R2 := Lib.hid (transR_16 M3.out R1.out ho)
     clear ho
     go_wp2_with (first | (refine wpList_load_mid rfl _ _ rfl _ _ rfl (cellsR r1) _ HRG1.out Tryd.underlying27 rfl (hi3 R1.out.len) ?_) | (go_at_call 20; refine HTR.out.mono ?_; rintro e w4 ⟨rfl, hb4⟩; unfold outR) | (refine wpList_store_row rfl 27 (.tmp 13) (.tmp 88) rfl b13 (cellsR r2).toArray rfl rfl 27 _ (KY.out.keep hb4) (hi4 R2.out.len) (hi6 R2.out.len R1.out.len) (cellsR_one r2) ?_))
     go_roundw
     case rel => exact ⟨j + 1, r2, by omega, by first | rfl | (congr 1; omega) | go_num, HN.out, R2.out, below_setRow (BXY.out.trans (hb4.mono (by omega))) (Nat.le_refl _) _, RBox.row (KY.out.keep hb4)⟩
     case measure => simp [intOf]; have := HMM.out; omega
   ·obtain rfl : j = mm := by omega
    have dl : decide ((ln : Int) + (j : Int) < (pn : Int)) = false := decide_eq_false (by have := HMM.out; omega)
    have HN := Lib.hid (show befR cd G rl il (pn : Int) = some r1 by rw [HBF.out, HRUN.out])
    have HRG1 := Lib.hid KR.out.range
    have KZW := Lib.hid (show RBox wr (w.heap.size + 1 + 1 + 1) 27 zeroR from ((HB.out.block _ (by have := L13.out; have := SV.out; omega)).trans KZX.out))
    go_wp2_with (first | (refine wpList_load_mid rfl _ _ rfl _ _ rfl (cellsR r1) _ HRG1.out Tryd.underlying27 rfl (hi3 R1.out.len) ?_) | (refine wpList_store_row rfl 27 (.tmp 8) (.tmp 93) rfl (w.heap.size + 1 + 1 + 1) (cellsR r1).toArray rfl rfl 27 _ KZW.out (hi4 R1.out.len) (hi6 R1.out.len zero16) (cellsR_one r1) ?_))
    refine bodyPost_ret (results_out Tryd.results17 _ (w.heap.size + 1 + 1 + 1) R1.out.len rfl (RBox.row KZW.out)) rfl ⟨?_, ?_⟩
    ·rw [HN.out]; rfl
    ·exact below_setRow (BV.out.trans ((BVX.out.trans (HB.out.mono L13.out)).mono BV.out.size)) (by omega) _

end Go.Proofs.YtebklpnkcicpjaaDoor


