/-
  What is proved here: parts lGr, gR04, gR04b, gR04c, gR24, gR24e, rFn, rCv, rPl, vRef3, vRef4.
-/
import Derived.Test.YtebklpnkcicpjaaGreatDoorXa
import Derived.Test.YtebklpnkcicpjaaGreatDoorXl
import Derived.Test.YtebklpnkcicpjaaGreatDoorXe
import Derived.Test.YtebklpnkcicpjaaGreatDoorXf
import Derived.Test.YtebklpnkcicpjaaGreatDoorXd
import Derived.Test.YtebklpnkcicpjaaGreatDoorXj
import Derived.Test.YtebklpnkcicpjaaGreatDoorXh
import Derived.Test.YtebklpnkcicpjaaGreatDoorXi
namespace Go.Proofs.YtebklpnkcicpjaaGreatDoor
set_option linter.unusedVariables false
set_option linter.unusedSimpArgs false
set_option maxRecDepth 100000
set_option maxHeartbeats 8000000
section
open Go.RowKit
theorem D5 (c : Int → aZ) (L : List (Int × Int)) : ∀ x ∈ cJ c L, x.nx.length ≤ 1000 := by
 intro x hx
 unfold cJ at hx
 obtain ⟨k, hk, rfl⟩ := List.mem_map.1 hx
 have h1 := vM L (cz (c (iH L k)) (iH L k))
 have h2 := jt (c (iH L k)) (iH L k)
 show (eA c L k).length ≤ 1000
 unfold eA
 omega
theorem js.sN {w w' : World} {v : Value} {n : Nat} {cd : Nat → Int} (h : js w v n cd) (hb : Below w.heap.size w w') : js w' v n cd := by
 obtain ⟨A, cap, h1, h2, h3, h4⟩ := h.at_
 refine ⟨h.wd, A, cap, h1, h2, h3, fun h0 => ?_⟩
 obtain ⟨b, off, ha, hlt, hc⟩ := h4 h0
 exact ⟨b, off, ha, by have := hb.size; omega, fun i hi => (hb.cell (p := ⟨b, off + i, none⟩) hlt).trans (hc i hi)⟩
theorem Gp {w : World} {q o : Nat} {T : TypeId} {x : Int} (hk : w.heap[q]? = some (.cells #[.slice none 0 0, .slice none 0 0] T (0, 0))) : w.cell? ⟨q, o, none⟩ ≠ some (.int .i64 x) := by
 intro h
 simp only [World.cell?, hk] at h
 rcases o with _ | _ | o
 ·simp at h
 ·simp at h
 ·simp at h
section
variable {w w' : World} {q B : Nat} {T : TypeId} (hk : w.heap[q]? = some (.cells #[.slice none 0 0, .slice none 0 0] T (0, 0))) (hw : ∀ p, p ≠ q → w'.heap[p]? = w.heap[p]?) (hs : w.heap.size ≤ w'.heap.size) (YR : q < B)
include hk hw hs
theorem Ints.past {v : Value} {l : List Int} (h : Ints w v l) : Ints w' v l := by
 obtain ⟨A, cap, h1, h2, h3, h4⟩ := h
 refine ⟨A, cap, h1, h2, h3, fun h0 => ?_⟩
 obtain ⟨b, off, ha, hlt, hc⟩ := h4 h0
 have hne : b ≠ q := fun e => Gp hk (e ▸ hc 0 h0)
 exact ⟨b, off, ha, by omega, fun i hi => (World.cell?_of_block (hw b hne)).trans (hc i hi)⟩
theorem gh.past {v : Value} {G : List dL} (h : gh w v G) : gh w' v G := by
 obtain ⟨A, cap, h1, h2, h3, h4⟩ := h
 refine ⟨A, cap, h1, h2, h3, fun h0 => ?_⟩
 obtain ⟨b, off, ha, hlt, hc⟩ := h4 h0
 have hne : b ≠ q := fun e => Gp hk (e ▸ (hc 0 _ (List.getElem?_eq_getElem h0)).1)
 refine ⟨b, off, ha, by omega, fun i x hx => ?_⟩
 obtain ⟨c0, c1, nv, c2, c3⟩ := hc i x hx
 exact ⟨(World.cell?_of_block (hw b hne)).trans c0, (World.cell?_of_block (hw b hne)).trans c1, nv, (World.cell?_of_block (hw b hne)).trans c2, c3.past hk hw hs⟩
include YR
theorem tY.past {v : Value} {P : List (List Int)} (h : tY w v P) (hn : ∀ p, v.ownBlock = some p → B ≤ p) : tY w' v P := by
 obtain ⟨A, cap, h1, h2, h3, h4⟩ := h
 refine ⟨A, cap, h1, h2, h3, fun h0 => ?_⟩
 obtain ⟨b, off, ha, hlt, hc⟩ := h4 h0
 have hne : b ≠ q := by have := hn b (by rw [h1, ha]; rfl); omega
 refine ⟨b, off, ha, by omega, fun i x hx => ?_⟩
 obtain ⟨nv, c2, c3⟩ := hc i x hx
 exact ⟨nv, (World.cell?_of_block (hw b hne)).trans c2, c3.past hk hw hs⟩
end
theorem nU.mem {n : Nat} : ∀ {l : List dL} {a z : Int}, nU n a l z → ∀ x ∈ l, ∃ e, Nu n e x
 | [], a, z, _, x, hx => by cases hx
 | y :: l, a, z, h, x, hx => by
  rcases List.mem_cons.1 hx with rfl | hx
  ·exact ⟨a, h.1⟩
  ·exact nU.mem h.2 x hx
theorem P0 {n : Nat} {cd : Nat → Int} {aM : List nE} {sh lk : Int} {k : Nat} {en : nE} {D : List Int} {L : List (Int × Int)} (hwd : ∀ i, i < n → 0 ≤ cd i ∧ cd i < 4294967296) (hgd : jf n cd aM sh lk) (hk : aM[k]? = some en) (hg : fN (aA cd) en.st en.en D L) (hst : en.st ∈ D) :
  ∀ x ∈ cJ (aA cd) L, Fa n cd (cJ (aA cd) L) x := by
 intro x hx
 obtain ⟨z, hz⟩ := (hg.valid hst).ok
 obtain ⟨e, he⟩ := hz.mem x hx
 have h3 := D5 (aA cd) L x hx
 have hb := dP.bounds hgd.ch en (List.mem_of_getElem? hk)
 unfold cJ at hx
 obtain ⟨j, hj, gY⟩ := List.mem_map.1 hx
 have hj := List.mem_range.1 hj
 have hL : L.getD j (0, 0) ∈ L := by
  rw [List.getD_eq_getElem?_getD, List.getElem?_eq_getElem hj]
  exact List.getElem_mem hj
 have hlo := hg.b.lo _ hL
 have e1 : x.lo = (L.getD j (0, 0)).1 := by rw [← gY]
 have e2 : x.hi = (L.getD j (0, 0)).2 := by rw [← gY]
 refine ⟨by omega, by omega, h3, he.nx, fun a h1 h2 => ?_⟩
 have ha : a < n := by omega
 refine ⟨ha, ?_, ?_⟩
 ·have := (hgd.ins en (List.mem_of_getElem? hk) a abo abo).dec
  rwa [Int.toNat_natCast] at this
 ·show 0 ≤ (cx (cd (a : Int).toNat)).1.op
  rw [Int.toNat_natCast]
  exact (BA _ (hwd a ha).1 (hwd a ha).2).1
structure SX (w : World) (cv bv pv : Value) (n : Nat) (cd : Nat → Int) (aM : List nE) (sh lk : Int) (k : Nat) (G : List dL) (P : List (List Int)) : Prop where
 wd : Words w cv n cd
 n3 : n ≤ 300
 gd : jf n cd aM sh lk
 R7 : gh w bv G
 lls : tY w pv P
 val : pP G P
 pos : 0 < G.length
 len : G.length ≤ 1000
 ok : ∀ x ∈ G, Fa n cd G x
 run : ∃ (en : nE) (D : List Int) (L : List (Int × Int)), aM[k]? = some en ∧ fN (aA cd) en.st en.en D L ∧ en.st ∈ D ∧ blk (aA cd) en.st D (en.en - en.st).toNat = L ∧ G = cJ (aA cd) L
theorem DZ (cv ev : Value) (sh lk : Int) (n : Nat) (cd : Nat → Int) (aM : List nE) (task : Int) (w : World) (T : iU w) (HW : js w cv n cd) (HE : nD w ev aM) :
  Calls Tryz.prog 6 #[.agg #[cv, ev, .int .i64 sh, .int .i64 lk], .int .i64 task] w fun e w' => (e = .returned (.tuple #[.agg #[.slice none 0 0, .slice none 0 0], .bool false]) ∨ ∃ bv pv k G P, e = .returned (.tuple #[.agg #[bv, pv], .bool true]) ∧ task = ((k : Nat) : Int) ∧ SX w' cv bv pv n cd aM sh lk k G P) ∧ Below w.heap.size w w' := by
 obtain ⟨V, hV, k0, k1, bV, sV⟩ : ∃ V, (w.alloc (.cells #[cv, ev, .int .i64 sh, .int .i64 lk] 25)).alloc (.cells #[.slice none 0 0, .slice none 0 0] 30) = V ∧ V.heap[w.heap.size]? = some (.cells #[cv, ev, .int .i64 sh, .int .i64 lk] 25 (0, 0)) ∧ V.heap[w.heap.size + 1]? = some (.cells #[.slice none 0 0, .slice none 0 0] 30 (0, 0)) ∧ Below w.heap.size w V ∧ V.heap.size = w.heap.size + 1 + 1 := jH w _ _ _ _
 have y0 : V.cell? ⟨w.heap.size, 0, none⟩ = some cv := by simp [World.cell?, k0]
 have y1 : V.cell? ⟨w.heap.size, 1, none⟩ = some ev := by simp [World.cell?, k0]
 have y2 : V.cell? ⟨w.heap.size, 2, none⟩ = some (.int .i64 sh) := by simp [World.cell?, k0]
 have y3 : V.cell? ⟨w.heap.size, 3, none⟩ = some (.int .i64 lk) := by simp [World.cell?, k0]
 have l0 : w.heap.size < V.heap.size := by omega
 have l1 : w.heap.size + 1 < V.heap.size := by omega
 have BV := acD bV
 have K0 := acD k0
 have K1 := acD k1
 have AO := acD HW
 have IW := acD HE
 have HT := acD T
 have SV := acD sV
 have Q0 := acD (DY cv ev sh lk n cd aM V (HW.sN bV) (HE.below bV))
 clear bV k0 k1 HW HE T sV
 go_enter Tryz.func6, Tryz.ntmps6
 go_upto_region 1 with fail
 clear hV
 by_cases hgt : 300 < n ∨ 4 < aM.length
 ·have hg1 : iL n aM = 1 := by unfold iL; rw [if_pos hgt]
  rw [hg1] at Q0
  go_wp2_with (first | (go_at_call 22; refine Q0.out.mono ?_; rintro e W1 ⟨rfl, hb1⟩) | (refine wpList_store_row rfl 30 (.tmp 4) (.tmp 12) rfl (w.heap.size + 1) #[.slice none 0 0, .slice none 0 0] rfl rfl 30 _ ((hb1.block _ l1).trans K1.out) abp rfl abt ?_))
  refine bodyPost_ret (results_cell_tmp (P := Tryz.prog) Tryz.results6 _ _ (w.heap.size + 1) [.slice none 0 0, .slice none 0 0] _ rfl (au (setRow_heap _ _ _ _ _ _ ((hb1.block _ l1).trans K1.out))) Tryz.underlying30 rfl abp) rfl ⟨.inl rfl, below_setRow (BV.out.trans (hb1.mono BV.out.size)) abo _⟩
 have hg0 : iL n aM = 0 := by unfold iL; rw [if_neg hgt]
 rw [hg0] at Q0
 have hn3 : n ≤ 300 := by omega
 clear hgt hg0
 have XZ := acD (fun (W : World) (hb : Below w.heap.size w W) => uU cv ev sh lk n cd aM task W (HT.out.below hb) ((AO.out.sN hb).words abo) (IW.out.below hb))
 go_upto_region 3 with (go_at_call 22; refine Q0.out.mono ?_; rintro e W1 ⟨rfl, hb1⟩)
 have Sa := BV.out.trans (hb1.mono BV.out.size)
 have x0 : W1.cell? ⟨w.heap.size, 0, none⟩ = _ := (hb1.cell (p := ⟨w.heap.size, 0, none⟩) l0).trans y0
 have x1 : W1.cell? ⟨w.heap.size, 1, none⟩ = _ := (hb1.cell (p := ⟨w.heap.size, 1, none⟩) l0).trans y1
 have x2 : W1.cell? ⟨w.heap.size, 2, none⟩ = _ := (hb1.cell (p := ⟨w.heap.size, 2, none⟩) l0).trans y2
 have x3 : W1.cell? ⟨w.heap.size, 3, none⟩ = _ := (hb1.cell (p := ⟨w.heap.size, 3, none⟩) l0).trans y3
 have lw : w.heap.size < W1.heap.size := by have := hb1.size; omega
 have yO := acD (XZ.out W1 Sa)
 have wF := acD Sa
 have K2 := acD ((hb1.block _ l1).trans K1.out)
 have s1 := hb1.size
 clear hb1 Sa XZ y0 y1 y2 y3 Q0
 have yB := acD (show ∀ (W2 : World) (a1 a2 : Value), Below W1.heap.size W1 W2 → ((W2.alloc (.cells #[a1, a2] 30)).heap[w.heap.size + 1]? = some (.cells #[.slice none 0 0, .slice none 0 0] 30 (0, 0))) ∧ Below w.heap.size w (W2.alloc (.cells #[a1, a2] 30)) from fun W2 a1 a2 hb => by
  refine ⟨?_, (wF.out.trans (hb.mono wF.out.size)).alloc (wF.out.trans (hb.mono wF.out.size)).size _⟩
  rw [heap_alloc_old _ _ (by have := hb.size; have := SV.out; omega), hb.block _ ach]; exact K2.out)
 go_upto_region 4 with (go_at_call 19; refine yO.out.mono ?_; rintro e W2 h; rcases h with ⟨_, rfl, hb3⟩ | ⟨_, _, rfl, hb3⟩ | ⟨_, k, en, D, bad, _, _, _, _, rfl, hb3⟩ | ⟨Ue, k, en, D, L, bv, pv, rfl, hen, hR, hL, rfl, hG, hP, hb3, Zj⟩ <;> try (obtain ⟨GA, cj, rfl, -, -, -⟩ := id hG; obtain ⟨PA, dV, rfl, -, -, -⟩ := id hP))
 case _ | _ | _ =>
  have kq := (yB.out W2 (.slice none 0 0) (.slice none 0 0) hb3).1
  have bq := (yB.out W2 (.slice none 0 0) (.slice none 0 0) hb3).2
  go_wp2_with (first | (refine wpList_store_row rfl 30 (.tmp 4) (.tmp 20) rfl (w.heap.size + 1) #[.slice none 0 0, .slice none 0 0] rfl rfl 30 _ kq abp rfl abt ?_))
  refine bodyPost_ret (results_cell_tmp (P := Tryz.prog) Tryz.results6 _ _ (w.heap.size + 1) [.slice none 0 0, .slice none 0 0] _ rfl (au (setRow_heap _ _ _ _ _ _ kq)) Tryz.underlying30 rfl abp) rfl ⟨.inl rfl, below_setRow bq abo _⟩
 have kq := (yB.out W2 (.slice GA (cJ (aA cd) L).length cj) (.slice PA (eG (aA cd) L).length dV) hb3).1
 have bq := (yB.out W2 (.slice GA (cJ (aA cd) L).length cj) (.slice PA (eG (aA cd) L).length dV) hb3).2
 have bA : Below W2.heap.size W2 (W2.alloc (.cells #[.slice GA (cJ (aA cd) L).length cj, .slice PA (eG (aA cd) L).length dV] 30)) := (Below.refl _ _).alloc (Nat.le_refl _) _
 have IV := acD (hG.below bA)
 have NG := acD (hP.below bA)
 clear bA
 go_wp2_with (first | (refine wpList_store_row rfl 30 (.tmp 4) (.tmp 20) rfl (w.heap.size + 1) #[.slice GA (cJ (aA cd) L).length cj, .slice PA (eG (aA cd) L).length dV] rfl rfl 30 _ kq abp rfl abt ?_))
 have hw4 : ∀ p, p ≠ w.heap.size + 1 → ((W2.alloc (.cells #[.slice GA (cJ (aA cd) L).length cj, .slice PA (eG (aA cd) L).length dV] 30)).setRow (w.heap.size + 1) #[.slice GA (cJ (aA cd) L).length cj, .slice PA (eG (aA cd) L).length dV]).heap[p]? = (W2.alloc (.cells #[.slice GA (cJ (aA cd) L).length cj, .slice PA (eG (aA cd) L).length dV] 30)).heap[p]? := fun p hp => setRow_other _ _ _ _ hp
 have b4 := below_setRow bq (g := w.heap.size + 1) abo #[.slice GA (cJ (aA cd) L).length cj, .slice PA (eG (aA cd) L).length dV]
 refine bodyPost_ret (results_cell_tmp (P := Tryz.prog) Tryz.results6 _ _ (w.heap.size + 1) [.slice GA (cJ (aA cd) L).length cj, .slice PA (eG (aA cd) L).length dV] _ rfl (au (setRow_heap _ _ _ _ _ _ kq)) Tryz.underlying30 rfl abp) rfl ⟨.inr ⟨.slice GA (cJ (aA cd) L).length cj, .slice PA (eG (aA cd) L).length dV, k, cJ (aA cd) L, eG (aA cd) L, rfl, rfl, ?_⟩, b4⟩
 have Wp := dP.bounds Ue.ch en (List.mem_of_getElem? hen)
 have Uf : fN (aA cd) en.st en.en D L := hL ▸ fN.of Wp.1 Wp.2.1 hR
 have hst : en.st ∈ D := by
  rcases hR.s with h | h
  ·exact h
  ·cases h
 have hval := Uf.valid hst
 have YU : L.length ≤ 300 := by rw [← hL]; have := vX (aA cd) en.st D (en.en - en.st).toNat; omega
 have hne := hval.ne
 exact ⟨(AO.out.sN b4).words abo, hn3, Ue, IV.out.past kq hw4 (by simp [World.setRow]), NG.out.past kq hw4 (by simp [World.setRow]) (B := W1.heap.size) ach Zj.2, hval, List.length_pos_iff.2 hne, by rw [fL]; omega, P0 AO.out.wd Ue hen Uf hst, ⟨en, D, L, hen, Uf, hst, hL, rfl⟩⟩
end
section
open Go.RowKit
def kD (k : Nat) : List UInt8 := match di k with | .MB => [] | .Nr => [65, 66, 67] | .Nq => [65, 66] | .ai => [65] | .i => []
def Jb (k : Nat) : Int := if k < 14 then 1 else kf k
def Jc (k : Nat) : Int := if k < 14 then 0 else kj k
def yA (op : Int) (k : Nat) : Prop := ∀ w : World, Calls Tryz.prog 69 #[.int .u8 op] w fun e w' => e = .returned (.tuple #[.string ⟨(kD k).toArray⟩, .int .i64 (Jb k), .int .i64 (Jc k), .bool true]) ∧ w = w'
theorem z8 (op : Int) (k : Nat) (h : (op = 0 ∧ k = 0) ∨ (op = 1 ∧ k = 1) ∨ (op = 2 ∧ k = 2) ∨ (op = 3 ∧ k = 3) ∨ (op = 4 ∧ k = 4) ∨ (op = 5 ∧ k = 5) ∨ (op = 6 ∧ k = 6) ∨ (op = 7 ∧ k = 7) ∨ (op = 8 ∧ k = 8) ∨ (op = 9 ∧ k = 9) ∨ (op = 10 ∧ k = 10) ∨ (op = 11 ∧ k = 11) ∨ (op = 12 ∧ k = 12) ∨ (op = 13 ∧ k = 13) ∨ (op = 14 ∧ k = 14) ∨ (op = 15 ∧ k = 15) ∨ (op = 16 ∧ k = 16) ∨ (op = 17 ∧ k = 17) ∨ (op = 18 ∧ k = 18) ∨ (op = 19 ∧ k = 19) ∨ (op = 20 ∧ k = 20) ∨ (op = 21 ∧ k = 21) ∨ (op = 22 ∧ k = 22) ∨ (op = 23 ∧ k = 23) ∨ (op = 24 ∧ k = 24) ∨ (op = 25 ∧ k = 25) ∨ (op = 26 ∧ k = 26) ∨ (op = 27 ∧ k = 27) ∨ (op = 28 ∧ k = 28) ∨ (op = 29 ∧ k = 29)) : yA op k := by
 intro w
 obtain ⟨v, hv⟩ : ∃ v, v = Value.tuple #[.string ⟨(kD k).toArray⟩, .int .i64 (Jb k), .int .i64 (Jc k), .bool true] := ⟨_, rfl⟩
 rw [← hv]
 have HV := acD hv
 clear hv
 rcases h with ⟨rfl, rfl⟩ | ⟨rfl, rfl⟩ | ⟨rfl, rfl⟩ | ⟨rfl, rfl⟩ | ⟨rfl, rfl⟩ | ⟨rfl, rfl⟩ | ⟨rfl, rfl⟩ | ⟨rfl, rfl⟩ | ⟨rfl, rfl⟩ | ⟨rfl, rfl⟩ | ⟨rfl, rfl⟩ | ⟨rfl, rfl⟩ | ⟨rfl, rfl⟩ | ⟨rfl, rfl⟩ | ⟨rfl, rfl⟩ | ⟨rfl, rfl⟩ | ⟨rfl, rfl⟩ | ⟨rfl, rfl⟩ | ⟨rfl, rfl⟩ | ⟨rfl, rfl⟩ | ⟨rfl, rfl⟩ | ⟨rfl, rfl⟩ | ⟨rfl, rfl⟩ | ⟨rfl, rfl⟩ | ⟨rfl, rfl⟩ | ⟨rfl, rfl⟩ | ⟨rfl, rfl⟩ | ⟨rfl, rfl⟩ | ⟨rfl, rfl⟩ | ⟨rfl, rfl⟩
 all_goals
  go_enter Tryz.func69, Tryz.ntmps69
  go_wp2_with fail
  refine bodyPost_ret (v := v) (by rw [HV.out]; simp [results, Tryz.results69, go_sem, *]; first | done | decide) rfl ⟨rfl, by first | rfl | trivial⟩
theorem D7 (k : Nat) (hk : k < 30) : ((k : Int) = 0 ∧ k = 0) ∨ ((k : Int) = 1 ∧ k = 1) ∨ ((k : Int) = 2 ∧ k = 2) ∨ ((k : Int) = 3 ∧ k = 3) ∨ ((k : Int) = 4 ∧ k = 4) ∨ ((k : Int) = 5 ∧ k = 5) ∨ ((k : Int) = 6 ∧ k = 6) ∨ ((k : Int) = 7 ∧ k = 7) ∨ ((k : Int) = 8 ∧ k = 8) ∨ ((k : Int) = 9 ∧ k = 9) ∨ ((k : Int) = 10 ∧ k = 10) ∨ ((k : Int) = 11 ∧ k = 11) ∨ ((k : Int) = 12 ∧ k = 12) ∨ ((k : Int) = 13 ∧ k = 13) ∨ ((k : Int) = 14 ∧ k = 14) ∨ ((k : Int) = 15 ∧ k = 15) ∨ ((k : Int) = 16 ∧ k = 16) ∨ ((k : Int) = 17 ∧ k = 17) ∨ ((k : Int) = 18 ∧ k = 18) ∨ ((k : Int) = 19 ∧ k = 19) ∨ ((k : Int) = 20 ∧ k = 20) ∨ ((k : Int) = 21 ∧ k = 21) ∨ ((k : Int) = 22 ∧ k = 22) ∨ ((k : Int) = 23 ∧ k = 23) ∨ ((k : Int) = 24 ∧ k = 24) ∨ ((k : Int) = 25 ∧ k = 25) ∨ ((k : Int) = 26 ∧ k = 26) ∨ ((k : Int) = 27 ∧ k = 27) ∨ ((k : Int) = 28 ∧ k = 28) ∨ ((k : Int) = 29 ∧ k = 29) := by
 obtain rfl | rfl | rfl | rfl | rfl | rfl | rfl | rfl | rfl | rfl | rfl | rfl | rfl | rfl | rfl | rfl | rfl | rfl | rfl | rfl | rfl | rfl | rfl | rfl | rfl | rfl | rfl | rfl | rfl | rfl : k = 0 ∨ k = 1 ∨ k = 2 ∨ k = 3 ∨ k = 4 ∨ k = 5 ∨ k = 6 ∨ k = 7 ∨ k = 8 ∨ k = 9 ∨ k = 10 ∨ k = 11 ∨ k = 12 ∨ k = 13 ∨ k = 14 ∨ k = 15 ∨ k = 16 ∨ k = 17 ∨ k = 18 ∨ k = 19 ∨ k = 20 ∨ k = 21 ∨ k = 22 ∨ k = 23 ∨ k = 24 ∨ k = 25 ∨ k = 26 ∨ k = 27 ∨ k = 28 ∨ k = 29 := by omega
 all_goals simp
theorem mY (k : Nat) (hk : k < 30) : yA (k : Int) k := z8 k k (D7 k hk)
theorem z7 (op : Int) (h0 : 30 ≤ op) (w : World) : Calls Tryz.prog 69 #[.int .u8 op] w fun e w' => e = .returned (.tuple #[.string ⟨#[]⟩, .int .i64 1, .int .i64 0, .bool false]) ∧ w = w' := by
 have e0 : decide (2 ≤ op) = true := decide_eq_true abo
 have e1 : decide (op ≤ 13) = false := decide_eq_false abo
 have q : ∀ k : Int, k < 30 → (op == k) = false := fun k hk => beq_eq_false_iff_ne.2 abo
 have q0 := q 0 abr
 have q1 := q 1 abr
 have q14 := q 14 abr
 have q15 := q 15 abr
 have q16 := q 16 abr
 have q17 := q 17 abr
 have q18 := q 18 abr
 have q19 := q 19 abr
 have q20 := q 20 abr
 have q21 := q 21 abr
 have q22 := q 22 abr
 have q23 := q 23 abr
 have q24 := q 24 abr
 have q25 := q 25 abr
 have q26 := q 26 abr
 have q27 := q 27 abr
 have q28 := q 28 abr
 have q29 := q 29 abr
 clear h0 q
 go_enter Tryz.func69, Tryz.ntmps69
 go_wp2_with fail
 refine bodyPost_ret (v := .tuple #[.string ⟨#[]⟩, .int .i64 1, .int .i64 0, .bool false]) (by simp [results, Tryz.results69, go_sem, *]) rfl ⟨rfl, by first | rfl | trivial⟩
def ri (x : Int) (u : Bool) : Bool := if u = true then decide (0 ≤ x) && decide (x < 16) else decide (x = 0)
theorem vD (x : Int) (u : Bool) (w : World) : Calls Tryz.prog 82 #[.int .i64 x, .bool u] w fun e w' => e = .returned (.bool (ri x u)) ∧ w = w' := by
 cases u with
 | false =>
  rcases h : (x == 0)
  all_goals
   go_enter Tryz.func82, Tryz.ntmps82
   go_wp2_with fail
   go_ret
   simp at h
   exact ⟨bC (by simp [ri, h]), by first | rfl | trivial⟩
 | true =>
  rcases h : decide (0 ≤ x) <;> rcases h2 : decide (x < 16)
  all_goals
   go_enter Tryz.func82, Tryz.ntmps82
   go_wp2_with fail
   go_ret
   exact ⟨bC (by simp only [ri, if_true, h, h2]; rfl), by first | rfl | trivial⟩
theorem nS : ∀ k, k < 30 → (0 < (kD k).length ↔ (di k).BK = 15) ∧ (1 < (kD k).length ↔ (di k).BH = 15) ∧ (2 < (kD k).length ↔ (di k).BF = 15) ∧ ((di k).BK = 15 ∨ (di k).BK = 0) ∧ ((di k).BH = 15 ∨ (di k).BH = 0) ∧ ((di k).BF = 15 ∨ (di k).BF = 0) := by decide
theorem MD : ∀ k, k < 30 → (Jc k < Jb k ∧ kf k = 0 ∧ kj k = 0) ∨ (Jb k ≤ Jc k ∧ kf k = Jb k ∧ kj k = Jc k) := by decide
theorem qZ {x h : Int} {n m : Nat} (h1 : m < n ↔ h = 15) (h2 : h = 15 ∨ h = 0) : ri x (decide (m < n)) = true ↔ 0 ≤ x ∧ x ≤ h := by
 unfold ri
 by_cases e : m < n
 ·rw [decide_eq_true e, if_pos rfl, h1.1 e]
  simp
  omega
 ·have : h = 0 := by rcases h2 with h2 | h2; exact absurd (h1.2 h2) e; exact h2
  rw [decide_eq_false e, if_neg aby, this]
  simp
  omega
theorem iu (i : aZ) (h0 : 0 ≤ i.op) (w : World) : Calls Tryz.prog 40 #[.agg #[.int .u8 i.op, .int .i64 i.a, .int .i64 i.b, .int .i64 i.c, .int .i64 i.aS]] w fun e w' => e = .returned (.bool (aU i)) ∧ Below w.heap.size w w' := by
 have HV := acD (cU h0)
 obtain ⟨vi, MR⟩ : ∃ vi, aU i = vi := ⟨_, rfl⟩
 rw [MR] at HV ⊢
 clear MR
 obtain ⟨op, a, b, c, aS⟩ := i
 simp only at h0 HV ⊢
 obtain ⟨V, hV⟩ : ∃ V, w.alloc (.cells #[.int .u8 op, .int .i64 a, .int .i64 b, .int .i64 c, .int .i64 aS] 64) = V := ⟨_, rfl⟩
 have bV : Below w.heap.size w V := hV ▸ (Below.refl _ _).alloc (Nat.le_refl _) _
 have kV : V.heap[w.heap.size]? = some (.cells #[.int .u8 op, .int .i64 a, .int .i64 b, .int .i64 c, .int .i64 aS] 64) := hV ▸ heap_alloc_new _ _
 have y0 : V.cell? ⟨w.heap.size, 0, none⟩ = some (.int .u8 op) := by simp [World.cell?, kV]
 have y1 : V.cell? ⟨w.heap.size, 1, none⟩ = some (.int .i64 a) := by simp [World.cell?, kV]
 have y2 : V.cell? ⟨w.heap.size, 2, none⟩ = some (.int .i64 b) := by simp [World.cell?, kV]
 have y3 : V.cell? ⟨w.heap.size, 3, none⟩ = some (.int .i64 c) := by simp [World.cell?, kV]
 have y4 : V.cell? ⟨w.heap.size, 4, none⟩ = some (.int .i64 aS) := by simp [World.cell?, kV]
 have sV : w.heap.size < V.heap.size := by rw [← hV]; simp
 have BV := acD bV
 clear bV kV
 by_cases ho : op < 30
 case neg =>
  have HF := acD (fun W => z7 op abo W)
  have hn : vi = false := by
   cases vi with
   | false => rfl
   | true => obtain ⟨k, hk⟩ := HV.out.1 rfl; have := hk.op; have := hk.lt; simp only at *; omega
  subst hn
  clear ho HV h0
  go_enter Tryz.func40, Tryz.ntmps40
  go_wp2_with (go_at_call 69; refine (HF.out _).mono ?_; rintro e w' ⟨rfl, rfl⟩)
  go_ret
  exact ⟨rfl, BV.out⟩
 obtain ⟨k, rfl⟩ : ∃ k : Nat, op = (k : Int) := ⟨op.toNat, by omega⟩
 have hk : k < 30 := by omega
 have HF := acD (fun W => mY k hk W)
 obtain ⟨n1, n2, n3, n4, n5, n6⟩ := nS k hk
 have HL := acD (MD k hk)
 have RA := acD (qZ (x := a) n1 n4)
 have RB := acD (qZ (x := b) n2 n5)
 have RC := acD (qZ (x := c) n3 n6)
 have HG := acD (show vi = true ↔ (ri a (decide (0 < (kD k).length)) = true ∧ ri b (decide (1 < (kD k).length)) = true ∧ ri c (decide (2 < (kD k).length)) = true) ∧ (kf k ≤ aS ∧ aS ≤ kj k) from by
  rw [HV.out, RA.out, RB.out, RC.out]
  constructor
  ·rintro ⟨k', g1, g2, g3, g4, g5, g6⟩
   have : k = k' := by simp only at g1; omega
   subst this
   exact ⟨⟨g3, g4, g5⟩, g6⟩
  ·rintro ⟨⟨g3, g4, g5⟩, g6⟩
   exact ⟨k, rfl, hk, g3, g4, g5, g6⟩)
 have hsz : (ByteArray.mk (kD k).toArray).size = (kD k).length := by simp [ByteArray.size]
 obtain ⟨fs, I8⟩ : ∃ fs : ByteArray, (⟨(kD k).toArray⟩ : ByteArray) = fs := ⟨_, rfl⟩
 obtain ⟨lo, hlo⟩ : ∃ lo, Jb k = lo := ⟨_, rfl⟩
 obtain ⟨hi, hhi⟩ : ∃ hi, Jc k = hi := ⟨_, rfl⟩
 unfold yA at HF
 rw [I8] at hsz
 have AU := acD (show ∀ W, Calls Tryz.prog 69 #[.int .u8 (k : Int)] W fun e w' => e = .returned (.tuple #[.string fs, .int .i64 lo, .int .i64 hi, .bool true]) ∧ W = w' from fun W => by rw [← I8, ← hlo, ← hhi]; exact HF.out W)
 rw [hlo, hhi] at HL
 rw [← hsz] at HG
 obtain ⟨uA, VR⟩ : ∃ uA, decide (0 < fs.size) = uA := ⟨_, rfl⟩
 obtain ⟨uB, N4⟩ : ∃ uB, decide (1 < fs.size) = uB := ⟨_, rfl⟩
 obtain ⟨uC, N3⟩ : ∃ uC, decide (2 < fs.size) = uC := ⟨_, rfl⟩
 have iA : decide ((0 : Int) < (fs.size : Int)) = uA := by rw [← VR]; exact decide_eq_decide.2 abo
 have iB : decide ((1 : Int) < (fs.size : Int)) = uB := by rw [← N4]; exact decide_eq_decide.2 abo
 have iC : decide ((2 : Int) < (fs.size : Int)) = uC := by rw [← N3]; exact decide_eq_decide.2 abo
 rw [VR, N4, N3] at HG
 have GA := acD (fun W => vD a uA W)
 have GB := acD (fun W => vD b uB W)
 have GC := acD (fun W => vD c uC W)
 clear hlo hhi I8 hsz HF RA RB RC n1 n2 n3 n4 n5 n6 HV ho h0 hk
 rcases hA : ri a uA
 ·rw [hA] at HG GA
  have hn : vi = false := by cases vi with | false => rfl | true => simpa using (HG.out.1 rfl).1.1
  clear hA
  go_enter Tryz.func40, Tryz.ntmps40
  go_wp2_with (first | (go_at_call 69; refine (AU.out _).mono ?_; rintro e w' ⟨rfl, rfl⟩) | (go_at_call 82; refine (GA.out _).mono ?_; rintro e w' ⟨rfl, rfl⟩))
  go_ret
  exact ⟨by subst hn; rfl, BV.out⟩
 rw [hA] at HG GA
 clear hA
 rcases hB : ri b uB
 ·rw [hB] at HG GB
  have hn : vi = false := by cases vi with | false => rfl | true => simpa using (HG.out.1 rfl).1.2.1
  clear hB
  go_enter Tryz.func40, Tryz.ntmps40
  go_wp2_with (first | (go_at_call 69; refine (AU.out _).mono ?_; rintro e w' ⟨rfl, rfl⟩) | (go_at_call 82; first | (with_reducible refine (GA.out _).mono ?_; rintro e w' ⟨rfl, rfl⟩) | (with_reducible refine (GB.out _).mono ?_; rintro e w' ⟨rfl, rfl⟩)))
  go_ret
  exact ⟨by subst hn; rfl, BV.out⟩
 rw [hB] at HG GB
 clear hB
 rcases hC : ri c uC
 ·rw [hC] at HG GC
  have hn : vi = false := by cases vi with | false => rfl | true => simpa using (HG.out.1 rfl).1.2.2
  clear hC
  go_enter Tryz.func40, Tryz.ntmps40
  go_wp2_with (first | (go_at_call 69; refine (AU.out _).mono ?_; rintro e w' ⟨rfl, rfl⟩) | (go_at_call 82; first | (with_reducible refine (GA.out _).mono ?_; rintro e w' ⟨rfl, rfl⟩) | (with_reducible refine (GB.out _).mono ?_; rintro e w' ⟨rfl, rfl⟩) | (with_reducible refine (GC.out _).mono ?_; rintro e w' ⟨rfl, rfl⟩)))
  go_ret
  exact ⟨by subst hn; rfl, BV.out⟩
 rw [hC] at HG GC
 clear hC
 rcases HL.out with ⟨l1, l2, l3⟩ | ⟨l1, l2, l3⟩
 ·have d : decide (hi < lo) = true := decide_eq_true l1
  have hn : vi = (aS == 0) := by
   apply Bool.eq_iff_iff.2
   rw [HG.out, l2, l3]
   simp
   omega
  clear l1 l2 l3 HL
  go_enter Tryz.func40, Tryz.ntmps40
  go_wp2_with (first | (go_at_call 69; refine (AU.out _).mono ?_; rintro e w' ⟨rfl, rfl⟩) | (go_at_call 82; first | (with_reducible refine (GA.out _).mono ?_; rintro e w' ⟨rfl, rfl⟩) | (with_reducible refine (GB.out _).mono ?_; rintro e w' ⟨rfl, rfl⟩) | (with_reducible refine (GC.out _).mono ?_; rintro e w' ⟨rfl, rfl⟩)))
  go_ret
  exact ⟨by subst hn; rfl, BV.out⟩
 ·have d : decide (hi < lo) = false := decide_eq_false abo
  have hn : vi = (decide (lo ≤ aS) && decide (aS ≤ hi)) := by
   apply Bool.eq_iff_iff.2
   rw [HG.out, l2, l3]
   simp
  clear l1 l2 l3 HL
  rcases h5 : decide (lo ≤ aS) <;> rcases h6 : decide (aS ≤ hi)
  all_goals
   rw [h5, h6] at hn
   go_enter Tryz.func40, Tryz.ntmps40
   go_wp2_with (first | (go_at_call 69; refine (AU.out _).mono ?_; rintro e w' ⟨rfl, rfl⟩) | (go_at_call 82; first | (with_reducible refine (GA.out _).mono ?_; rintro e w' ⟨rfl, rfl⟩) | (with_reducible refine (GB.out _).mono ?_; rintro e w' ⟨rfl, rfl⟩) | (with_reducible refine (GC.out _).mono ?_; rintro e w' ⟨rfl, rfl⟩)))
   go_ret
   exact ⟨by subst hn; rfl, BV.out⟩
end
section
open Go.RowKit
theorem xY (i : aZ) (k : Nat) (hg : Good i k) (w : World) : Calls Tryz.prog 70 #[.agg #[.int .u8 i.op, .int .i64 i.a, .int .i64 i.b, .int .i64 i.c, .int .i64 i.aS]] w fun e w' => e = .returned (.int .u32 (jy i)) ∧ Below w.heap.size w w' := by
 have hk := hg.lt
 have hb := pz k hk
 have hop := hg.op
 have HL := acD (MD k hk)
 have HN := acD hg.Gn
 have h1 := hg.a
 have h2 := hg.b
 have h3 := hg.c
 have h4 := hg.aS
 obtain ⟨_, _, _, n4, n5, n6⟩ := nS k hk
 have a1 : 0 ≤ i.a ∧ i.a ≤ 15 := by omega
 have a2 : 0 ≤ i.b ∧ i.b ≤ 15 := by omega
 have a3 : 0 ≤ i.c ∧ i.c ≤ 15 := by omega
 have HI := acD h4
 have a4 : -131072 ≤ i.aS ∧ i.aS ≤ 131071 := by omega
 have HF := acD (fun W => mY k hk W)
 clear h1 h2 h3 h4 n4 n5 n6 hb hg
 unfold jy at HN ⊢
 obtain ⟨op, a, b, c, aS⟩ := i
 simp only at hop a1 a2 a3 a4 HI HN ⊢
 subst hop
 obtain ⟨z, hz0⟩ : ∃ z, (if aS < 0 then aS + 262144 else aS) = z := ⟨_, rfl⟩
 rw [hz0] at HN ⊢
 have HZ := acD hz0
 clear hz0
 obtain ⟨lo, hlo⟩ : ∃ lo, Jb k = lo := ⟨_, rfl⟩
 obtain ⟨hi, hhi⟩ : ∃ hi, Jc k = hi := ⟨_, rfl⟩
 obtain ⟨fs, I8⟩ : ∃ fs : ByteArray, (⟨(kD k).toArray⟩ : ByteArray) = fs := ⟨_, rfl⟩
 unfold yA at HF
 have AU := acD (show ∀ W, Calls Tryz.prog 69 #[.int .u8 (k : Int)] W fun e w' => e = .returned (.tuple #[.string fs, .int .i64 lo, .int .i64 hi, .bool true]) ∧ W = w' from fun W => by rw [← I8, ← hlo, ← hhi]; exact HF.out W)
 rw [hlo, hhi] at HL
 clear hlo hhi I8 HF
 have u1 : IntKind.u32.wrap (k : Int) = (k : Int) := IntWalk.u32_in _ abo
 have u2 : IntKind.u32.wrap ((k : Int) * 67108864) = (k : Int) * 67108864 := IntWalk.u32_in _ abo
 have u3 : IntKind.u32.wrap a = a := IntWalk.u32_in _ abo
 have u4 : IntKind.u32.wrap (a * 4194304) = a * 4194304 := IntWalk.u32_in _ abo
 have u5 : IntKind.u32.wrap ((k : Int) * 67108864 + a * 4194304) = (k : Int) * 67108864 + a * 4194304 := IntWalk.u32_in _ abo
 have u6 : IntKind.u32.wrap b = b := IntWalk.u32_in _ abo
 have u7 : IntKind.u32.wrap (b * 262144) = b * 262144 := IntWalk.u32_in _ abo
 have u8 : IntKind.u32.wrap ((k : Int) * 67108864 + a * 4194304 + b * 262144) = (k : Int) * 67108864 + a * 4194304 + b * 262144 := IntWalk.u32_in _ abo
 have u9 : IntKind.u32.wrap c = c := IntWalk.u32_in _ abo
 have u10 : IntKind.u32.wrap (c * 16384) = c * 16384 := IntWalk.u32_in _ abo
 have u11 : IntKind.u32.wrap ((k : Int) * 67108864 + a * 4194304 + b * 262144 + c * 16384) = (k : Int) * 67108864 + a * 4194304 + b * 262144 + c * 16384 := IntWalk.u32_in _ abo
 rcases HL.out with ⟨l1, l2, l3⟩ | ⟨l1, l2, l3⟩
 ·have d : decide (hi < lo) = true := decide_eq_true l1
  have hz : aS = 0 := by have := HI.out; omega
  subst hz
  clear l1 l2 l3 HL
  go_enter Tryz.func70, Tryz.ntmps70
  go_wp2_with (go_at_call 69; refine (AU.out _).mono ?_; rintro e w' ⟨rfl, rfl⟩)
  go_ret
  exact ⟨eu (by rw [← HZ.out]; simp), (Below.refl _ _).alloc (Nat.le_refl _) _⟩
 ·have d : decide (hi < lo) = false := decide_eq_false abo
  clear l1 l2 l3 HL
  by_cases hneg : aS < 0
  ·have d2 : decide (aS < 0) = true := decide_eq_true hneg
   have u12 : IntKind.i64.wrap (aS + 262144) = aS + 262144 := IntWalk.i64_in _ abo
   have u13 : IntKind.u32.wrap (aS + 262144) = aS + 262144 := IntWalk.u32_in _ abo
   have u14 : IntKind.u32.wrap ((k : Int) * 67108864 + a * 4194304 + b * 262144 + c * 16384 + (aS + 262144)) = (k : Int) * 67108864 + a * 4194304 + b * 262144 + c * 16384 + (aS + 262144) := IntWalk.u32_in _ (by have := HN.out; have := HZ.out; rw [if_pos hneg] at this; omega)
   have HH := acD (show aS + 262144 = z from by rw [← HZ.out, if_pos hneg])
   clear hneg
   go_enter Tryz.func70, Tryz.ntmps70
   go_wp2_with (go_at_call 69; refine (AU.out _).mono ?_; rintro e w' ⟨rfl, rfl⟩)
   go_ret
   exact ⟨eu (by rw [HH.out]), (Below.refl _ _).alloc (Nat.le_refl _) _⟩
  ·have d2 : decide (aS < 0) = false := decide_eq_false hneg
   have u13 : IntKind.u32.wrap aS = aS := IntWalk.u32_in _ abo
   have u14 : IntKind.u32.wrap ((k : Int) * 67108864 + a * 4194304 + b * 262144 + c * 16384 + aS) = (k : Int) * 67108864 + a * 4194304 + b * 262144 + c * 16384 + aS := IntWalk.u32_in _ (by have := HN.out; have := HZ.out; rw [if_neg hneg] at this; omega)
   have HH := acD (show aS = z from by rw [← HZ.out, if_neg hneg])
   clear hneg
   go_enter Tryz.func70, Tryz.ntmps70
   go_wp2_with (go_at_call 69; refine (AU.out _).mono ?_; rintro e w' ⟨rfl, rfl⟩)
   go_ret
   exact ⟨eu (by rw [HH.out]), (Below.refl _ _).alloc (Nat.le_refl _) _⟩
def vE (x : Int) (k : Nat) : aZ := ⟨(k : Int), x / 4194304 % 16, if 1 < (kD k).length then x / 262144 % 16 else 0, if 2 < (kD k).length then x / 16384 % 16 else 0, if Jb k ≤ Jc k then (if 131071 < x % 262144 then x % 262144 - 262144 else x % 262144) else 0⟩
def lJ.Lr : lJ → Bool | .MB => false | .Nr => false | .Nq => true | .ai => true | .i => true
theorem Mo : ∀ k, k < 30 → decide (Jb k ≤ Jc k) = (di k).Lr := by decide
theorem F6 {i : aZ} {k : Nat} (h : Good i k) : vE (jy i) k = i := by
 have hk := h.lt
 have hi := pz _ hk
 have ha := h.a
 have hb := h.b
 have hc := h.c
 have hm := h.aS
 have hop := h.op
 have hL := MD k hk
 have hS := Mo k hk
 obtain ⟨op, a, b, c, aS⟩ := i
 simp only at ha hb hc hm hop
 unfold vE jy
 simp only [aZ.mk.injEq, hop]
 cases hs : di k <;> rw [hs] at ha hb hc hS <;> simp only [lJ.BK, lJ.BH, lJ.BF, lJ.Lr, decide_eq_true_eq, decide_eq_false_iff_not, kD, hs, List.length_cons, List.length_nil] at ha hb hc hS ⊢
 all_goals
  simp only [hS, if_true, if_false, true_and, Nat.reduceAdd, Nat.reduceLT]
  split <;> (try split) <;> (refine ⟨?_, ?_, ?_, ?_⟩ <;> omega)
end
section
open Go.RowKit
theorem Good.JO {i : aZ} {k : Nat} (h : Good i k) : jy i / 67108864 = (k : Int) := by
 have hk := h.lt
 have hi := pz _ hk
 have ha := h.a
 have hb := h.b
 have hc := h.c
 have hm := h.aS
 have hz := qA _ hk
 have hop := h.op
 unfold jy
 cases hs : di k <;> rw [hs] at ha hb hc hz <;> simp only [lJ.BK, lJ.BH, lJ.BF, lJ.ops, true_or, or_true, forall_const] at ha hb hc hz <;> split <;> omega
theorem H7 {x : Int} {k : Nat} (h0 : 0 ≤ x) (hk : x / 67108864 = (k : Int)) : cx x = if aU (vE x k) = true ∧ jy (vE x k) = x then (vE x k, 0) else (⟨0, 0, 0, 0, 0⟩, 3) := by
 by_cases h : aU (vE x k) = true ∧ jy (vE x k) = x
 ·rw [if_pos h]
  obtain ⟨k', hg⟩ := (cU (by show 0 ≤ (k : Int); omega)).1 h.1
  have := hg.dec
  rw [h.2] at this
  exact this
 ·rw [if_neg h]
  by_cases h2 : (cx x).2 = 0
  ·obtain ⟨k', hg, hn⟩ := Ei h0 h2
   have h3 := hg.JO
   rw [hn] at h3
   have hkk : k' = k := by omega
   subst hkk
   have h4 := F6 hg
   rw [hn] at h4
   rw [h4] at h
   exact absurd ⟨(cU (by have := hg.op; omega)).2 ⟨_, hg⟩, hn⟩ h
  ·unfold cx at h2 ⊢
   by_cases h5 : x / 67108864 < 30 ∧ jo (iQ x) = (x, 0)
   ·rw [if_pos h5] at h2
    exact absurd rfl h2
   ·rw [if_neg h5]
theorem lQ {w : World} {b : Nat} {o : Obj} (h : w.heap[b]? = some o) : b < w.heap.size := (Array.getElem?_eq_some_iff.1 h).1
theorem ye (x : Int) (hx0 : 0 ≤ x) (hx1 : x < 4294967296) (w : World) :
  Calls Tryz.prog 31 #[.int .u32 x] w fun e w' => e = .returned (.tuple #[(cx x).1.val, .bool (decide ((cx x).2 = 0))]) ∧ Below w.heap.size w w' := by
 obtain ⟨q, hq⟩ : ∃ q, x / 67108864 = q := ⟨_, rfl⟩
 have td : ∀ m : Int, 0 < m → m ≤ 4294967296 → x.tdiv m % 4294967296 = x / m := fun m h1 h2 => by
  rw [Int.tdiv_eq_ediv_of_nonneg hx0]
  exact Int.emod_eq_of_lt (Int.ediv_nonneg hx0 abo) (Int.lt_of_le_of_lt (Int.ediv_le_self m hx0) hx1)
 have td0 : x.tdiv 67108864 % 4294967296 = q := by rw [td _ abr abr, hq]
 by_cases VV : q < 30
 case neg =>
  have HD := acD (show cx x = (⟨0, 0, 0, 0, 0⟩, 3) by unfold cx; simp [hq, VV])
  have d : decide (30 ≤ q) = true := by simp; omega
  go_enter Tryz.func31, Tryz.ntmps31
  go_wp2_with fail
  refine bodyPost_ret (v := .tuple #[.agg #[.int .u8 0, .int .i64 0, .int .i64 0, .int .i64 0, .int .i64 0], .bool false]) ab0 rfl ⟨?_, ?_⟩
  ·rw [HD.out]; rfl
  ·(repeat (first | exact Below.refl _ _ | refine Below.setCell ?_ ?_ _ | refine Below.alloc ?_ ?_ _)) <;> (first | (simp; done) | (simp; omega) | omega)
 obtain ⟨k, rfl⟩ : ∃ k : Nat, q = (k : Int) := ⟨q.toNat, by omega⟩
 have hk : k < 30 := by omega
 obtain ⟨A4, WN⟩ : ∃ A4, x / 4194304 = A4 := ⟨_, rfl⟩
 obtain ⟨B4, WM⟩ : ∃ B4, x / 262144 = B4 := ⟨_, rfl⟩
 obtain ⟨C4, RU⟩ : ∃ C4, x / 16384 = C4 := ⟨_, rfl⟩
 have Rn : x.tdiv 4194304 % 4294967296 = A4 := by rw [td _ abr abr, WN]
 have Yp : x.tdiv 262144 % 4294967296 = B4 := by rw [td _ abr abr, WM]
 have Yo : x.tdiv 16384 % 4294967296 = C4 := by rw [td _ abr abr, RU]
 have d30 : decide (30 ≤ (k : Int)) = false := by simp; omega
 have Uo : decide (30 ≤ k) = false := by simp; omega
 have HD := acD (H7 hx0 hq)
 have HF := acD (fun W => mY k hk W)
 have hsz : (ByteArray.mk (kD k).toArray).size = (kD k).length := by simp [ByteArray.size]
 obtain ⟨fs, I8⟩ : ∃ fs : ByteArray, (⟨(kD k).toArray⟩ : ByteArray) = fs := ⟨_, rfl⟩
 obtain ⟨lo, hlo⟩ : ∃ lo, Jb k = lo := ⟨_, rfl⟩
 obtain ⟨hi, hhi⟩ : ∃ hi, Jc k = hi := ⟨_, rfl⟩
 unfold yA at HF
 rw [I8] at hsz
 have AU := acD (show ∀ W, Calls Tryz.prog 69 #[.int .u8 (k : Int)] W fun e w' => e = .returned (.tuple #[.string fs, .int .i64 lo, .int .i64 hi, .bool true]) ∧ W = w' from fun W => by rw [← I8, ← hlo, ← hhi]; exact HF.out W)
 obtain ⟨a4, ha4⟩ : ∃ a4, x / 4194304 % 16 = a4 := ⟨_, rfl⟩
 obtain ⟨b4, hb4⟩ : ∃ b4, x / 262144 % 16 = b4 := ⟨_, rfl⟩
 obtain ⟨c4, hc4⟩ : ∃ c4, x / 16384 % 16 = c4 := ⟨_, rfl⟩
 obtain ⟨m4, hm4⟩ : ∃ m4, x % 262144 = m4 := ⟨_, rfl⟩
 have Rm : A4 % 16 = a4 := by omega
 have Yn : B4 % 16 = b4 := by omega
 have Ym : C4 % 16 = c4 := by omega
 have Yl : x % 262144 = m4 := by omega
 have Yk : x.tmod 262144 = m4 := by rw [Int.tmod_eq_emod_of_nonneg hx0]; omega
 obtain ⟨uB, N4⟩ : ∃ uB, decide (1 < fs.size) = uB := ⟨_, rfl⟩
 obtain ⟨uC, N3⟩ : ∃ uC, decide (2 < fs.size) = uC := ⟨_, rfl⟩
 obtain ⟨uL, VQ⟩ : ∃ uL, decide (lo ≤ hi) = uL := ⟨_, rfl⟩
 obtain ⟨uM, VP⟩ : ∃ uM, decide (131071 < m4) = uM := ⟨_, rfl⟩
 have Tw : decide ((1 : Int) < (fs.size : Int)) = uB := by rw [← N4]; exact decide_eq_decide.2 abo
 have Tv : decide ((2 : Int) < (fs.size : Int)) = uC := by rw [← N3]; exact decide_eq_decide.2 abo
 have hr4 : vE x k = ⟨(k : Int), a4, if uB = true then b4 else 0, if uC = true then c4 else 0, if uL = true then (if uM = true then m4 - 262144 else m4) else 0⟩ := by
  unfold vE
  rw [ha4, hb4, hc4, hm4, hlo, hhi, ← hsz, ← N4, ← N3, ← VQ, ← VP]
  simp only [decide_eq_true_eq]
 rw [hr4] at HD
 have HV := acD (fun W : World => iu ⟨(k : Int), a4, if uB = true then b4 else 0, if uC = true then c4 else 0, if uL = true then (if uM = true then m4 - 262144 else m4) else 0⟩ (by show 0 ≤ (k : Int); omega) W)
 have HE := acD (show aU ⟨(k : Int), a4, if uB = true then b4 else 0, if uC = true then c4 else 0, if uL = true then (if uM = true then m4 - 262144 else m4) else 0⟩ = true → ∀ W : World, _ from fun h W => by
  have hg := (cU (by show 0 ≤ (k : Int); omega)).1 h
  exact (xY _ hg.choose hg.choose_spec W))
 simp only at HV HE
 obtain ⟨i4, hi4⟩ : ∃ i4 : aZ, (⟨(k : Int), a4, if uB = true then b4 else 0, if uC = true then c4 else 0, if uL = true then (if uM = true then m4 - 262144 else m4) else 0⟩ : aZ) = i4 := ⟨_, rfl⟩
 rw [hi4] at HD HV HE
 obtain ⟨vi, MR⟩ : ∃ vi, aU i4 = vi := ⟨_, rfl⟩
 obtain ⟨N, hN⟩ : ∃ N, jy i4 = N := ⟨_, rfl⟩
 rw [MR, hN] at HD
 rw [MR] at HV
 rw [MR, hN] at HE
 have wC := acD hi4
 have wk : (k : Int) % 256 = (k : Int) := by omega
 have wa : wrap64 a4 = a4 := IntWalk.wrap64_in _ abo
 have wb : wrap64 b4 = b4 := IntWalk.wrap64_in _ abo
 have Yi : wrap64 c4 = c4 := IntWalk.wrap64_in _ abo
 have wm : wrap64 m4 = m4 := IntWalk.wrap64_in _ abo
 have wm3 : wrap64 (m4 - 262144) = m4 - 262144 := IntWalk.wrap64_in _ abo
 have wm2 : IntKind.i64.wrap (m4 - 262144) = m4 - 262144 := IntWalk.i64_in _ abo
 clear I8 hsz hlo hhi HF hi4 hr4 MR hN hx0 hx1 VV hk td WN WM RU ha4 hb4 hc4 hm4 hq
 go_enter Tryz.func31, Tryz.ntmps31
 go_upto_region 6 with (go_at_call 69; refine (AU.out _).mono ?_; rintro e w' ⟨rfl, rfl⟩)
 obtain ⟨X, hX⟩ : ∃ X, (w.alloc (.cells #[.int .u8 0, .int .i64 0, .int .i64 0, .int .i64 0, .int .i64 0] 64)).alloc (.cells #[.int .u8 (k : Int), .int .i64 a4, .int .i64 0, .int .i64 0, .int .i64 0] 64) = X := ⟨_, rfl⟩
 have kX : X.heap[w.heap.size + 1]? = some (.cells #[.int .u8 (k : Int), .int .i64 a4, .int .i64 0, .int .i64 0, .int .i64 0] 64) := by rw [← hX]; exact bB _ _ aby
 have kR : X.heap[w.heap.size]? = some (.cells #[.int .u8 0, .int .i64 0, .int .i64 0, .int .i64 0, .int .i64 0] 64) := by rw [← hX, heap_alloc_old _ _ aby]; exact heap_alloc_new _ _
 have bX : Below w.heap.size w X := hX ▸ ((Below.refl _ _).alloc (Nat.le_refl _) _).alloc aby _
 have sX : w.heap.size + 2 = X.heap.size := by rw [← hX]; simp
 rw [hX]
 clear hX
 obtain ⟨b', hb'⟩ : ∃ b', (if uB = true then b4 else 0) = b' := ⟨_, rfl⟩
 obtain ⟨c', hc'⟩ : ∃ c', (if uC = true then c4 else 0) = c' := ⟨_, rfl⟩
 obtain ⟨m', hm'⟩ : ∃ m', (if uL = true then (if uM = true then m4 - 262144 else m4) else 0) = m' := ⟨_, rfl⟩
 rw [hb', hc', hm'] at HV HE wC
 have X6 := acD hb'
 have XX := acD hc'
 have EO := acD hm'
 have hwl : w.heap.size + 1 < X.heap.size := by omega
 clear hb' hc' hm' sX
 have K1 := acD kX
 have KR := acD kR
 have BX := acD bX
 go_upto_if 32 with fail
 go_cut [5] from 26 to 37 (fun a5 wx => a5 = .string fs ∧ wx.heap[w.heap.size + 1]? = some (.cells #[.int .u8 (k : Int), .int .i64 a4, .int .i64 b', .int .i64 0, .int .i64 0] 64) ∧ wx.heap[w.heap.size]? = some (.cells #[.int .u8 0, .int .i64 0, .int .i64 0, .int .i64 0, .int .i64 0] 64) ∧ Below w.heap.size w wx)
 case first =>
  clear HV HE HD wC AU Rn Rm td0
  have o0 : X.cell? ⟨w.heap.size + 1, 0, none⟩ = some (.int .u8 (k : Int)) := by simp [World.cell?, kX]
  have o2 : X.cell? ⟨w.heap.size + 1, 2, none⟩ = some (.int .i64 0) := by simp [World.cell?, kX]
  have o3 : X.cell? ⟨w.heap.size + 1, 3, none⟩ = some (.int .i64 0) := by simp [World.cell?, kX]
  have o4 : X.cell? ⟨w.heap.size + 1, 4, none⟩ = some (.int .i64 0) := by simp [World.cell?, kX]
  have f2 : X.frozen? ⟨w.heap.size + 1, 2, none⟩ = false := by simp [World.frozen?, kX]
  have f3 : X.frozen? ⟨w.heap.size + 1, 3, none⟩ = false := by simp [World.frozen?, kX]
  have f4 : X.frozen? ⟨w.heap.size + 1, 4, none⟩ = false := by simp [World.frozen?, kX]
  clear kX kR bX
  cases uB
  all_goals
   go_wp2_with fail
   go_meet
   case rel =>
    refine ⟨rfl, ?_, ?_, ?_⟩
    ·rw [← X6.out]
     first
      | exact K1.out
      | exact heap_setCell_same _ _ _ _ _ _ K1.out
      | exact heap_setCell_same _ _ _ _ _ _ (heap_setCell_same _ _ _ _ _ _ K1.out)
    ·repeat rw [Below.heap_setCell _ _ _ _ abT]
     exact KR.out
    ·(repeat (first | exact BX.out | refine Below.setCell ?_ ?_ _)) <;> (show w.heap.size ≤ w.heap.size + 1; omega)
 case rest =>
  obtain ⟨rfl, kI, kR, bc⟩ := hcut
  obtain ⟨W1, hW1⟩ : ∃ W1 : World, W1 = wc := ⟨_, rfl⟩
  subst hW1
  clear K1 KR BX kX bX
  have K1 := acD kI
  have KR := acD kR
  have BX := acD bc
  go_upto_if 40 with fail
  go_cut [5] from 38 to 45 (fun a5 wx => a5 = .string fs ∧ wx.heap[w.heap.size + 1]? = some (.cells #[.int .u8 (k : Int), .int .i64 a4, .int .i64 b', .int .i64 c', .int .i64 0] 64) ∧ wx.heap[w.heap.size]? = some (.cells #[.int .u8 0, .int .i64 0, .int .i64 0, .int .i64 0, .int .i64 0] 64) ∧ Below w.heap.size w wx)
  case first =>
   clear HV HE HD wC AU Rn Rm td0
   have o0 : W1.cell? ⟨w.heap.size + 1, 0, none⟩ = some (.int .u8 (k : Int)) := by simp [World.cell?, kI]
   have o2 : W1.cell? ⟨w.heap.size + 1, 2, none⟩ = some (.int .i64 b') := by simp [World.cell?, kI]
   have o3 : W1.cell? ⟨w.heap.size + 1, 3, none⟩ = some (.int .i64 0) := by simp [World.cell?, kI]
   have o4 : W1.cell? ⟨w.heap.size + 1, 4, none⟩ = some (.int .i64 0) := by simp [World.cell?, kI]
   have f2 : W1.frozen? ⟨w.heap.size + 1, 2, none⟩ = false := by simp [World.frozen?, kI]
   have f3 : W1.frozen? ⟨w.heap.size + 1, 3, none⟩ = false := by simp [World.frozen?, kI]
   have f4 : W1.frozen? ⟨w.heap.size + 1, 4, none⟩ = false := by simp [World.frozen?, kI]
   have hwl : w.heap.size + 1 < W1.heap.size := lQ kI
   clear kI kR bc
   cases uC
   all_goals
    go_wp2_with fail
    go_meet
    case rel =>
     refine ⟨rfl, ?_, ?_, ?_⟩
     ·rw [← XX.out]
      first
       | exact K1.out
       | exact heap_setCell_same _ _ _ _ _ _ K1.out
       | exact heap_setCell_same _ _ _ _ _ _ (heap_setCell_same _ _ _ _ _ _ K1.out)
     ·repeat rw [Below.heap_setCell _ _ _ _ abT]
      exact KR.out
     ·(repeat (first | exact BX.out | refine Below.setCell ?_ ?_ _)) <;> (show w.heap.size ≤ w.heap.size + 1; omega)
  case rest =>
   obtain ⟨rfl, kI, kR, bc⟩ := hcut
   obtain ⟨W2, hW2⟩ : ∃ W2 : World, W2 = wc := ⟨_, rfl⟩
   subst hW2
   clear K1 KR BX
   have K1 := acD kI
   have KR := acD kR
   have BX := acD bc
   go_upto_if 48 with fail
   go_cut [5] from 46 to 59 (fun a5 wx => a5 = .string fs ∧ wx.heap[w.heap.size + 1]? = some (.cells #[.int .u8 (k : Int), .int .i64 a4, .int .i64 b', .int .i64 c', .int .i64 m'] 64) ∧ wx.heap[w.heap.size]? = some (.cells #[.int .u8 0, .int .i64 0, .int .i64 0, .int .i64 0, .int .i64 0] 64) ∧ Below w.heap.size w wx)
   case first =>
    clear HV HE HD wC AU Rn Rm td0
    have o0 : W2.cell? ⟨w.heap.size + 1, 0, none⟩ = some (.int .u8 (k : Int)) := by simp [World.cell?, kI]
    have o2 : W2.cell? ⟨w.heap.size + 1, 2, none⟩ = some (.int .i64 b') := by simp [World.cell?, kI]
    have o3 : W2.cell? ⟨w.heap.size + 1, 3, none⟩ = some (.int .i64 c') := by simp [World.cell?, kI]
    have o4 : W2.cell? ⟨w.heap.size + 1, 4, none⟩ = some (.int .i64 0) := by simp [World.cell?, kI]
    have f2 : W2.frozen? ⟨w.heap.size + 1, 2, none⟩ = false := by simp [World.frozen?, kI]
    have f3 : W2.frozen? ⟨w.heap.size + 1, 3, none⟩ = false := by simp [World.frozen?, kI]
    have f4 : W2.frozen? ⟨w.heap.size + 1, 4, none⟩ = false := by simp [World.frozen?, kI]
    have hwl : w.heap.size + 1 < W2.heap.size := lQ kI
    clear kI kR bc
    cases uL <;> cases uM
    all_goals
     go_wp2_with fail
     go_meet
     case rel =>
      refine ⟨rfl, ?_, ?_, ?_⟩
      ·rw [← EO.out]
       first
        | exact K1.out
        | exact heap_setCell_same _ _ _ _ _ _ K1.out
        | exact heap_setCell_same _ _ _ _ _ _ (heap_setCell_same _ _ _ _ _ _ K1.out)
      ·repeat rw [Below.heap_setCell _ _ _ _ abT]
       exact KR.out
      ·(repeat (first | exact BX.out | refine Below.setCell ?_ ?_ _)) <;> (show w.heap.size ≤ w.heap.size + 1; omega)
   case rest =>
    obtain ⟨rfl, kI, Dx, bc⟩ := hcut
    have BC := acD bc
    have Ny := acD Dx
    have Uu := bc.size
    have hlt : w.heap.size < wc.heap.size := lQ Dx
    have o0 : wc.cell? ⟨w.heap.size + 1, 0, none⟩ = some (.int .u8 (k : Int)) := by simp [World.cell?, kI]
    have o1 : wc.cell? ⟨w.heap.size + 1, 1, none⟩ = some (.int .i64 a4) := by simp [World.cell?, kI]
    have o2 : wc.cell? ⟨w.heap.size + 1, 2, none⟩ = some (.int .i64 b') := by simp [World.cell?, kI]
    have o3 : wc.cell? ⟨w.heap.size + 1, 3, none⟩ = some (.int .i64 c') := by simp [World.cell?, kI]
    have o4 : wc.cell? ⟨w.heap.size + 1, 4, none⟩ = some (.int .i64 m') := by simp [World.cell?, kI]
    have hl1 : w.heap.size + 1 < wc.heap.size := lQ kI
    have r0 : wc.cell? ⟨w.heap.size, 0, none⟩ = some (.int .u8 0) := by simp [World.cell?, Dx]
    have r1 : wc.cell? ⟨w.heap.size, 1, none⟩ = some (.int .i64 0) := by simp [World.cell?, Dx]
    have r2 : wc.cell? ⟨w.heap.size, 2, none⟩ = some (.int .i64 0) := by simp [World.cell?, Dx]
    have r3 : wc.cell? ⟨w.heap.size, 3, none⟩ = some (.int .i64 0) := by simp [World.cell?, Dx]
    have r4 : wc.cell? ⟨w.heap.size, 4, none⟩ = some (.int .i64 0) := by simp [World.cell?, Dx]
    have f0 : wc.frozen? ⟨w.heap.size, 0, none⟩ = false := by simp [World.frozen?, Dx]
    have f1 : wc.frozen? ⟨w.heap.size, 1, none⟩ = false := by simp [World.frozen?, Dx]
    have f2 : wc.frozen? ⟨w.heap.size, 2, none⟩ = false := by simp [World.frozen?, Dx]
    have f3 : wc.frozen? ⟨w.heap.size, 3, none⟩ = false := by simp [World.frozen?, Dx]
    have f4 : wc.frozen? ⟨w.heap.size, 4, none⟩ = false := by simp [World.frozen?, Dx]
    have UL := acD (show Calls Tryz.prog 40 #[.agg #[.int .u8 (k : Int), .int .i64 a4, .int .i64 b', .int .i64 c', .int .i64 m']] wc fun e w' => e = .returned (.bool vi) ∧ ∃ y : Ext wc, y.w = w' from (HV.out wc).mono fun e w' ⟨h1, h2⟩ => ⟨h1, ⟨w', h2⟩, rfl⟩)
    have HE' := acD (show vi = true → ∀ y : Ext wc, Calls Tryz.prog 70 #[.agg #[.int .u8 (k : Int), .int .i64 a4, .int .i64 b', .int .i64 c', .int .i64 m']] y.w fun e w' => e = .returned (.int .u32 N) ∧ ∃ z : Ext wc, z.w = w' from fun h y => (HE.out h y.w).mono fun e w' ⟨h1, h2⟩ => ⟨h1, ⟨w', y.h.trans (h2.mono y.h.size)⟩, rfl⟩)
    clear kI Dx bc HV HE K1 KR BX AU d30 Uo td0 Rn Yp Yo Rm Yn Ym Yl Yk wm3 wk wa wb Yi wm wm2 N4 N3 VQ VP Tw Tv Ny kR X6 XX EO hwl
    cases vi with
    | false =>
     have NN := acD (show cx x = (⟨0, 0, 0, 0, 0⟩, 3) by rw [HD.out, if_neg aby])
     go_wp2_with (go_at_call 40; refine UL.out.mono ?_; rintro e w' ⟨rfl, y, rfl⟩)
     refine bodyPost_ret (v := .tuple #[.agg #[.int .u8 0, .int .i64 0, .int .i64 0, .int .i64 0, .int .i64 0], .bool false]) ab0 rfl ⟨?_, ?_⟩
     ·rw [NN.out]; rfl
     ·(repeat (first | exact Ext.below BC.out Uu y | refine Below.setCell ?_ ?_ _)) <;> exact Nat.le_refl _
    | true =>
     have BQ := acD (HE'.out rfl)
     by_cases hN : N = x
     ·have d : (N != x) = false := by simp [hN]
      have NN := acD (show cx x = (⟨(k : Int), a4, b', c', m'⟩, 0) by rw [HD.out, if_pos ⟨rfl, hN⟩, ← wC.out])
      clear hN
      go_wp2_with (first | (go_at_call 40; refine UL.out.mono ?_; rintro e w' ⟨rfl, y, rfl⟩) | (go_at_call 70; refine (BQ.out _).mono ?_; rintro e w' ⟨rfl, z, rfl⟩))
      refine bodyPost_ret (v := .tuple #[.agg #[.int .u8 (k : Int), .int .i64 a4, .int .i64 b', .int .i64 c', .int .i64 m'], .bool true]) ab0 rfl ⟨?_, ?_⟩
      ·rw [NN.out]; rfl
      ·(repeat (first | exact Ext.below BC.out Uu z | refine Below.setCell ?_ ?_ _)) <;> exact Nat.le_refl _
     ·have d : (N != x) = true := by simp [hN]
      have NN := acD (show cx x = (⟨0, 0, 0, 0, 0⟩, 3) by rw [HD.out, if_neg (fun h => hN h.2)])
      clear hN
      go_wp2_with (first | (go_at_call 40; refine UL.out.mono ?_; rintro e w' ⟨rfl, y, rfl⟩) | (go_at_call 70; refine (BQ.out _).mono ?_; rintro e w' ⟨rfl, z, rfl⟩))
      refine bodyPost_ret (v := .tuple #[.agg #[.int .u8 0, .int .i64 0, .int .i64 0, .int .i64 0, .int .i64 0], .bool false]) ab0 rfl ⟨?_, ?_⟩
      ·rw [NN.out]; rfl
      ·(repeat (first | exact Ext.below BC.out Uu z | refine Below.setCell ?_ ?_ _)) <;> exact Nat.le_refl _
end
section
open Go.RowKit
def jZ (w : World) (v : Value) (n : Nat) (c : Nat → aZ) : Prop :=
 ∃ A cap, v = .slice A n cap ∧ n ≤ cap ∧ cap ≤ maxLen ∧ (0 < n → ∃ b off, A = some ⟨b, off, none⟩ ∧ b < w.heap.size ∧ ∀ i, i < n →
  w.cell? ⟨b, off + i * 5, none⟩ = some (.int .u8 (c i).op) ∧ w.cell? ⟨b, off + i * 5 + 1, none⟩ = some (.int .i64 (c i).a) ∧ w.cell? ⟨b, off + i * 5 + 2, none⟩ = some (.int .i64 (c i).b) ∧ w.cell? ⟨b, off + i * 5 + 3, none⟩ = some (.int .i64 (c i).c) ∧ w.cell? ⟨b, off + i * 5 + 4, none⟩ = some (.int .i64 (c i).aS))
theorem jZ.below {w w' : World} {v : Value} {n : Nat} {c : Nat → aZ} (h : jZ w v n c) (hb : Below w.heap.size w w') : jZ w' v n c := by
 obtain ⟨A, cap, h1, h2, h3, h4⟩ := h
 refine ⟨A, cap, h1, h2, h3, fun h0 => ?_⟩
 obtain ⟨b, off, ha, hlt, hc⟩ := h4 h0
 refine ⟨b, off, ha, by have := hb.size; omega, fun i hi => ?_⟩
 obtain ⟨c0, c1, c2, c3, c4⟩ := hc i hi
 exact ⟨(hb.cell (p := ⟨b, _, none⟩) hlt).trans c0, (hb.cell (p := ⟨b, _, none⟩) hlt).trans c1, (hb.cell (p := ⟨b, _, none⟩) hlt).trans c2, (hb.cell (p := ⟨b, _, none⟩) hlt).trans c3, (hb.cell (p := ⟨b, _, none⟩) hlt).trans c4⟩
theorem jZ.slice {w : World} {v : Value} {n : Nat} {c : Nat → aZ} (h : jZ w v n c) : ∃ A cap, v = .slice A n cap ∧ n ≤ cap ∧ cap ≤ 2 ^ 63 - 1 := by
 obtain ⟨A, cap, h1, h2, h3, _⟩ := h
 unfold maxLen at h3
 exact ⟨A, cap, h1, h2, h3⟩
theorem jZ.at_ {w wr : World} {A : Option Addr} {n cap : Nat} {c : Nat → aZ} (h : jZ w (.slice A n cap) n c) (hb : Below w.heap.size w wr) {i : Nat} (hi : i < n) :
  ∃ b off, A = some ⟨b, off, none⟩ ∧ b < w.heap.size ∧ wr.cell? ⟨b, off + i * 5, none⟩ = some (.int .u8 (c i).op) ∧ wr.cell? ⟨b, off + i * 5 + 1, none⟩ = some (.int .i64 (c i).a) ∧ wr.cell? ⟨b, off + i * 5 + 2, none⟩ = some (.int .i64 (c i).b) ∧ wr.cell? ⟨b, off + i * 5 + 3, none⟩ = some (.int .i64 (c i).c) ∧ wr.cell? ⟨b, off + i * 5 + 4, none⟩ = some (.int .i64 (c i).aS) := by
 obtain ⟨A', cap', hv, _, _, h4⟩ := h.below hb
 cases hv
 obtain ⟨A', cap', hv, _, _, Ui⟩ := h
 cases hv
 obtain ⟨b, off, rfl, hlt, hc⟩ := Ui abo
 obtain ⟨b', off', e, _, hc'⟩ := h4 abo
 cases e
 exact ⟨b, off, rfl, hlt, hc' i hi⟩
theorem SM.below {w wr wr' : World} {g n : Nat} {sn : Nat → Bool} (h : SM w wr g n sn) (hb : Below wr.heap.size wr wr') : SM w wr' g n sn :=
 ⟨h.aF.trans (hb.mono h.aF.size), bk h.row hb⟩
structure RT (C : Int → aZ) (st en : Nat) (n : Nat) (sn : Nat → Bool) : Prop where
 zero : sn st = true
 sound : ∀ i : Nat, i < n → sn i = true → pQ C st en (i : Int)
theorem RT.add {C : Int → aZ} {st en n : Nat} {sn : Nat → Bool} (h : RT C st en n sn) {b t : Nat} (hb : b < n) (hs : sn b = true) (ht : (t : Int) ∈ cz (C (b : Int)) (b : Int)) (h1 : st ≤ t) (h2 : t < en) : RT C st en n (upd sn t true) := by
 refine ⟨?_, fun i hi hs' => ?_⟩
 ·unfold upd; split; rfl; exact h.zero
 ·unfold upd at hs'
  split at hs'
  ·rename_i e; rw [e]; exact pQ.step (h.sound b hb hs) ht abo abo
  ·exact h.sound i hi hs'
end
section
open Go.RowKit
theorem jZ.grown {w w' : World} {v : Value} {n : Nat} {c : Nat → aZ} {row : Option Nat} (h : jZ w v n c) (hg : w.grownBy w' row) (hne : ∀ q, v.ownBlock = some q → row ≠ some q) : jZ w' v n c := by
 obtain ⟨A, cap, rfl, h2, h3, h4⟩ := h
 refine ⟨A, cap, rfl, h2, h3, fun h0 => ?_⟩
 obtain ⟨b, off, rfl, hlt, hc⟩ := h4 h0
 have hb : w'.heap[b]? = w.heap[b]? := hg.block b hlt (Ne.symm (hne b rfl))
 refine ⟨b, off, rfl, by have := hg.size; omega, fun i hi => ?_⟩
 obtain ⟨c0, c1, c2, c3, c4⟩ := hc i hi
 exact ⟨(World.cell?_of_block (w := w) (a := ⟨b, _, none⟩) hb).trans c0, (World.cell?_of_block (w := w) (a := ⟨b, _, none⟩) hb).trans c1, (World.cell?_of_block (w := w) (a := ⟨b, _, none⟩) hb).trans c2, (World.cell?_of_block (w := w) (a := ⟨b, _, none⟩) hb).trans c3, (World.cell?_of_block (w := w) (a := ⟨b, _, none⟩) hb).trans c4⟩
theorem Eb {f : Nat → List Value} (hf : ∀ i, (f i).length = 5) (n : Nat) : ((List.range n).flatMap f).length = n * 5 := by
 induction n with
 | zero => rfl
 | succ n ih => rw [List.range_succ, List.flatMap_append, List.length_append, ih]; simp [hf]; omega
theorem xX {f : Nat → List Value} (hf : ∀ i, (f i).length = 5) : ∀ (n i j : Nat), i < n → j < 5 → ((List.range n).flatMap f)[i * 5 + j]? = (f i)[j]?
 | n + 1, i, j, hi, hj => by
  rw [List.range_succ, List.flatMap_append]
  have hl := Eb hf n
  by_cases e : i < n
  ·rw [List.getElem?_append_left abo]
   exact xX hf n i j e hj
  ·obtain rfl : i = n := by omega
   rw [List.getElem?_append_right abo, hl]
   simp
def xU (c : Nat → aZ) (n : Nat) : List Value := (List.range n).flatMap fun i => (c i).cells
theorem Ad (c : Nat → aZ) (n : Nat) : xU c (n + 1) = xU c n ++ (c n).cells := by
 unfold xU
 rw [List.range_succ, List.flatMap_append]
 simp
theorem Gi {w : World} {B n : Nat} {v : Value} {c : Nat → aZ} (h : w.ownsRow B 64 5 v n (xU c n)) : jZ w v n c := by
 rcases h.2 with ⟨rfl, h0⟩ | ⟨g, cap, cur, rfl, _, hg, h1, h2, _, _⟩
 ·subst h0
  exact ⟨none, 0, rfl, Nat.le_refl _, by unfold maxLen; omega, fun h => by omega⟩
 ·refine ⟨_, cap, rfl, h1, h2, fun _ => ⟨g, 0, rfl, (Array.getElem?_eq_some_iff.1 hg).1, fun i hi => ?_⟩⟩
  have key : ∀ j, j < 5 → w.cell? ⟨g, 0 + i * 5 + j, none⟩ = (c i).cells[j]? := fun j hj => by
   rw [Nat.zero_add, h.cellAt _ abo]
   exact xX (f := fun i => (c i).cells) (fun _ => rfl) n i j hi hj
  exact ⟨key 0 abo, key 1 abo, key 2 abo, key 3 abo, key 4 abo⟩
theorem JK {w : World} {B n size : Nat} {e : TypeId} {v : Value} {xs : List Value} (h : w.ownsRow B e size v n xs) : ∃ A cap, v = .slice A n cap := by
 rcases h.2 with ⟨rfl, h0⟩ | ⟨g, cap, cur, rfl, hb, _⟩
 ·exact ⟨_, _, by rw [h0]⟩
 ·exact ⟨_, _, rfl⟩
theorem Ia (cv ev : Value) (sh lk : Int) (n : Nat) (cd : Nat → Int) (w : World) (HW : Words w cv n cd) :
  Calls Tryz.prog 9 #[.agg #[cv, ev, .int .i64 sh, .int .i64 lk]] w fun e w' => (∃ v, e = .returned v ∧ jZ w' v n (fun i => (cx (cd i)).1) ∧ ∀ q, v.ownBlock = some q → w.heap.size ≤ q) ∧ Below w.heap.size w w' := by
 have hn := HW.le
 obtain ⟨A, cap, hcv, hc1, hc2, hrd⟩ := HW.at_
 subst hcv
 have ZW := acD hrd
 have Sm := acD HW.wd
 unfold maxLen at hc2
 clear hrd HW
 obtain ⟨iN, Y0, Zm, Zl, Zk⟩ := info_parts zP
 obtain ⟨V0, gZ⟩ : ∃ V0, w.alloc (.cells #[.slice A n cap, ev, .int .i64 sh, .int .i64 lk] 25) = V0 := ⟨_, rfl⟩
 have b0 : Below w.heap.size w V0 := gZ ▸ (Below.refl _ _).alloc (Nat.le_refl _) _
 have s0 : w.heap.size < V0.heap.size := by rw [← gZ]; simp
 have k0 : V0.heap[w.heap.size]? = some (.cells #[.slice A n cap, ev, .int .i64 sh, .int .i64 lk] 25) := by rw [← gZ]; exact heap_alloc_new _ _
 have y0 : V0.cell? ⟨w.heap.size, 0, none⟩ = some (.slice A n cap) := by simp [World.cell?, k0]
 have B0 := acD b0
 have XB := acD (World.ownsRow_made (e := 64) (size := 5) V0 #[] 0 (Nat.le_refl V0.heap.size) (Nat.zero_le _) rfl)
 have X5 := acD (show Below V0.heap.size V0 (V0.alloc (.cells #[] 64)) from (Below.refl _ _).alloc (Nat.le_refl _) _)
 clear k0 b0
 go_enter Tryz.func9, Tryz.ntmps9
 go_upto_region 3 with fail
 clear gZ
 go_loopw [3, 4, 5, 6] (fun a3 a4 a5 a6 wr => ∃ i : Nat, i ≤ n ∧ a4 = .int .i64 (i : Int) ∧ Below V0.heap.size V0 wr ∧ wr.ownsRow V0.heap.size 64 5 a3 i (xU (fun i => (cx (cd i)).1) i)) (fun _ a4 _ _ _ => n - (intOf a4).toNat)
 case atStart => exact ⟨0, Nat.zero_le _, rfl, X5.out, XB.out⟩
 case round =>
  obtain ⟨i, hi, rfl, hb, ho⟩ := hrel
  obtain ⟨oA, OX, rfl⟩ := JK ho
  have HB := acD hb
  have HO := acD ho
  have hs := hb.size
  have BW := acD (B0.out.trans (hb.mono abo))
  have z0 : wr.cell? ⟨w.heap.size, 0, none⟩ = some (.slice A n cap) := by rw [hb.cell (p := ⟨w.heap.size, 0, none⟩) s0]; exact y0
  have hsw : w.heap.size < wr.heap.size := by omega
  clear hb ho XB X5
  by_cases hlt : i < n
  ·obtain ⟨b, off, rfl, hbl, hc⟩ := ZW.out abo
   have x0 : wr.cell? ⟨b, off + i, none⟩ = some (.int .u32 (cd i)) := by rw [BW.out.cell (p := ⟨b, off + i, none⟩) hbl]; exact hc i hlt
   have dl : decide ((i : Int) < (n : Int)) = true := decide_eq_true abo
   have Zs : decide (i < n) = true := decide_eq_true hlt
   have HD := acD (ye (cd i) (Sm.out i hlt).1 (Sm.out i hlt).2 wr)
   have fA : b < wr.heap.size := by omega
   obtain ⟨it, hit⟩ : ∃ it, (cx (cd i)).1 = it := ⟨_, rfl⟩
   obtain ⟨er, her⟩ : ∃ er : Bool, decide ((cx (cd i)).2 = 0) = er := ⟨_, rfl⟩
   rw [hit, her] at HD
   have HIT := acD hit
   obtain ⟨op, ia, ib, ic, aS⟩ := it
   simp only [aZ.val] at HD
   clear hc hit her
   go_upto_region 6 with (go_at_call 31; refine HD.out.mono ?_; rintro e' W9 ⟨rfl, hb9⟩)
   obtain ⟨Z, hZ⟩ : ∃ Z, W9.alloc (.cells #[.int .u8 op, .int .i64 ia, .int .i64 ib, .int .i64 ic, .int .i64 aS] 64) = Z := ⟨_, rfl⟩
   have bZ : Below W9.heap.size W9 Z := hZ ▸ (Below.refl _ _).alloc (Nat.le_refl _) _
   have kZ : Z.heap[W9.heap.size]? = some (.cells #[.int .u8 op, .int .i64 ia, .int .i64 ib, .int .i64 ic, .int .i64 aS] 64) := hZ ▸ heap_alloc_new _ _
   have sZ : W9.heap.size < Z.heap.size := by rw [← hZ]; simp
   have Tz : Below wr.heap.size wr Z := hb9.trans (bZ.mono hb9.size)
   have Xy := acD (bk HO.out Tz)
   have SN := acD (HB.out.trans (Tz.mono hs))
   have q0 : Z.cell? ⟨W9.heap.size, 0, none⟩ = some (.int .u8 op) := by simp [World.cell?, kZ]
   have q1 : Z.cell? ⟨W9.heap.size, 1, none⟩ = some (.int .i64 ia) := by simp [World.cell?, kZ]
   have q2 : Z.cell? ⟨W9.heap.size, 2, none⟩ = some (.int .i64 ib) := by simp [World.cell?, kZ]
   have q3 : Z.cell? ⟨W9.heap.size, 3, none⟩ = some (.int .i64 ic) := by simp [World.cell?, kZ]
   have q4 : Z.cell? ⟨W9.heap.size, 4, none⟩ = some (.int .i64 aS) := by simp [World.cell?, kZ]
   obtain ⟨zb, hzb⟩ : ∃ zb, W9.heap.size = zb := ⟨_, rfl⟩
   rw [hZ]
   rw [hzb] at q0 q1 q2 q3 q4 sZ ⊢
   have YN := SN.out.size
   clear hZ bZ kZ hb9 Tz hzb z0 x0 HD dl Zs
   go_upto_region 4 with (at_builtin; refine wpList_append_own_at _ rfl (.tmp 24) (.tmp 26) 50 rfl V0.heap.size 64 iN _ 5 40 Tryz.underlying50 Y0 Zm Zl Zk rfl abr (.slice oA i OX) _ _ rfl (Xy.out.alloc _) ⟨Z.heap.size, 0, none⟩ 1 1 [.int .u8 op, .int .i64 ia, .int .i64 ib, .int .i64 ic, .int .i64 aS] rfl rfl (nk _ _ _ _ _ _ _) abt abv abo abD ?_; intro v' W' hown' hgrow _ qC)
   have FO := acD hown'
   have FB := acD ((SN.out.alloc YN _).grown hgrow abD (fun q hq => (Xy.out.lt q hq).1))
   clear hown' hgrow qC q0 q1 q2 q3 q4
   go_wp2_with fail
   go_roundw
   case rel =>
    refine ⟨i + 1, by omega, by go_num, FB.out, ?_⟩
    rw [Ad]
    simp only [HIT.out]
    exact FO.out
   case measure => simp [intOf]; omega
  ·obtain rfl : i = n := by omega
   have dl : decide ((i : Int) < (i : Int)) = false := by simp
   have HII := acD (Gi HO.out)
   have Z5 := acD (fun q (hq : (Value.slice oA i OX).ownBlock = some q) => (HO.out.lt q hq).1)
   go_wp2_with fail
   go_ret
   exact ⟨⟨_, rfl, HII.out, fun q hq => by have h1 := Z5.out q hq; omega⟩, BW.out⟩
end
section
open Go.RowKit
theorem rn {T : TypeId} (hT : (Tryz.prog.info? T).map (·.size) = some 32) {r : RG} (hr : r.length = 16) : (Tryz.prog.info? T).map (·.size) = some (aa r).length := by rw [ax, hr]; exact hT
theorem ra {T : TypeId} (hT : (Tryz.prog.info? T).map (·.size) = some 32) {r : RG} (hr : r.length = 16) : (Tryz.prog.info? T).map (·.size) = some (aa r).toArray.size := by rw [List.size_toArray, ax, hr]; exact hT
theorem aI : (Tryz.prog.info? 61).map (·.size) = some 32 := by kernel_rfl
theorem bM {P : Program} {ops : Array Oper} {C : World → Prop} {Q : Act → Prop} {a : Act} {op : Oper} {rest : List Oper} (hw : Region.wanted op (yielded ops a.tmps) = true) (ty : TypeId) (x : Operand) (ho : op.op = .load ty x)
  (b o : Nat) (hx : a.eval x = .pointer (some ⟨b, o, none⟩)) (cs : List Value) (d : TypeDesc) (hc : ∀ w, C w → w.rangeAt b o cs)
  (hu : P.underlying ty = some d) (hd : d.isRow = true) (hi : (P.info? ty).map (·.size) = some cs.length) (h : wpQuiet P ops C Q rest (a.put op.dst (.agg cs.toArray))) : wpQuiet P ops C Q (op :: rest) a :=
 BigFrame.wpQuiet_want hw fun K hK => ⟨.agg cs.toArray, fun w hC => by
  unfold Oper.quietAt execOp
  simp only [ho, hx, Instr.loadAt, Instr.sureAddr, Sem.run_bind, Sem.run_pure, Result.andThen_ok, run_loadVar_mid w b o ty cs d (hc w hC) hu hd hi]
  exact ⟨rfl, rfl⟩, hK _ h⟩
def vO (x y : Int × Int) : Int × Int := (if x.1 < y.1 then y.1 else x.1, if y.2 < x.2 then y.2 else x.2)
theorem lM (r : RG) (hr : r.length = 16) (w : World) : Calls Tryz.prog 41 #[.agg (aa r).toArray] w fun e w' => e = .returned (.bool (aC r)) ∧ Below w.heap.size w w' := by
 obtain ⟨V, hV⟩ : ∃ V, w.alloc (.cells (aa r).toArray 61) = V := ⟨_, rfl⟩
 have bV : Below w.heap.size w V := hV ▸ (Below.refl _ _).alloc (Nat.le_refl _) _
 have kV : aH V w.heap.size 61 r := by rw [← hV]; exact heap_alloc_new _ _
 have KV := acD kV
 have BV := acD bV
 have HR := acD hr
 clear kV bV hr
 go_enter Tryz.func41, Tryz.ntmps41
 go_wp2_with fail
 clear hV
 go_loopw [3] (fun a3 wr => ∃ k : Nat, k ≤ 16 ∧ a3 = .int .i64 (k : Int) ∧ (∀ j : Nat, j < k → (rg r (j : Int)).1 ≤ (rg r (j : Int)).2) ∧ Below V.heap.size V wr) (fun a3 _ => 16 - (intOf a3).toNat)
 case atStart => exact ⟨0, by omega, rfl, fun j hj => by omega, Below.refl _ _⟩
 case round =>
  obtain ⟨k, hk, rfl, hall, hb⟩ := hrel
  have HA := acD hall
  have HB := acD hb
  have hsz := hb.size
  have KW := KV.out.keep hb
  have sW := KW.lt
  clear hall hb
  by_cases hlt : k < 16
  ·have dl : decide ((k : Int) < 16) = true := decide_eq_true abo
   have ik : (k : Int) < 16 := by omega
   obtain ⟨lo, hlo⟩ : ∃ lo, (rg r (k : Int)).1 = lo := ⟨_, rfl⟩
   obtain ⟨hi, hhi⟩ : ∃ hi, (rg r (k : Int)).2 = hi := ⟨_, rfl⟩
   have c0 : wr.cell? ⟨w.heap.size, k * 2, none⟩ = some (.int .i32 lo) := by rw [← hlo]; exact KW.lo acu
   have c1 : wr.cell? ⟨w.heap.size, k * 2 + 1, none⟩ = some (.int .i32 hi) := by rw [← hhi]; exact KW.hi acu
   have QU := acD hlo
   have QY := acD hhi
   clear hlo hhi KW
   by_cases he : hi < lo
   all_goals
    (first | have d2 := decide_eq_false he | have d2 := decide_eq_true he)
    have HE := acD he
    clear he
    go_wp2_with fail
    refine az abp abp ?_
    repeat (go_big_quiet_step (fail))
    refine wpQuiet_nil ?_
    rintro _ ⟨x, rfl⟩
    go_wp2_with fail
   ·go_ret
    refine ⟨by rw [mQ acu (by rw [QU.out, QY.out]; exact HE.out)]; rfl, BV.out.trans ((HB.out.trans (x.h.mono hsz)).mono BV.out.size)⟩
   ·go_roundw
    case rel =>
     refine ⟨k + 1, by omega, by go_num, fun j hj => ?_, HB.out.trans (x.h.mono hsz)⟩
     by_cases hjk : j = k
     ·subst hjk; rw [QU.out, QY.out]; have h9 := HE.out; omega
     ·exact HA.out j abo
    case measure => simp [intOf]; omega
  ·obtain rfl : k = 16 := by omega
   have HP := acD (pU (r := r) (fun j hj => HA.out j (by rw [HR.out] at hj; exact hj)))
   obtain ⟨lo, hlo⟩ : ∃ lo, (rg r 0).1 = lo := ⟨_, rfl⟩
   obtain ⟨hi, hhi⟩ : ∃ hi, (rg r 0).2 = hi := ⟨_, rfl⟩
   have c0 : wr.cell? ⟨w.heap.size, 0, none⟩ = some (.int .i32 lo) := by rw [← hlo]; simpa using KW.lo (k := 0) (by rw [HR.out]; omega)
   have c1 : wr.cell? ⟨w.heap.size, 1, none⟩ = some (.int .i32 hi) := by rw [← hhi]; simpa using KW.hi (k := 0) (by rw [HR.out]; omega)
   have HQ := acD (show aC r = (lo == 0 && hi == 0) by
    rw [HP.out, ← hlo, ← hhi, Bool.eq_iff_iff, decide_eq_true_eq, Bool.and_eq_true, beq_iff_eq, beq_iff_eq, Prod.ext_iff])
   clear KW hlo hhi
   rcases e0 : (lo == 0)
   all_goals
    go_wp2_with fail
    go_ret
    exact ⟨by rw [HQ.out, e0]; rfl, BV.out.trans (HB.out.mono BV.out.size)⟩
theorem fD (r : RG) (hr : r.length = 16) (k : Nat) (hk : k < 16) (xl xh : Int) (w : World) :
  Calls Tryz.prog 42 #[.agg (aa r).toArray, .int .i64 (k : Int), .agg #[.int .i32 xl, .int .i32 xh]] w fun e w' => e = .returned (.agg (aa (aW r (k : Int) (xl, xh))).toArray) ∧ Below w.heap.size w w' := by
 obtain ⟨V, hV, k0, k1, k2, bV, sV⟩ := cm w (aa r).toArray #[.int .i32 xl, .int .i32 xh] acM.toArray 61 58 61
 have K0 := acD (show aH V w.heap.size 61 r from k0)
 have K2 := acD (show V.heap[w.heap.size + 1 + 1]? = some (.cells (aa aq).toArray 61 (0, 0)) from k2)
 have BV := acD bV
 have HR := acD hr
 obtain ⟨c0, c1, -, -, l1⟩ := jR k1
 have l0 : w.heap.size < V.heap.size := by omega
 have ik : (k : Int) < 16 := by omega
 clear k0 k1 k2 bV hr
 go_enter Tryz.func42, Tryz.ntmps42
 go_upto_region 1 with fail
 clear hV
 by_cases hz : k = 0
 focus
  subst hz
  go_upto_region 3 with fail
  obtain ⟨Y, hY⟩ : ∃ Y, V = Y := ⟨_, rfl⟩
  obtain ⟨r3, hr3⟩ : ∃ r3, aW r (0 : Int) (xl, xh) = r3 := ⟨_, rfl⟩
  have e3 : r3 = r := hr3.symm.trans (if_pos rfl)
  have L3 := acD (show r3.length = 16 by rw [e3]; exact HR.out)
  have KY := acD (show aH Y w.heap.size 61 r3 by rw [← hY, e3]; exact K0.out)
  have KO := acD (show Y.heap[w.heap.size + 1 + 1]? = some (.cells (aa aq).toArray 61 (0, 0)) by rw [← hY]; exact K2.out)
  have BY := acD (show Below w.heap.size w Y by rw [← hY]; exact BV.out)
  have HE := acD (show aW r ((0 : Nat) : Int) (xl, xh) = r3 from hr3)
  rw [hY]
  clear hY hr3 e3
 rotate_left 1
 focus
  have d : ((k : Int) != 0) = true := by simp; omega
  have f0 := K0.out.fz (k * 2)
  have f1 := K0.out.fz (k * 2 + 1)
  have z0 := K0.out.lo (k := k) (by rw [HR.out]; exact hk)
  have z1 := K0.out.hi (k := k) (by rw [HR.out]; exact hk)
  go_upto_region 3 with fail
  obtain ⟨Y, hY⟩ : ∃ Y, (V.setCell ⟨w.heap.size, k * 2, none⟩ (.int .i32 xl)).setCell ⟨w.heap.size, k * 2 + 1, none⟩ (.int .i32 xh) = Y := ⟨_, rfl⟩
  obtain ⟨r3, hr3⟩ : ∃ r3, r.set k (xl, xh) = r3 := ⟨_, rfl⟩
  have L3 := acD (show r3.length = 16 by rw [← hr3, List.length_set]; exact HR.out)
  have KY := acD (show aH Y w.heap.size 61 r3 by rw [← hY, ← hr3]; exact K0.out.set k (xl, xh))
  have KO := acD (show Y.heap[w.heap.size + 1 + 1]? = some (.cells (aa aq).toArray 61 (0, 0)) by
   rw [← hY, Below.heap_setCell _ _ _ _ acf, Below.heap_setCell _ _ _ _ acf]
   exact K2.out)
  have BY := acD (show Below w.heap.size w Y by rw [← hY]; exact Below.setCell (Below.setCell BV.out (Nat.le_refl _) _) (Nat.le_refl _) _)
  have HE := acD (show aW r (k : Int) (xl, xh) = r3 by unfold aW; rw [if_neg abo, ← hr3]; simp)
  rw [hY]
  clear hY hr3 z0 z1 f0 f1
 all_goals
  clear c0 c1
  have lY : w.heap.size < Y.heap.size := KY.out.lt
  go_wp2_with (first | (refine wpList_load_mid rfl _ _ rfl _ _ rfl (aa r3) _ KY.out.range Tryz.underlying61 rfl (rn aI L3.out) ?_) | (refine wpList_store_row rfl 61 (.tmp 6) (.tmp 13) rfl (w.heap.size + 1 + 1) (aa r3).toArray rfl rfl 61 _ KO.out (ra aI L3.out) (hi6 L3.out ak) (aj r3) ?_))
  refine bodyPost_ret (eH (P := Tryz.prog) Tryz.results42 _ _ (w.heap.size + 1 + 1) (aa r3) _ rfl (au (setRow_heap _ _ _ _ _ _ KO.out)) Tryz.underlying61 rfl (rn aI L3.out)) rfl ⟨?_, below_setRow BY.out abo _⟩
  rw [HE.out]
theorem nM (n : Int) (w : World) (h1 : -2147483648 ≤ n) (h2 : n ≤ 2147483647) : Calls Tryz.prog 45 #[.int .i64 n] w fun e w' => e = .returned (.agg #[.int .i32 n, .int .i32 n]) ∧ Below w.heap.size w w' := by
 have Vw : IntKind.i32.wrap n = n := IntWalk.i32_in _ abo
 go_enter Tryz.func45, Tryz.ntmps45
 go_wp2
 all_goals
  refine bodyPost_ret (v := _) ?hr rfl ⟨rfl, ?aF⟩
  case hr =>
   simp [results, Tryz.results45, go_sem]
  case aF =>
   exact acB
theorem uq (xl xh yl yh : Int) (w : World) : Calls Tryz.prog 47 #[.agg #[.int .i32 xl, .int .i32 xh], .agg #[.int .i32 yl, .int .i32 yh]] w fun e w' => e = .returned (.agg #[.int .i32 (vO (xl, xh) (yl, yh)).1, .int .i32 (vO (xl, xh) (yl, yh)).2]) ∧ Below w.heap.size w w' := by
 by_cases h1 : xl < yl <;> by_cases h2 : yh < xh
 all_goals
  simp only [vO, h1, h2, if_true, if_false]
  (first | have d1 := decide_eq_false h1 | have d1 := decide_eq_true h1)
  (first | have d2 := decide_eq_false h2 | have d2 := decide_eq_true h2)
  clear h1 h2
  go_enter Tryz.func47, Tryz.ntmps47
  go_wp2
  all_goals
   refine bodyPost_ret (v := _) ?hr rfl ⟨rfl, ?aF⟩
   case hr =>
    simp [results, Tryz.results47, go_sem]
   case aF =>
    exact acB
theorem oQ (op : Int) (h1 : 2 ≤ op) (h2 : op ≤ 13) (w : World) : Calls Tryz.prog 44 #[.int .u8 op] w fun e w' => e = .returned (.int .u8 (nT op)) ∧ Below w.heap.size w w' := by
 have h : op = 2 ∨ op = 3 ∨ op = 4 ∨ op = 5 ∨ op = 6 ∨ op = 7 ∨ op = 8 ∨ op = 9 ∨ op = 10 ∨ op = 11 ∨ op = 12 ∨ op = 13 := by omega
 rcases h with rfl | rfl | rfl | rfl | rfl | rfl | rfl | rfl | rfl | rfl | rfl | rfl
 all_goals
  go_enter Tryz.func44, Tryz.ntmps44
  go_wp2
  go_ret
  exact ⟨rfl, (Below.refl _ _).alloc (Nat.le_refl _) _⟩
end
section
open Go.RowKit
theorem A1 : (Tryz.prog.info? 56).map (·.size) = some 32 := by kernel_rfl
theorem Qm : (Tryz.prog.info? 59).map (·.size) = some 32 := by kernel_rfl
theorem FT {r : RG} {k : Nat} (hk : k < r.length) (w : World) : (part 58 (aa r).toArray (k * 2)).run Tryz.prog w = .ok (.agg #[.int .i32 (rg r (k : Int)).1, .int .i32 (rg r (k : Int)).2]) w := by
 have h1 : (isAgg 58).run Tryz.prog w = .ok true w := by kernel_rfl
 have h2 : (sizeOf 58).run Tryz.prog w = .ok 2 w := by kernel_rfl
 unfold part
 simp only [Sem.run_bind, h1, h2, Result.andThen_ok, if_true, Sem.run_pure]
 rw [sJ hk]
theorem Mu {r : RG} (hr : r.length = 16) {k : Nat} (hk : k < 16) (w : World) : (Instr.index 59 (.agg (aa r).toArray) (.int .i64 (k : Int))).run Tryz.prog w = .ok (.agg #[.int .i32 (rg r (k : Int)).1, .int .i32 (rg r (k : Int)).2]) w := by
 have h2 : (sizeOf 58).run Tryz.prog w = .ok 2 w := by kernel_rfl
 have h3 : (0 : Int) ≤ k ∧ (k : Int) < ((16 : Nat) : Int) := by omega
 have h4 := FT (r := r) (k := k) abo w
 simp [Instr.index, run_underlying Tryz.underlying59, asIntOf, Sem.run_bind, h2, hk, h4]
theorem FW {x z : RG} (hx : x.length = 16) (hz : z.length = 16) (h : ∀ j : Nat, j < 16 → rg z (j : Int) = rg x (j : Int)) : z = x := by
 apply List.ext_getElem?
 intro i
 by_cases hi : i < 16
 ·rw [eZ abo, eZ abo, h i hi]
 ·rw [List.getElem?_eq_none abo, List.getElem?_eq_none abo]
theorem Cq (r : RG) (hr : r.length = 16) (w : World) : Calls Tryz.prog 11 #[.agg (aa r).toArray] w fun e w' => e = .returned (.agg (aa r).toArray) ∧ Below w.heap.size w w' := by
 obtain ⟨V, hV, k0, k1, k2, bV, sV⟩ := cm w (aa r).toArray acM.toArray acM.toArray 61 56 56
 have K0 := acD (show aH V w.heap.size 61 r from k0)
 have K1 := acD (show V.heap[(w.heap.size + 1)]? = some (.cells (aa aq).toArray 56 (0, 0)) from k1)
 have K2 := acD (show aH V (w.heap.size + 1 + 1) 56 aq from k2)
 have BV := acD bV
 have HR := acD hr
 have l0 : w.heap.size < V.heap.size := by omega
 clear k0 k1 k2 bV hr
 go_enter Tryz.func11, Tryz.ntmps11
 go_upto_region 3 with (refine wpList_load_mid rfl _ _ rfl _ _ rfl (aa r) _ K0.out.range Tryz.underlying59 rfl (rn Qm HR.out) ?_)
 clear hV
 go_loopw [4, 5, 8] (fun _ _ a8 wr => ∃ k : Nat, ∃ z : RG, k ≤ 16 ∧ a8 = .int .i64 (k : Int) ∧ z.length = 16 ∧ (∀ j : Nat, j < k → rg z (j : Int) = rg r (j : Int)) ∧ Below (w.heap.size + 1 + 1) V wr ∧ aH wr (w.heap.size + 1 + 1) 56 z) (fun _ _ a8 _ => 16 - (intOf a8).toNat)
 case atStart => exact ⟨0, aq, by omega, rfl, rfl, fun j hj => by omega, Below.refl _ _, K2.out⟩
 case round =>
  obtain ⟨k, z, hk, rfl, hz, hall, hb, kz⟩ := hrel
  have HA := acD hall
  have HB := acD hb
  have HZ := acD hz
  have UO := hb.size
  have KZ := acD kz
  have l3 := kz.lt
  clear hall hb hz
  by_cases hlt : k < 16
  ·have dl : decide ((k : Int) < 16) = true := decide_eq_true abo
   have ik : (k : Int) < 16 := by omega
   have hix := Mu HR.out hlt
   obtain ⟨lo, hlo⟩ : ∃ lo, (rg r (k : Int)).1 = lo := ⟨_, rfl⟩
   obtain ⟨hi, hhi⟩ : ∃ hi, (rg r (k : Int)).2 = hi := ⟨_, rfl⟩
   rw [hlo, hhi] at hix
   have HE := acD (show rg r (k : Int) = (lo, hi) from Prod.ext hlo hhi)
   have f0 := kz.fz (k * 2)
   have f1 := kz.fz (k * 2 + 1)
   have z0 := kz.lo (k := k) abJ
   have z1 := kz.hi (k := k) abJ
   clear hlo hhi kz
   go_wp2_with fail
   go_roundw
   case rel =>
    refine ⟨k + 1, z.set k (lo, hi), by omega, by go_num, by rw [List.length_set]; exact HZ.out, fun j hj => ?_, ?_, ((KZ.out.set k (lo, hi)).keep ((Below.refl _ _).alloc (Nat.le_refl _) _))⟩
    ·by_cases hjk : j = k
     ·subst hjk
      rw [HE.out, dH]
      simp [List.getD, show j < z.length by rw [HZ.out]; exact hlt]
     ·rw [← HA.out j abo, dH, dH]
      simp [List.getD, List.getElem?_set, Ne.symm hjk]
    ·exact (Below.setCell (p := ⟨(w.heap.size + 1 + 1), k * 2 + 1, none⟩) (Below.setCell (p := ⟨(w.heap.size + 1 + 1), k * 2, none⟩) HB.out (Nat.le_refl _) (.int .i32 lo)) (Nat.le_refl _) (.int .i32 hi)).alloc abA _
   case measure => simp [intOf]; omega
  ·obtain rfl : k = 16 := by omega
   have he := FW HR.out HZ.out HA.out
   subst he
   have KO := acD ((HB.out.block _ abo).trans K1.out)
   clear kz
   go_wp2_with (first | (refine wpList_load_mid rfl _ _ rfl _ _ rfl (aa z) _ KZ.out.range Tryz.underlying56 rfl (rn A1 HZ.out) ?_) | (refine wpList_store_row rfl 56 (.tmp 2) (.tmp 20) rfl (w.heap.size + 1) (aa z).toArray rfl rfl 56 _ KO.out (ra A1 HZ.out) (hi6 HZ.out ak) (aj z) ?_))
   refine bodyPost_ret (eH (P := Tryz.prog) Tryz.results11 _ _ (w.heap.size + 1) (aa z) _ rfl (au (setRow_heap _ _ _ _ _ _ KO.out)) Tryz.underlying56 rfl (rn A1 HZ.out)) rfl ⟨rfl, below_setRow (BV.out.trans (HB.out.mono abo)) abo _⟩
end
section
open Go.RowKit
theorem Ip {op : Int} {x y : Int × Int} (h6 : 6 ≤ op) (h23 : op ≤ 23) (hx : WI x) (hy : WI y) (nx : x.1 ≤ x.2) (ny : y.1 ≤ y.2) (hz : (op = 9 ∨ op = 10) → y ≠ (0, 0)) : (aN op x y).1 ≤ (aN op x y).2 := by
 have ha : Mem x.1 x := ⟨Int.le_refl _, nx⟩
 have key : ∀ b, Mem b y → we op b = 0 → (aN op x y).1 ≤ (aN op x y).2 := fun b hb he => by
  obtain ⟨h1, h2⟩ := Ez hx hy ha hb he
  omega
 by_cases h9 : op = 9 ∨ op = 10
 ·have := hz h9
  by_cases h0 : y.1 = 0
  ·refine key y.2 ⟨ny, Int.le_refl _⟩ ?_
   have : y.2 ≠ 0 := fun h => this (Prod.ext h0 h)
   unfold we
   rw [if_pos ⟨h6, h23⟩, if_neg (fun h => this h.2)]
  ·refine key y.1 ⟨Int.le_refl _, ny⟩ ?_
   unfold we
   rw [if_pos ⟨h6, h23⟩, if_neg (fun h => h0 h.2)]
 ·refine key y.1 ⟨Int.le_refl _, ny⟩ ?_
  unfold we
  rw [if_pos ⟨h6, h23⟩, if_neg (fun h => h9 h.1)]
theorem qR {r : RG} (hr : R16 r) (hp : aC r = true) {a : Int} (a0 : 0 ≤ a) (a1 : a ≤ 15) {x : Int × Int} (hx : x.1 ≤ x.2) (hw : aP x.1 ∧ aP x.2) : aC (aW r a x) = true := by
 refine oV (hr.aW a hw) (fun k hk => ?_) ?_
 ·rw [nN a0 acn _ (Int.natCast_nonneg k)]
  split
  ·exact hx
  ·exact ey hr hp _
 ·rw [nN a0 acn _ (Int.le_refl _), if_neg abo]
  exact kQ hp
theorem GZ {i : aZ} (h0 : 0 ≤ i.op) (hv : aU i = true) : WI (i.aS, i.aS) := ⟨(Bi hv h0).1, (Bi hv h0).1⟩
theorem vr {i : aZ} {r a : RG} (h0 : 0 ≤ i.op) (hr : R16 r) (h : bT i r = some a) : aC a = true := by
 unfold bT at h
 split at h
 ·rename_i hvp
  obtain ⟨hv, hp⟩ := hvp
  obtain ⟨⟨a0, a1⟩, _⟩ := nJ h0 hv
  have wi : ∀ k, WI (rg r k) := fun k => hr.at_ k
  have ne : ∀ k, (rg r k).1 ≤ (rg r k).2 := fun k => ey hr hp k
  have st : ∀ x : Int × Int, x.1 ≤ x.2 → WI x → aC (aW r i.a x) = true := fun x hx hw => qR hr hp a0 a1 hx hw
  have wi2 := GZ h0 hv
  have ap : ∀ op x y, 6 ≤ op → op ≤ 23 → WI x → WI y → x.1 ≤ x.2 → y.1 ≤ y.2 → ((op = 9 ∨ op = 10) → y ≠ (0, 0)) → aC (aW r i.a (aN op x y)) = true := fun op x y h1 h2 hx hy nx ny hz => st _ (Ip h1 h2 hx hy nx ny hz) (fR hx hy)
  split at h
  ·rename_i ho
   split at h
   ·cases h
   ·rename_i hz
    cases h
    have h3 := Mz ho.1 ho.2
    refine ap _ _ _ h3.1 abo (wi _) (wi _) (ne _) (ne _) (fun h9 h => hz ⟨?_, h⟩)
    unfold nT at h9
    split at h9 <;> omega
  split at h
  ·cases h
   exact st _ (Int.le_refl _) wi2
  split at h
  ·cases h
   exact ap _ _ _ abr abr (wi _) wi2 (ne _) (Int.le_refl _) (fun h => by omega)
  split at h
  ·cases h
   exact ap _ _ _ abr abr (wi _) wi2 (ne _) (Int.le_refl _) (fun h => by omega)
  split at h
  ·cases h
   exact ap _ _ _ abr abr (wi _) wi2 (ne _) (Int.le_refl _) (fun h => by omega)
  split at h
  ·cases h
   exact st _ abr (by unfold WI aP uP; decide)
  split at h
  ·split at h
   ·cases h
   ·rename_i he
    cases h
    refine st _ ?_ (zI (wi _) ⟨⟨show (-2147483648 : Int) ≤ 0 by decide, show (0 : Int) ≤ 2147483647 by decide⟩, (Bi hv h0).2⟩)
    simpa [emp] using he
  ·cases h
   exact hp
 ·cases h
theorem fG {i : aZ} {r a : RG} {t : Bool} (h0 : 0 ≤ i.op) (hr : R16 r) (h : dI i r t = some a) : aC a = true := by
 unfold dI at h
 split at h
 ·rename_i hvp
  obtain ⟨hv, hp⟩ := hvp
  obtain ⟨⟨a0, a1⟩, _⟩ := nJ h0 hv
  split at h
  ·split at h
   ·cases h
   ·rename_i he
    cases h
    exact qR hr hp a0 a1 (by simpa [emp] using he) (Gk (hr.at_ _))
  ·split at h
   ·split at h
    ·cases h; exact hp
    ·cases h
   ·split at h
    ·cases h
    ·cases h; exact hp
 ·cases h
theorem qU : ∀ {l : List aZ} {r a : RG}, (∀ i ∈ l, 0 ≤ i.op) → R16 r → aC r = true → cQ l r = some a → aC a = true
 | [], r, a, _, _, hp, h => by cases h; exact hp
 | i :: l, r, a, ho, hr, hp, h => by
  unfold cQ at h
  split at h
  ·cases h
  ·rename_i r' e
   have h1 := ho i (List.mem_cons_self ..)
   exact qU (fun x hx => ho x (List.mem_cons_of_mem _ hx)) (gT h1 hr e) (vr h1 hr e) h
theorem xZ {last : aZ} {m k : Nat} {r a : RG} (h0 : 0 ≤ last.op) (hr : R16 r) (hp : aC r = true) (h : dK last m k r = some a) : aC a = true := by
 unfold dK at h
 split at h
 ·cases h; exact hp
 split at h
 ·exact fG h0 hr h
 ·split at h
  ·exact fG h0 hr h
  ·rename_i h1 _
   cases h
   exact fG h0 hr h1
  ·rename_i h1 h2
   cases h
   exact kT (dB hr h1) (dB hr h2) (fG h0 hr h1) (fG h0 hr h2)
def Dz (x y : Int × Int) : Int × Int := (if y.1 < x.1 then y.1 else x.1, if x.2 < y.2 then y.2 else x.2)
def A0 (x y : Int × Int) : Int × Int := (if y.1 < x.1 then -2147483648 else x.1, if x.2 < y.2 then 2147483647 else x.2)
theorem O6 {x y : Int × Int} (hx : x.1 ≤ x.2) (hy : y.1 ≤ y.2) : Dz x y = bR x y := by
 have e1 : emp x = false := by simp [emp]; omega
 have e2 : emp y = false := by simp [emp]; omega
 unfold Dz bR
 rw [e1, e2]
 simp only [Bool.false_eq_true, if_false]
 apply Prod.ext <;> simp only <;> split <;> omega
theorem K7 {x y : Int × Int} (hx : x.1 ≤ x.2) (hy : y.1 ≤ y.2) : A0 x y = aO x y := by
 have e1 : emp x = false := by simp [emp]; omega
 have e2 : emp y = false := by simp [emp]; omega
 unfold A0 aO
 rw [e1, e2]
 simp only [Bool.false_eq_true, if_false]
theorem Fc {F G : Int × Int → Int × Int → Int × Int} {x y : RG} (hx : R16 x) (hy : R16 y) (h : ∀ k : Nat, k < 16 → F (rg x (k : Int)) (rg y (k : Int)) = G (rg x (k : Int)) (rg y (k : Int))) : List.zipWith F x y = List.zipWith G x y := by
 apply List.ext_getElem?
 intro i
 by_cases hi : i < 16
 ·rw [List.getElem?_zipWith, List.getElem?_zipWith, eZ (by rw [hx.len]; exact hi), eZ (by rw [hy.len]; exact hi)]
  simp only
  rw [h i hi]
 ·rw [List.getElem?_eq_none (by simp [hx.len, hy.len]; omega), List.getElem?_eq_none (by simp [hx.len, hy.len]; omega)]
theorem Bg {x y : RG} (hx : R16 x) (hy : R16 y) (px : aC x = true) (py : aC y = true) : List.zipWith Dz x y = bF x y :=
 Fc hx hy fun k hk => O6 (ey hx px _) (ey hy py _)
theorem Fj {x y : RG} (hx : R16 x) (hy : R16 y) (px : aC x = true) (py : aC y = true) : List.zipWith A0 x y = dG x y :=
 Fc hx hy fun k hk => K7 (ey hx px _) (ey hy py _)
theorem vo {x y : RG} (hx : R16 x) (hy : R16 y) (px : aC x = true) (py : aC y = true) : aC (dG x y) = true := by
 refine oV (hx.qF hy) (fun k hk => ?_) (AY hx hy (kQ px) (kQ py))
 rw [qY hx hy hk, ← K7 (ey hx px _) (ey hy py _)]
 have h1 := ey hx px (k : Int)
 have h2 := (hx.at_ (k : Int))
 unfold aP at h2
 unfold A0
 simp only
 split <;> split <;> omega
def Qu (n : Nat) (s : AS) : Prop := ∀ b, b < n → aC (gJ s b) = true
theorem Qu.step {n : Nat} {s : AS} (h : Qu n s) (ha : wA n s) {t : Nat} (ht : t < n) {o : Option RG} (ho : ∀ r, o = some r → R16 r ∧ aC r = true) : Qu n (cy s t o).1 := by
 have hl : t < s.bH.length := by rw [ha.l2]; exact ht
 have upd : ∀ x, aC x = true → ∀ b, b < n → aC ((s.bH.set t x).getD b []) = true := fun x hx b hb => by
  by_cases e : b = t
  ·subst e; rw [bL hl]; exact hx
  ·rw [aT e]; exact h b hb
 cases o with
 | none => exact h
 | some r =>
  obtain ⟨h1, h2⟩ := ho r rfl
  unfold cy
  simp only
  split
  ·exact fun b hb => upd _ h2 b hb
  ·split
   ·exact h
   ·have h3 := ha.get ht
    have h4 := h t ht
    have h5 := kT h3 h1 h4 h2
    refine fun b hb => upd _ ?_ b hb
    split
    ·exact vo h3 (h3.join h1) h4 h5
    ·exact h5
theorem gw : aC aq = true := by decide
theorem Db {n : Nat} : Qu n (ct n) := fun b hb => by
 unfold gJ ct
 simp [List.getD, hb]
 exact gw
end
section
open Go.RowKit
theorem dY (b : Bool) (w : World) : Calls Tryz.prog 111 #[.bool b] w fun e w' => e = .returned (.int .i32 (jq b)) ∧ w = w' := by
 cases b
 all_goals
  go_enter Tryz.func111, Tryz.ntmps111
  go_wp2
  go_ret
  exact ⟨rfl, rfl⟩
theorem qJ (n : Int) : (0 ≤ n ∧ n.tmod 4294967296 = n % 4294967296) ∨ (n < 0 ∧ n.tmod 4294967296 = -((-n) % 4294967296)) := by
 by_cases h : 0 ≤ n
 ·exact .inl ⟨h, Int.tmod_eq_emod_of_nonneg h⟩
 ·right
  refine ⟨by omega, ?_⟩
  have := Int.neg_tmod (-n) 4294967296
  rw [Int.neg_neg] at this
  rw [this, Int.tmod_eq_emod_of_nonneg abo]
theorem eN (n : Int) (w : World) (h1 : -9223372036854775808 ≤ n) (h2 : n ≤ 9223372036854775807) : Calls Tryz.prog 107 #[.int .i64 n] w fun e w' => e = .returned (.int .i32 (wrap32 n)) ∧ w = w' := by
 have HF := acD (qJ n)
 have b1 : -4294967296 < n.tmod 4294967296 ∧ n.tmod 4294967296 < 4294967296 := by rcases qJ n with h | h <;> omega
 obtain ⟨b1, b2⟩ := b1
 obtain ⟨r, hr⟩ : ∃ r, n.tmod 4294967296 = r := ⟨_, rfl⟩
 have HR := acD hr
 go_enter Tryz.func107, Tryz.ntmps107
 go_wp2
 all_goals
  go_ret
  refine ⟨eu ?_, rfl⟩
  have hf := HF.out
  unfold wrap32
  omega
def mC (x : Int) : Int := if x < 0 then x + 4294967296 else x
theorem Jo {x : Int} (h : aP x) : 0 ≤ mC x ∧ mC x < 4294967296 := by unfold aP at h; unfold mC; split <;> omega
theorem Ap {u : Int} (h0 : 0 ≤ u) (h1 : u < 4294967296) (k : Nat) : 0 ≤ u / 2 ^ k ∧ u / 2 ^ k < 4294967296 := by
 have := (vu u k).1 h0
 omega
theorem oy (u : Int) (k : Nat) : u / 2 ^ k / 2 = u / 2 ^ (k + 1) := by
 rw [Int.pow_succ, Int.ediv_ediv_of_nonneg]
 have := nQ k
 omega
theorem iG (x i : Int) (w : World) (hx : aP x) (h0 : 0 ≤ i) (h1 : i ≤ 31) : Calls Tryz.prog 118 #[.int .i32 x, .int .i64 i] w fun e w' => e = .returned (.int .i64 (mC x / 2 ^ i.toNat % 2)) ∧ w = w' := by
 have hu := Jo hx
 have HU := acD (fun k => Ap hu.1 hu.2 k)
 have HS := acD (fun k => oy (mC x) k)
 obtain ⟨hx1, hx2⟩ := hx
 by_cases hn : x < 0
 all_goals
  have hz : mC x / 2 ^ 0 = mC x := by simp
  have he : mC x = if x < 0 then x + 4294967296 else x := rfl
  (first | rw [if_pos hn] at he | rw [if_neg hn] at he)
  have HZ := acD (hz.trans he)
  clear hz he hu
  go_enter Tryz.func118, Tryz.ntmps118
  go_wp2
  go_loop [1, 5] (fun i' n' => ∃ k : Nat, k ≤ i.toNat ∧ i' = .int .i64 (i - k) ∧ n' = .int .i64 (mC x / 2 ^ k)) (fun i' _ => (intOf i').toNat)
  case atStart => exact ⟨0, by omega, int_eq abo, int_eq HZ.out.symm⟩
  case round =>
   obtain ⟨k, hk, rfl, rfl⟩ := hrel
   obtain ⟨hu1, hu2⟩ := HU.out k
   have hs := acD (HS.out k)
   by_cases hlt : k < i.toNat
   ·have hlt' : 0 < i - (k : Int) := by omega
    obtain ⟨q, hq⟩ : ∃ q, mC x / 2 ^ k = q := ⟨_, rfl⟩
    rw [hq] at hu1 hu2 hs ⊢
    clear hq
    go_wp2
    go_round
    case rel => exact ⟨k + 1, by omega, int_eq abo, int_eq hs.out⟩
    case measure => simp [intOf]; omega
   ·have hge : ¬ 0 < i - (k : Int) := by omega
    obtain rfl : k = i.toNat := by omega
    obtain ⟨q, hq⟩ : ∃ q, mC x / 2 ^ i.toNat = q := ⟨_, rfl⟩
    rw [hq] at hu1 hu2 ⊢
    have HQ := acD hq
    clear hq
    go_wp2
    go_ret
    exact ⟨eu (by rw [HQ.out]), rfl⟩
theorem Ik (T k : Nat) : T % 2 ^ (k + 1) = T % 2 ^ k + 2 ^ k * (T / 2 ^ k % 2) := Nat.mod_pow_succ
theorem jW (T k : Nat) : T / 2 ^ k % 2 = 0 ∨ T / 2 ^ k % 2 = 1 := by omega
theorem tb (T k : Nat) : T.testBit k = decide (T / 2 ^ k % 2 = 1) := Nat.testBit_eq_decide_div_mod_eq
theorem Kt (X Y k : Nat) : ((X &&& Y) / 2 ^ k % 2 = 1) ↔ (X / 2 ^ k % 2 = 1 ∧ Y / 2 ^ k % 2 = 1) := by
 have h := Nat.testBit_and X Y k
 rw [tb, tb, tb, Bool.eq_iff_iff] at h
 simpa using h
theorem Nk (X Y k : Nat) : ((X ||| Y) / 2 ^ k % 2 = 1) ↔ (X / 2 ^ k % 2 = 1 ∨ Y / 2 ^ k % 2 = 1) := by
 have h := Nat.testBit_or X Y k
 rw [tb, tb, tb, Bool.eq_iff_iff] at h
 simpa using h
theorem Kr (X Y k : Nat) : ((X ^^^ Y) / 2 ^ k % 2 = 1) ↔ ¬ (X / 2 ^ k % 2 = 1 ↔ Y / 2 ^ k % 2 = 1) := by
 have h := Nat.testBit_xor X Y k
 rw [tb, tb, tb] at h
 by_cases a : X / 2 ^ k % 2 = 1 <;> by_cases b : Y / 2 ^ k % 2 = 1 <;> simp_all
def lD (op : Int) (X Y : Nat) : Nat := if op = 11 then X &&& Y else if op = 12 then X ||| Y else X ^^^ Y
theorem Aw (op : Int) {X Y : Nat} (hx : X < 2 ^ 32) (hy : Y < 2 ^ 32) : lD op X Y < 2 ^ 32 := by
 unfold lD
 split
 ·exact Nat.and_lt_two_pow _ hy
 ·split
  ·exact Nat.or_lt_two_pow hx hy
  ·exact Nat.xor_lt_two_pow hx hy
def tX (op a b : Int) : Bool := (op == 11 && a + b == 2) || (op == 12 && decide (1 ≤ a + b)) || (op == 13 && a + b == 1)
theorem sK (op : Int) (X Y k : Nat) (h : op = 11 ∨ op = 12 ∨ op = 13) (a b : Int) (ha : a = (X / 2 ^ k % 2 : Nat)) (hb : b = (Y / 2 ^ k % 2 : Nat)) :
  ((lD op X Y % 2 ^ (k + 1) : Nat) : Int) = (lD op X Y % 2 ^ k : Nat) + if tX op a b then (2 : Int) ^ k else 0 := by
 rw [Ik]
 have hx := jW X k
 have hy := jW Y k
 have e : ((2 ^ k : Nat) : Int) = 2 ^ k := by simp
 have key : (lD op X Y / 2 ^ k % 2 = 1 ↔ tX op a b = true) → ((lD op X Y % 2 ^ k + 2 ^ k * (lD op X Y / 2 ^ k % 2) : Nat) : Int) = (lD op X Y % 2 ^ k : Nat) + if tX op a b then (2 : Int) ^ k else 0 := by
  intro hk
  by_cases c : tX op a b = true
  ·rw [if_pos c, hk.2 c, Nat.mul_one, Int.natCast_add, e]
  ·rw [if_neg c]
   have : lD op X Y / 2 ^ k % 2 = 0 := by
    rcases jW (lD op X Y) k with h0 | h0
    ·exact h0
    ·exact absurd (hk.1 h0) c
   rw [this, Nat.mul_zero, Nat.add_zero, Int.add_zero]
 apply key
 rcases h with rfl | rfl | rfl
 ·show ((X &&& Y) / 2 ^ k % 2 = 1) ↔ _
  rw [Kt]
  simp [tX]
  omega
 ·show ((X ||| Y) / 2 ^ k % 2 = 1) ↔ _
  rw [Nk]
  simp [tX]
  omega
 ·show ((X ^^^ Y) / 2 ^ k % 2 = 1) ↔ _
  rw [Kr]
  simp [tX]
  omega
theorem Cu {x : Int} (h : aP x) : mC x = ((BitVec.ofInt 32 x).toNat : Int) := by
 rw [jG x h]; unfold mC; split <;> split <;> omega
theorem sL {op : Int} (h : op = 11 ∨ op = 12 ∨ op = 13) (x y : Int) : wv op x y = wrap32 (lD op (BitVec.ofInt 32 x).toNat (BitVec.ofInt 32 y).toNat : Nat) := by
 rcases h with rfl | rfl | rfl
 ·show bits .and .i32 x y = _
  rw [fQ]; simp only [BitVec.toNat_and]; rfl
 ·show bits .or .i32 x y = _
  rw [fQ]; simp only [BitVec.toNat_or]; rfl
 ·show bits .xor .i32 x y = _
  rw [fQ]; simp only [BitVec.toNat_xor]; rfl
theorem mz {x : Int} (h : aP x) (k : Nat) : mC x / 2 ^ k % 2 = (((BitVec.ofInt 32 x).toNat / 2 ^ k % 2 : Nat) : Int) := by
 rw [Cu h]; simp
theorem Ga (x y : Int) (w : World) (hx : aP x) (hy : aP y) : Calls Tryz.prog 108 #[.int .u8 11, .int .i32 x, .int .i32 y] w fun e w' => e = .returned (.int .i32 (wv 11 x y)) ∧ w = w' := by
 have EV := acD (sL (op := 11) abr x y)
 have VX := acD (fun k => mz hx k)
 have VY := acD (fun k => mz hy k)
 have hX : (BitVec.ofInt 32 x).toNat < 2 ^ 32 := (BitVec.ofInt 32 x).isLt
 have hY : (BitVec.ofInt 32 y).toNat < 2 ^ 32 := (BitVec.ofInt 32 y).isLt
 generalize (BitVec.ofInt 32 x).toNat = X at *
 generalize (BitVec.ofInt 32 y).toNat = Y at *
 have HS := acD (fun k a b => sK 11 X Y k abr a b)
 have HL := acD (Aw 11 hX hY)
 go_enter Tryz.func108, Tryz.ntmps108
 go_wp2_with fail
 go_loop [7, 8, 9] (fun n p i => ∃ k : Nat, k ≤ 32 ∧ i = .int .i64 k ∧ p = .int .i64 (2 ^ k) ∧ n = .int .i64 (lD 11 X Y % 2 ^ k : Nat)) (fun _ _ i => 32 - (intOf i).toNat)
 case atStart => exact ⟨0, by omega, rfl, rfl, int_eq (by simp [Nat.mod_one])⟩
 case round =>
  obtain ⟨k, hk, rfl, rfl, rfl⟩ := hrel
  have hp := jl k 32 hk
  have e32 : (2 : Int) ^ 32 = 4294967296 := by decide
  rw [e32] at hp
  have hb : ((lD 11 X Y % 2 ^ k : Nat) : Int) < 2 ^ k := by
   have h := Nat.mod_lt (lD 11 X Y) (show 0 < 2 ^ k from Nat.two_pow_pos k)
   have e : ((2 ^ k : Nat) : Int) = 2 ^ k := by simp
   omega
  have hb0 : 0 ≤ ((lD 11 X Y % 2 ^ k : Nat) : Int) := by omega
  obtain ⟨hp1, hp2⟩ := hp
  have P2 := acD (show (2 : Int) * 2 ^ k = 2 ^ (k + 1) by rw [Int.pow_succ]; omega)
  by_cases hlt : k < 32
  ·have hlt' : (k : Int) < 32 := by omega
   have vx := acD (VX.out k)
   have vy := acD (VY.out k)
   have st := acD (HS.out k _ _ rfl rfl)
   have bx := jW X k
   have b2 := jW Y k
   have RX := acD (iG x k · hx abo abo)
   have RY := acD (iG y k · hy abo abo)
   rw [Int.toNat_natCast, vx.out] at RX
   rw [Int.toNat_natCast, vy.out] at RY
   clear vx vy
   generalize X / 2 ^ k % 2 = bX at *
   generalize Y / 2 ^ k % 2 = bY at *
   obtain ⟨N, hN⟩ : ∃ N, lD 11 X Y % 2 ^ k = N := ⟨_, rfl⟩
   rw [hN] at hb hb0 st ⊢
   clear hN
   obtain ⟨p, hp⟩ : ∃ p, (2 : Int) ^ k = p := ⟨_, rfl⟩
   rw [hp] at hb hp1 hp2 st P2 ⊢
   clear hp
   rcases bx with rfl | rfl <;> rcases b2 with rfl | rfl
   all_goals
    go_wp2_with fail
    refine (RX.out _).mono ?_
    rintro e w' ⟨rfl, rfl⟩
    go_wp2_with fail
    refine (RY.out _).mono ?_
    rintro e w' ⟨rfl, rfl⟩
    go_wp2
    go_round
    case rel => exact ⟨k + 1, by omega, by go_num, int_eq P2.out, int_eq ab1⟩
    case measure => simp [intOf]; omega
  ·have hge : ¬ (k : Int) < 32 := by omega
   obtain rfl : k = 32 := by omega
   have hm : lD 11 X Y % 2 ^ 32 = lD 11 X Y := Nat.mod_eq_of_lt HL.out
   rw [hm] at hb hb0 ⊢
   have x7 : (2 : Int) ^ 32 = 4294967296 := by decide
   rw [x7] at hb ⊢
   clear hm x7 e32 HS P2
   obtain ⟨N, hN⟩ : ∃ N, lD 11 X Y = N := ⟨_, rfl⟩
   rw [hN] at hb hb0 EV ⊢
   clear hN HL
   go_wp2_with fail
   refine (eN _ _ abo abo).mono ?_
   rintro e w' ⟨rfl, rfl⟩
   go_wp2
   go_ret
   exact ⟨eu EV.out.symm, rfl⟩
theorem F9 (x y : Int) (w : World) (hx : aP x) (hy : aP y) : Calls Tryz.prog 108 #[.int .u8 12, .int .i32 x, .int .i32 y] w fun e w' => e = .returned (.int .i32 (wv 12 x y)) ∧ w = w' := by
 have EV := acD (sL (op := 12) abr x y)
 have VX := acD (fun k => mz hx k)
 have VY := acD (fun k => mz hy k)
 have hX : (BitVec.ofInt 32 x).toNat < 2 ^ 32 := (BitVec.ofInt 32 x).isLt
 have hY : (BitVec.ofInt 32 y).toNat < 2 ^ 32 := (BitVec.ofInt 32 y).isLt
 generalize (BitVec.ofInt 32 x).toNat = X at *
 generalize (BitVec.ofInt 32 y).toNat = Y at *
 have HS := acD (fun k a b => sK 12 X Y k abr a b)
 have HL := acD (Aw 12 hX hY)
 go_enter Tryz.func108, Tryz.ntmps108
 go_wp2_with fail
 go_loop [7, 8, 9] (fun n p i => ∃ k : Nat, k ≤ 32 ∧ i = .int .i64 k ∧ p = .int .i64 (2 ^ k) ∧ n = .int .i64 (lD 12 X Y % 2 ^ k : Nat)) (fun _ _ i => 32 - (intOf i).toNat)
 case atStart => exact ⟨0, by omega, rfl, rfl, int_eq (by simp [Nat.mod_one])⟩
 case round =>
  obtain ⟨k, hk, rfl, rfl, rfl⟩ := hrel
  have hp := jl k 32 hk
  have e32 : (2 : Int) ^ 32 = 4294967296 := by decide
  rw [e32] at hp
  have hb : ((lD 12 X Y % 2 ^ k : Nat) : Int) < 2 ^ k := by
   have h := Nat.mod_lt (lD 12 X Y) (show 0 < 2 ^ k from Nat.two_pow_pos k)
   have e : ((2 ^ k : Nat) : Int) = 2 ^ k := by simp
   omega
  have hb0 : 0 ≤ ((lD 12 X Y % 2 ^ k : Nat) : Int) := by omega
  obtain ⟨hp1, hp2⟩ := hp
  have P2 := acD (show (2 : Int) * 2 ^ k = 2 ^ (k + 1) by rw [Int.pow_succ]; omega)
  by_cases hlt : k < 32
  ·have hlt' : (k : Int) < 32 := by omega
   have vx := acD (VX.out k)
   have vy := acD (VY.out k)
   have st := acD (HS.out k _ _ rfl rfl)
   have bx := jW X k
   have b2 := jW Y k
   have RX := acD (iG x k · hx abo abo)
   have RY := acD (iG y k · hy abo abo)
   rw [Int.toNat_natCast, vx.out] at RX
   rw [Int.toNat_natCast, vy.out] at RY
   clear vx vy
   generalize X / 2 ^ k % 2 = bX at *
   generalize Y / 2 ^ k % 2 = bY at *
   obtain ⟨N, hN⟩ : ∃ N, lD 12 X Y % 2 ^ k = N := ⟨_, rfl⟩
   rw [hN] at hb hb0 st ⊢
   clear hN
   obtain ⟨p, hp⟩ : ∃ p, (2 : Int) ^ k = p := ⟨_, rfl⟩
   rw [hp] at hb hp1 hp2 st P2 ⊢
   clear hp
   rcases bx with rfl | rfl <;> rcases b2 with rfl | rfl
   all_goals
    go_wp2_with fail
    refine (RX.out _).mono ?_
    rintro e w' ⟨rfl, rfl⟩
    go_wp2_with fail
    refine (RY.out _).mono ?_
    rintro e w' ⟨rfl, rfl⟩
    go_wp2
    go_round
    case rel => exact ⟨k + 1, by omega, by go_num, int_eq P2.out, int_eq ab1⟩
    case measure => simp [intOf]; omega
  ·have hge : ¬ (k : Int) < 32 := by omega
   obtain rfl : k = 32 := by omega
   have hm : lD 12 X Y % 2 ^ 32 = lD 12 X Y := Nat.mod_eq_of_lt HL.out
   rw [hm] at hb hb0 ⊢
   have x7 : (2 : Int) ^ 32 = 4294967296 := by decide
   rw [x7] at hb ⊢
   clear hm x7 e32 HS P2
   obtain ⟨N, hN⟩ : ∃ N, lD 12 X Y = N := ⟨_, rfl⟩
   rw [hN] at hb hb0 EV ⊢
   clear hN HL
   go_wp2_with fail
   refine (eN _ _ abo abo).mono ?_
   rintro e w' ⟨rfl, rfl⟩
   go_wp2
   go_ret
   exact ⟨eu EV.out.symm, rfl⟩
theorem F8 (x y : Int) (w : World) (hx : aP x) (hy : aP y) : Calls Tryz.prog 108 #[.int .u8 13, .int .i32 x, .int .i32 y] w fun e w' => e = .returned (.int .i32 (wv 13 x y)) ∧ w = w' := by
 have EV := acD (sL (op := 13) abr x y)
 have VX := acD (fun k => mz hx k)
 have VY := acD (fun k => mz hy k)
 have hX : (BitVec.ofInt 32 x).toNat < 2 ^ 32 := (BitVec.ofInt 32 x).isLt
 have hY : (BitVec.ofInt 32 y).toNat < 2 ^ 32 := (BitVec.ofInt 32 y).isLt
 generalize (BitVec.ofInt 32 x).toNat = X at *
 generalize (BitVec.ofInt 32 y).toNat = Y at *
 have HS := acD (fun k a b => sK 13 X Y k abr a b)
 have HL := acD (Aw 13 hX hY)
 go_enter Tryz.func108, Tryz.ntmps108
 go_wp2_with fail
 go_loop [7, 8, 9] (fun n p i => ∃ k : Nat, k ≤ 32 ∧ i = .int .i64 k ∧ p = .int .i64 (2 ^ k) ∧ n = .int .i64 (lD 13 X Y % 2 ^ k : Nat)) (fun _ _ i => 32 - (intOf i).toNat)
 case atStart => exact ⟨0, by omega, rfl, rfl, int_eq (by simp [Nat.mod_one])⟩
 case round =>
  obtain ⟨k, hk, rfl, rfl, rfl⟩ := hrel
  have hp := jl k 32 hk
  have e32 : (2 : Int) ^ 32 = 4294967296 := by decide
  rw [e32] at hp
  have hb : ((lD 13 X Y % 2 ^ k : Nat) : Int) < 2 ^ k := by
   have h := Nat.mod_lt (lD 13 X Y) (show 0 < 2 ^ k from Nat.two_pow_pos k)
   have e : ((2 ^ k : Nat) : Int) = 2 ^ k := by simp
   omega
  have hb0 : 0 ≤ ((lD 13 X Y % 2 ^ k : Nat) : Int) := by omega
  obtain ⟨hp1, hp2⟩ := hp
  have P2 := acD (show (2 : Int) * 2 ^ k = 2 ^ (k + 1) by rw [Int.pow_succ]; omega)
  by_cases hlt : k < 32
  ·have hlt' : (k : Int) < 32 := by omega
   have vx := acD (VX.out k)
   have vy := acD (VY.out k)
   have st := acD (HS.out k _ _ rfl rfl)
   have bx := jW X k
   have b2 := jW Y k
   have RX := acD (iG x k · hx abo abo)
   have RY := acD (iG y k · hy abo abo)
   rw [Int.toNat_natCast, vx.out] at RX
   rw [Int.toNat_natCast, vy.out] at RY
   clear vx vy
   generalize X / 2 ^ k % 2 = bX at *
   generalize Y / 2 ^ k % 2 = bY at *
   obtain ⟨N, hN⟩ : ∃ N, lD 13 X Y % 2 ^ k = N := ⟨_, rfl⟩
   rw [hN] at hb hb0 st ⊢
   clear hN
   obtain ⟨p, hp⟩ : ∃ p, (2 : Int) ^ k = p := ⟨_, rfl⟩
   rw [hp] at hb hp1 hp2 st P2 ⊢
   clear hp
   rcases bx with rfl | rfl <;> rcases b2 with rfl | rfl
   all_goals
    go_wp2_with fail
    refine (RX.out _).mono ?_
    rintro e w' ⟨rfl, rfl⟩
    go_wp2_with fail
    refine (RY.out _).mono ?_
    rintro e w' ⟨rfl, rfl⟩
    go_wp2
    go_round
    case rel => exact ⟨k + 1, by omega, by go_num, int_eq P2.out, int_eq ab1⟩
    case measure => simp [intOf]; omega
  ·have hge : ¬ (k : Int) < 32 := by omega
   obtain rfl : k = 32 := by omega
   have hm : lD 13 X Y % 2 ^ 32 = lD 13 X Y := Nat.mod_eq_of_lt HL.out
   rw [hm] at hb hb0 ⊢
   have x7 : (2 : Int) ^ 32 = 4294967296 := by decide
   rw [x7] at hb ⊢
   clear hm x7 e32 HS P2
   obtain ⟨N, hN⟩ : ∃ N, lD 13 X Y = N := ⟨_, rfl⟩
   rw [hN] at hb hb0 EV ⊢
   clear hN HL
   go_wp2_with fail
   refine (eN _ _ abo abo).mono ?_
   rintro e w' ⟨rfl, rfl⟩
   go_wp2
   go_ret
   exact ⟨eu EV.out.symm, rfl⟩
theorem count_eq (y : Int) : (0 ≤ y ∧ y.tmod 32 = y % 32) ∨ (y < 0 ∧ y.tmod 32 = -((-y) % 32)) := by
 by_cases h : 0 ≤ y
 ·exact .inl ⟨h, Int.tmod_eq_emod_of_nonneg h⟩
 ·right
  refine ⟨by omega, ?_⟩
  have := Int.neg_tmod (-y) 32
  rw [Int.neg_neg] at this
  rw [this, Int.tmod_eq_emod_of_nonneg abo]
theorem rz (y : Int) (w : World) (hy : aP y) : Calls Tryz.prog 110 #[.int .i32 y] w fun e w' => e = .returned (.int .i64 (y % 32)) ∧ w = w' := by
 obtain ⟨h1, h2⟩ := hy
 have HF := acD (count_eq y)
 have hb : -32 < y.tmod 32 ∧ y.tmod 32 < 32 := by rcases count_eq y with h | h <;> omega
 obtain ⟨b1, b2⟩ := hb
 obtain ⟨r, hr⟩ : ∃ r, y.tmod 32 = r := ⟨_, rfl⟩
 have HR := acD hr
 go_enter Tryz.func110, Tryz.ntmps110
 go_wp2
 all_goals
  go_ret
  refine ⟨eu ?_, rfl⟩
  have hf := HF.out
  omega
end
section
open Go.RowKit
theorem yP (a : Int) : wrap32 (2 * wrap32 a) = wrap32 (a * 2) := by unfold wrap32; omega
theorem r7 {q : Int} : (q - q % 2).tdiv 2 = q / 2 := by
 have h : q - q % 2 = 2 * (q / 2) := by omega
 rw [h, Int.mul_tdiv_cancel_left _ abr]
theorem wX (x n : Int) (w : World) (hx : aP x) (h0 : 0 ≤ n) (h1 : n ≤ 31) : Calls Tryz.prog 109 #[.int .i32 x, .int .i64 n, .bool true] w fun e w' => e = .returned (.int .i32 (wrap32 (x * 2 ^ n.toNat))) ∧ w = w' := by
 have HZ := acD (show wrap32 (x * 2 ^ 0) = x by rw [Int.pow_zero, Int.mul_one]; exact fH hx)
 have HS := acD (fun k : Nat => show wrap32 (2 * wrap32 (x * 2 ^ k)) = wrap32 (x * 2 ^ (k + 1)) by rw [yP, Int.pow_succ, Int.mul_assoc])
 have HB := acD (fun k : Nat => eR (x * 2 ^ k))
 go_enter Tryz.func109, Tryz.ntmps109
 go_wp2_with fail
 go_loop [0, 7] (fun x' i => ∃ k : Nat, k ≤ n.toNat ∧ i = .int .i64 k ∧ x' = .int .i32 (wrap32 (x * 2 ^ k))) (fun _ i => n.toNat - (intOf i).toNat)
 case atStart => exact ⟨0, by omega, rfl, int_eq HZ.out.symm⟩
 case round =>
  obtain ⟨k, hk, rfl, rfl⟩ := hrel
  obtain ⟨b1, b2⟩ := HB.out k
  by_cases hlt : k < n.toNat
  ·have hlt' : (k : Int) < n := by omega
   have hs := acD (HS.out k)
   obtain ⟨q, hq⟩ : ∃ q, wrap32 (x * 2 ^ k) = q := ⟨_, rfl⟩
   rw [hq] at b1 b2 hs ⊢
   clear hq
   go_wp2_with fail
   refine (eN _ _ abo abo).mono ?_
   rintro e w' ⟨rfl, rfl⟩
   go_wp2
   go_round
   case rel => exact ⟨k + 1, by omega, by go_num, int_eq hs.out⟩
   case measure => simp [intOf]; omega
  ·have hge : ¬ (k : Int) < n := by omega
   obtain rfl : k = n.toNat := by omega
   go_wp2
   go_ret
   exact ⟨rfl, rfl⟩
theorem vB (x n : Int) (w : World) (hx : aP x) (h0 : 0 ≤ n) (h1 : n ≤ 31) : Calls Tryz.prog 109 #[.int .i32 x, .int .i64 n, .bool false] w fun e w' => e = .returned (.int .i32 (x / 2 ^ n.toNat)) ∧ w = w' := by
 have HZ := acD (show x / 2 ^ 0 = x by rw [Int.pow_zero, Int.ediv_one])
 have HS := acD (fun k : Nat => oy x k)
 have HB := acD (fun k : Nat => show aP (x / 2 ^ k) by have := vu x k; unfold aP at *; omega)
 go_enter Tryz.func109, Tryz.ntmps109
 go_wp2_with fail
 go_loop [0, 7] (fun x' i => ∃ k : Nat, k ≤ n.toNat ∧ i = .int .i64 k ∧ x' = .int .i32 (x / 2 ^ k)) (fun _ i => n.toNat - (intOf i).toNat)
 case atStart => exact ⟨0, by omega, rfl, int_eq HZ.out.symm⟩
 case round =>
  obtain ⟨k, hk, rfl, rfl⟩ := hrel
  have hw := HB.out k
  by_cases hlt : k < n.toNat
  ·have hlt' : (k : Int) < n := by omega
   have hs := acD (HS.out k)
   obtain ⟨q, hq⟩ : ∃ q, x / 2 ^ k = q := ⟨_, rfl⟩
   rw [hq] at hw hs ⊢
   clear hq
   have HF := acD (r7 (q := q))
   have Hb := acD (show mC q / 2 ^ (0 : Int).toNat % 2 = q % 2 by unfold mC; simp; split <;> omega)
   have RB := acD (iG q 0 · hw abo abo)
   rw [Hb.out] at RB
   obtain ⟨b1, b2⟩ := hw
   have tb1 : -2147483648 ≤ (q - q % 2).tdiv 2 ∧ (q - q % 2).tdiv 2 ≤ 2147483647 := by rw [r7]; omega
   obtain ⟨t1, t2⟩ := tb1
   obtain ⟨r, hr⟩ : ∃ r, q % 2 = r := ⟨_, rfl⟩
   have hr' : 0 ≤ r ∧ r ≤ 1 := by omega
   obtain ⟨r1, r2⟩ := hr'
   rw [hr] at RB t1 t2 HF
   clear hr Hb
   go_wp2_with fail
   refine (RB.out _).mono ?_
   rintro e w' ⟨rfl, rfl⟩
   go_wp2
   go_round
   case rel => exact ⟨k + 1, by omega, by go_num, int_eq (HF.out.trans hs.out)⟩
   case measure => simp [intOf]; omega
  ·have hge : ¬ (k : Int) < n := by omega
   obtain rfl : k = n.toNat := by omega
   go_wp2
   go_ret
   exact ⟨rfl, rfl⟩
theorem Gt {a b : Int} (ha : aP a) (hb : aP b) (h0 : b ≠ 0) : wrap32 (a - wrap32 (a.tdiv b) * b) = a.tmod b := by
 have hm := Gu a b h0
 have hd := Int.tmod_add_mul_tdiv a b
 have hw : aP (a.tmod b) := by unfold aP at *; omega
 have tb := dy a b ha.1 ha.2
 by_cases c : a.tdiv b = 2147483648
 ·have hb1 : b = -1 := by
   have h := Int.natAbs_tdiv a b
   rw [c] at h
   unfold aP at ha hb
   have hn : a.natAbs / b.natAbs = 2147483648 := h.symm
   have h3 : b.natAbs = 1 := by
    rcases Nat.lt_or_ge b.natAbs 2 with h4 | h4
    ·omega
    ·have h5 := Nat.div_le_div_left h4 (show 0 < 2 by omega) (a := a.natAbs)
     omega
   have h6 : b = 1 ∨ b = -1 := by omega
   rcases h6 with rfl | rfl
   ·rw [Int.tdiv_one] at c; omega
   ·rfl
  subst hb1
  rw [c] at hd ⊢
  have e : wrap32 2147483648 = -2147483648 := by unfold wrap32; omega
  rw [e]
  unfold wrap32 aP at *
  omega
 ·have e : wrap32 (a.tdiv b) = a.tdiv b := fH ⟨by omega, by omega⟩
  rw [e, show a - a.tdiv b * b = a.tmod b by rw [Int.mul_comm]; omega]
  exact fH hw
theorem Gf (x y : Int) (w : World) (hx1 : -2147483648 ≤ x) (hx2 : x ≤ 2147483647) (hy1 : -2147483648 ≤ y) (hy2 : y ≤ 2147483647) :
  Calls Tryz.prog 85 #[.int .u8 6, .int .i32 x, .int .i32 y] w fun e w' => e = .returned (.tuple #[.int .i32 (wrap32 (x + y)), .int .i64 0]) ∧ w = w' := by
 go_enter Tryz.func85, Tryz.ntmps85
 go_wp2_with (go_at_call 107; refine (eN _ _ abo abo).mono ?_; rintro e _ ⟨rfl, rfl⟩)
 all_goals
  go_ret2
  exact ⟨rfl, rfl⟩
theorem Ge (x y : Int) (w : World) (hx1 : -2147483648 ≤ x) (hx2 : x ≤ 2147483647) (hy1 : -2147483648 ≤ y) (hy2 : y ≤ 2147483647) :
  Calls Tryz.prog 85 #[.int .u8 7, .int .i32 x, .int .i32 y] w fun e w' => e = .returned (.tuple #[.int .i32 (wrap32 (x - y)), .int .i64 0]) ∧ w = w' := by
 go_enter Tryz.func85, Tryz.ntmps85
 go_wp2_with (go_at_call 107; refine (eN _ _ abo abo).mono ?_; rintro e _ ⟨rfl, rfl⟩)
 all_goals
  go_ret2
  exact ⟨rfl, rfl⟩
theorem Gd (x y : Int) (w : World) (hx1 : -2147483648 ≤ x) (hx2 : x ≤ 2147483647) (hy1 : -2147483648 ≤ y) (hy2 : y ≤ 2147483647) :
  Calls Tryz.prog 85 #[.int .u8 8, .int .i32 x, .int .i32 y] w fun e w' => e = .returned (.tuple #[.int .i32 (wrap32 (x * y)), .int .i64 0]) ∧ w = w' := by
 have hm := gC hx1 hx2 hy1 hy2
 obtain ⟨m1, m2⟩ := hm
 go_enter Tryz.func85, Tryz.ntmps85
 go_wp2_with (go_at_call 107; refine (eN _ _ abo abo).mono ?_; rintro e _ ⟨rfl, rfl⟩)
 all_goals
  go_ret2
  exact ⟨rfl, rfl⟩
theorem CH (x y : Int) (w : World) (hx1 : -2147483648 ≤ x) (hx2 : x ≤ 2147483647) (hy1 : -2147483648 ≤ y) (hy2 : y ≤ 2147483647) (h0 : y = 0) :
  Calls Tryz.prog 85 #[.int .u8 9, .int .i32 x, .int .i32 y] w fun e w' => e = .returned (.tuple #[.int .i32 (0), .int .i64 9]) ∧ w = w' := by
 have z : (y == 0) = true := by simpa using h0
 go_enter Tryz.func85, Tryz.ntmps85
 go_wp2_with fail
 all_goals
  go_ret2
  exact ⟨rfl, rfl⟩
theorem zz (x y : Int) (w : World) (hx1 : -2147483648 ≤ x) (hx2 : x ≤ 2147483647) (hy1 : -2147483648 ≤ y) (hy2 : y ≤ 2147483647) (h0 : y = 0) :
  Calls Tryz.prog 85 #[.int .u8 10, .int .i32 x, .int .i32 y] w fun e w' => e = .returned (.tuple #[.int .i32 (0), .int .i64 9]) ∧ w = w' := by
 have z : (y == 0) = true := by simpa using h0
 go_enter Tryz.func85, Tryz.ntmps85
 go_wp2_with fail
 all_goals
  go_ret2
  exact ⟨rfl, rfl⟩
theorem Gc (x y : Int) (w : World) (hx1 : -2147483648 ≤ x) (hx2 : x ≤ 2147483647) (hy1 : -2147483648 ≤ y) (hy2 : y ≤ 2147483647) (h0 : ¬ y = 0) :
  Calls Tryz.prog 85 #[.int .u8 9, .int .i32 x, .int .i32 y] w fun e w' => e = .returned (.tuple #[.int .i32 (wrap32 (x.tdiv y)), .int .i64 0]) ∧ w = w' := by
 have z : (y == 0) = false := by simpa using h0
 have tb := dy x y hx1 hx2
 obtain ⟨t1, t2⟩ := tb
 go_enter Tryz.func85, Tryz.ntmps85
 go_wp2_with (go_at_call 107; refine (eN _ _ abo abo).mono ?_; rintro e _ ⟨rfl, rfl⟩)
 all_goals
  go_ret2
  exact ⟨rfl, rfl⟩
theorem CZ (x y : Int) (w : World) (hx1 : -2147483648 ≤ x) (hx2 : x ≤ 2147483647) (hy1 : -2147483648 ≤ y) (hy2 : y ≤ 2147483647) (h0 : ¬ y = 0) :
  Calls Tryz.prog 85 #[.int .u8 10, .int .i32 x, .int .i32 y] w fun e w' => e = .returned (.tuple #[.int .i32 (x.tmod y), .int .i64 0]) ∧ w = w' := by
 have z : (y == 0) = false := by simpa using h0
 have tb := dy x y hx1 hx2
 obtain ⟨t1, t2⟩ := tb
 go_enter Tryz.func85, Tryz.ntmps85
 go_wp2_with fail
 refine (eN _ _ abo abo).mono ?_
 rintro e _ ⟨rfl, rfl⟩
 have hw := eR (x.tdiv y)
 have MW := acD (Gt ⟨hx1, hx2⟩ ⟨hy1, hy2⟩ h0)
 obtain ⟨q, hq⟩ : ∃ q, wrap32 (x.tdiv y) = q := ⟨_, rfl⟩
 rw [hq] at hw MW ⊢
 clear hq
 obtain ⟨w1, w2⟩ := hw
 have hm := gC w1 w2 hy1 hy2
 obtain ⟨m1, m2⟩ := hm
 go_wp2_with fail
 refine (eN _ _ abo abo).mono ?_
 rintro e _ ⟨rfl, rfl⟩
 go_wp2
 all_goals
  go_ret2
  exact ⟨by rw [MW.out]; rfl, rfl⟩
theorem CY (x y : Int) (w : World) (hx1 : -2147483648 ≤ x) (hx2 : x ≤ 2147483647) (hy1 : -2147483648 ≤ y) (hy2 : y ≤ 2147483647) :
  Calls Tryz.prog 85 #[.int .u8 11, .int .i32 x, .int .i32 y] w fun e w' => e = .returned (.tuple #[.int .i32 (wv 11 x y), .int .i64 0]) ∧ w = w' := by
 go_enter Tryz.func85, Tryz.ntmps85
 go_wp2_with (go_at_call 108; refine (Ga _ _ _ ⟨hx1, hx2⟩ ⟨hy1, hy2⟩).mono ?_; rintro e _ ⟨rfl, rfl⟩)
 all_goals
  go_ret2
  exact ⟨rfl, rfl⟩
theorem CX (x y : Int) (w : World) (hx1 : -2147483648 ≤ x) (hx2 : x ≤ 2147483647) (hy1 : -2147483648 ≤ y) (hy2 : y ≤ 2147483647) :
  Calls Tryz.prog 85 #[.int .u8 12, .int .i32 x, .int .i32 y] w fun e w' => e = .returned (.tuple #[.int .i32 (wv 12 x y), .int .i64 0]) ∧ w = w' := by
 go_enter Tryz.func85, Tryz.ntmps85
 go_wp2_with (go_at_call 108; refine (F9 _ _ _ ⟨hx1, hx2⟩ ⟨hy1, hy2⟩).mono ?_; rintro e _ ⟨rfl, rfl⟩)
 all_goals
  go_ret2
  exact ⟨rfl, rfl⟩
theorem CW (x y : Int) (w : World) (hx1 : -2147483648 ≤ x) (hx2 : x ≤ 2147483647) (hy1 : -2147483648 ≤ y) (hy2 : y ≤ 2147483647) :
  Calls Tryz.prog 85 #[.int .u8 13, .int .i32 x, .int .i32 y] w fun e w' => e = .returned (.tuple #[.int .i32 (wv 13 x y), .int .i64 0]) ∧ w = w' := by
 go_enter Tryz.func85, Tryz.ntmps85
 go_wp2_with (go_at_call 108; refine (F8 _ _ _ ⟨hx1, hx2⟩ ⟨hy1, hy2⟩).mono ?_; rintro e _ ⟨rfl, rfl⟩)
 all_goals
  go_ret2
  exact ⟨rfl, rfl⟩
theorem CV (x y : Int) (w : World) (hx1 : -2147483648 ≤ x) (hx2 : x ≤ 2147483647) (hy1 : -2147483648 ≤ y) (hy2 : y ≤ 2147483647) :
  Calls Tryz.prog 85 #[.int .u8 14, .int .i32 x, .int .i32 y] w fun e w' => e = .returned (.tuple #[.int .i32 (wrap32 (x * 2 ^ (y % 32).toNat)), .int .i64 0]) ∧ w = w' := by
 go_enter Tryz.func85, Tryz.ntmps85
 go_wp2_with (first | (go_at_call 110; refine (rz _ _ ⟨hy1, hy2⟩).mono ?_; rintro e _ ⟨rfl, rfl⟩) | (go_at_call 109; refine (wX _ _ _ ⟨hx1, hx2⟩ abo abo).mono ?_; rintro e _ ⟨rfl, rfl⟩))
 all_goals
  go_ret2
  exact ⟨rfl, rfl⟩
theorem CT (x y : Int) (w : World) (hx1 : -2147483648 ≤ x) (hx2 : x ≤ 2147483647) (hy1 : -2147483648 ≤ y) (hy2 : y ≤ 2147483647) :
  Calls Tryz.prog 85 #[.int .u8 15, .int .i32 x, .int .i32 y] w fun e w' => e = .returned (.tuple #[.int .i32 (x / 2 ^ (y % 32).toNat), .int .i64 0]) ∧ w = w' := by
 go_enter Tryz.func85, Tryz.ntmps85
 go_wp2_with (first | (go_at_call 110; refine (rz _ _ ⟨hy1, hy2⟩).mono ?_; rintro e _ ⟨rfl, rfl⟩) | (go_at_call 109; refine (vB _ _ _ ⟨hx1, hx2⟩ abo abo).mono ?_; rintro e _ ⟨rfl, rfl⟩))
 all_goals
  go_ret2
  exact ⟨rfl, rfl⟩
theorem CS (x y : Int) (w : World) (hx1 : -2147483648 ≤ x) (hx2 : x ≤ 2147483647) (hy1 : -2147483648 ≤ y) (hy2 : y ≤ 2147483647) :
  Calls Tryz.prog 85 #[.int .u8 16, .int .i32 x, .int .i32 y] w fun e w' => e = .returned (.tuple #[.int .i32 (jq (x == y)), .int .i64 0]) ∧ w = w' := by
 go_enter Tryz.func85, Tryz.ntmps85
 go_wp2_with (go_at_call 111; refine (dY _ _).mono ?_; rintro e _ ⟨rfl, rfl⟩)
 all_goals
  go_ret2
  exact ⟨rfl, rfl⟩
theorem CR (x y : Int) (w : World) (hx1 : -2147483648 ≤ x) (hx2 : x ≤ 2147483647) (hy1 : -2147483648 ≤ y) (hy2 : y ≤ 2147483647) :
  Calls Tryz.prog 85 #[.int .u8 17, .int .i32 x, .int .i32 y] w fun e w' => e = .returned (.tuple #[.int .i32 (jq (x != y)), .int .i64 0]) ∧ w = w' := by
 go_enter Tryz.func85, Tryz.ntmps85
 go_wp2_with (go_at_call 111; refine (dY _ _).mono ?_; rintro e _ ⟨rfl, rfl⟩)
 all_goals
  go_ret2
  exact ⟨rfl, rfl⟩
theorem CQ (x y : Int) (w : World) (hx1 : -2147483648 ≤ x) (hx2 : x ≤ 2147483647) (hy1 : -2147483648 ≤ y) (hy2 : y ≤ 2147483647) :
  Calls Tryz.prog 85 #[.int .u8 18, .int .i32 x, .int .i32 y] w fun e w' => e = .returned (.tuple #[.int .i32 (jq (decide (x < y))), .int .i64 0]) ∧ w = w' := by
 go_enter Tryz.func85, Tryz.ntmps85
 go_wp2_with (go_at_call 111; refine (dY _ _).mono ?_; rintro e _ ⟨rfl, rfl⟩)
 all_goals
  go_ret2
  exact ⟨rfl, rfl⟩
theorem CP (x y : Int) (w : World) (hx1 : -2147483648 ≤ x) (hx2 : x ≤ 2147483647) (hy1 : -2147483648 ≤ y) (hy2 : y ≤ 2147483647) :
  Calls Tryz.prog 85 #[.int .u8 19, .int .i32 x, .int .i32 y] w fun e w' => e = .returned (.tuple #[.int .i32 (jq (decide (x ≤ y))), .int .i64 0]) ∧ w = w' := by
 go_enter Tryz.func85, Tryz.ntmps85
 go_wp2_with (go_at_call 111; refine (dY _ _).mono ?_; rintro e _ ⟨rfl, rfl⟩)
 all_goals
  go_ret2
  exact ⟨rfl, rfl⟩
theorem CO (x y : Int) (w : World) (hx1 : -2147483648 ≤ x) (hx2 : x ≤ 2147483647) (hy1 : -2147483648 ≤ y) (hy2 : y ≤ 2147483647) :
  Calls Tryz.prog 85 #[.int .u8 20, .int .i32 x, .int .i32 y] w fun e w' => e = .returned (.tuple #[.int .i32 (jq (decide (y < x))), .int .i64 0]) ∧ w = w' := by
 go_enter Tryz.func85, Tryz.ntmps85
 go_wp2_with (go_at_call 111; refine (dY _ _).mono ?_; rintro e _ ⟨rfl, rfl⟩)
 all_goals
  go_ret2
  exact ⟨rfl, rfl⟩
theorem CN (x y : Int) (w : World) (hx1 : -2147483648 ≤ x) (hx2 : x ≤ 2147483647) (hy1 : -2147483648 ≤ y) (hy2 : y ≤ 2147483647) :
  Calls Tryz.prog 85 #[.int .u8 21, .int .i32 x, .int .i32 y] w fun e w' => e = .returned (.tuple #[.int .i32 (jq (decide (y ≤ x))), .int .i64 0]) ∧ w = w' := by
 go_enter Tryz.func85, Tryz.ntmps85
 go_wp2_with (go_at_call 111; refine (dY _ _).mono ?_; rintro e _ ⟨rfl, rfl⟩)
 all_goals
  go_ret2
  exact ⟨rfl, rfl⟩
theorem xm (x y : Int) (w : World) (hx1 : -2147483648 ≤ x) (hx2 : x ≤ 2147483647) (hy1 : -2147483648 ≤ y) (hy2 : y ≤ 2147483647) (z : (x != 0) = true) :
  Calls Tryz.prog 85 #[.int .u8 22, .int .i32 x, .int .i32 y] w fun e w' => e = .returned (.tuple #[.int .i32 (jq (x != 0 && y != 0)), .int .i64 0]) ∧ w = w' := by
 have z0 : (x == 0) = false := by simpa using z
 go_enter Tryz.func85, Tryz.ntmps85
 go_wp2_with (go_at_call 111; refine (dY _ _).mono ?_; rintro e _ ⟨rfl, rfl⟩)
 all_goals
  go_ret2
  exact ⟨by simp only [z]; simp, rfl⟩
theorem xo (x y : Int) (w : World) (hx1 : -2147483648 ≤ x) (hx2 : x ≤ 2147483647) (hy1 : -2147483648 ≤ y) (hy2 : y ≤ 2147483647) (z : (x != 0) = false) :
  Calls Tryz.prog 85 #[.int .u8 22, .int .i32 x, .int .i32 y] w fun e w' => e = .returned (.tuple #[.int .i32 (jq (x != 0 && y != 0)), .int .i64 0]) ∧ w = w' := by
 have z0 : (x == 0) = true := by simpa using z
 go_enter Tryz.func85, Tryz.ntmps85
 go_wp2_with (go_at_call 111; refine (dY _ _).mono ?_; rintro e _ ⟨rfl, rfl⟩)
 all_goals
  go_ret2
  exact ⟨by simp only [z]; simp, rfl⟩
theorem CL (x y : Int) (w : World) (hx1 : -2147483648 ≤ x) (hx2 : x ≤ 2147483647) (hy1 : -2147483648 ≤ y) (hy2 : y ≤ 2147483647) :
  Calls Tryz.prog 85 #[.int .u8 22, .int .i32 x, .int .i32 y] w fun e w' => e = .returned (.tuple #[.int .i32 (jq (x != 0 && y != 0)), .int .i64 0]) ∧ w = w' := by
 cases z : (x != 0)
 ·have h := xo x y w hx1 hx2 hy1 hy2 z
  rw [z] at h
  exact h
 ·have h := xm x y w hx1 hx2 hy1 hy2 z
  rw [z] at h
  exact h
theorem xj (x y : Int) (w : World) (hx1 : -2147483648 ≤ x) (hx2 : x ≤ 2147483647) (hy1 : -2147483648 ≤ y) (hy2 : y ≤ 2147483647) (z : (x != 0) = true) :
  Calls Tryz.prog 85 #[.int .u8 23, .int .i32 x, .int .i32 y] w fun e w' => e = .returned (.tuple #[.int .i32 (jq (x != 0 || y != 0)), .int .i64 0]) ∧ w = w' := by
 have z0 : (x == 0) = false := by simpa using z
 go_enter Tryz.func85, Tryz.ntmps85
 go_wp2_with (go_at_call 111; refine (dY _ _).mono ?_; rintro e _ ⟨rfl, rfl⟩)
 all_goals
  go_ret2
  exact ⟨by simp only [z]; simp, rfl⟩
theorem xk (x y : Int) (w : World) (hx1 : -2147483648 ≤ x) (hx2 : x ≤ 2147483647) (hy1 : -2147483648 ≤ y) (hy2 : y ≤ 2147483647) (z : (x != 0) = false) :
  Calls Tryz.prog 85 #[.int .u8 23, .int .i32 x, .int .i32 y] w fun e w' => e = .returned (.tuple #[.int .i32 (jq (x != 0 || y != 0)), .int .i64 0]) ∧ w = w' := by
 have z0 : (x == 0) = true := by simpa using z
 go_enter Tryz.func85, Tryz.ntmps85
 go_wp2_with (go_at_call 111; refine (dY _ _).mono ?_; rintro e _ ⟨rfl, rfl⟩)
 all_goals
  go_ret2
  exact ⟨by simp only [z]; simp, rfl⟩
theorem CJ (x y : Int) (w : World) (hx1 : -2147483648 ≤ x) (hx2 : x ≤ 2147483647) (hy1 : -2147483648 ≤ y) (hy2 : y ≤ 2147483647) :
  Calls Tryz.prog 85 #[.int .u8 23, .int .i32 x, .int .i32 y] w fun e w' => e = .returned (.tuple #[.int .i32 (jq (x != 0 || y != 0)), .int .i64 0]) ∧ w = w' := by
 cases z : (x != 0)
 ·have h := xk x y w hx1 hx2 hy1 hy2 z
  rw [z] at h
  exact h
 ·have h := xj x y w hx1 hx2 hy1 hy2 z
  rw [z] at h
  exact h
theorem zw (op x y : Int) (w : World) (hop : ¬ (6 ≤ op ∧ op ≤ 23)) :
  Calls Tryz.prog 85 #[.int .u8 op, .int .i32 x, .int .i32 y] w fun e w' => e = .returned (.tuple #[.int .i32 0, .int .i64 1]) ∧ w = w' := by
 have n6 : (op == 6) = false := by simp; omega
 have n7 : (op == 7) = false := by simp; omega
 have n8 : (op == 8) = false := by simp; omega
 have n9 : (op == 9) = false := by simp; omega
 have n10 : (op == 10) = false := by simp; omega
 have n11 : (op == 11) = false := by simp; omega
 have n12 : (op == 12) = false := by simp; omega
 have n13 : (op == 13) = false := by simp; omega
 have n14 : (op == 14) = false := by simp; omega
 have n15 : (op == 15) = false := by simp; omega
 have n16 : (op == 16) = false := by simp; omega
 have n17 : (op == 17) = false := by simp; omega
 have n18 : (op == 18) = false := by simp; omega
 have n19 : (op == 19) = false := by simp; omega
 have n20 : (op == 20) = false := by simp; omega
 have n21 : (op == 21) = false := by simp; omega
 have n22 : (op == 22) = false := by simp; omega
 have n23 : (op == 23) = false := by simp; omega
 clear hop
 go_enter Tryz.func85, Tryz.ntmps85
 go_wp2
 go_ret2
 exact ⟨rfl, rfl⟩
theorem mP (op x y : Int) (w : World) (hx : aP x) (hy : aP y) :
  Calls Tryz.prog 85 #[.int .u8 op, .int .i32 x, .int .i32 y] w fun e w' => e = .returned (.tuple #[.int .i32 (wv op x y), .int .i64 (we op y)]) ∧ w = w' := by
 obtain ⟨hx1, hx2⟩ := hx
 obtain ⟨hy1, hy2⟩ := hy
 by_cases hop : 6 ≤ op ∧ op ≤ 23
 ·have h : op = 6 ∨ op = 7 ∨ op = 8 ∨ op = 9 ∨ op = 10 ∨ op = 11 ∨ op = 12 ∨ op = 13 ∨ op = 14 ∨ op = 15 ∨ op = 16 ∨ op = 17 ∨ op = 18 ∨ op = 19 ∨ op = 20 ∨ op = 21 ∨ op = 22 ∨ op = 23 := by omega
  rcases h with rfl | rfl | rfl | rfl | rfl | rfl | rfl | rfl | rfl | rfl | rfl | rfl | rfl | rfl | rfl | rfl | rfl | rfl
  ·exact Gf x y w hx1 hx2 hy1 hy2
  ·exact Ge x y w hx1 hx2 hy1 hy2
  ·exact Gd x y w hx1 hx2 hy1 hy2
  ·by_cases h0 : y = 0
   ·refine (CH x y w hx1 hx2 hy1 hy2 h0).mono fun e w' ⟨he, hw⟩ => ⟨?_, hw⟩
    rw [he]
    simp [wv, we, h0]
   ·refine (Gc x y w hx1 hx2 hy1 hy2 h0).mono fun e w' ⟨he, hw⟩ => ⟨?_, hw⟩
    rw [he]
    simp [wv, we, h0]
  ·by_cases h0 : y = 0
   ·refine (zz x y w hx1 hx2 hy1 hy2 h0).mono fun e w' ⟨he, hw⟩ => ⟨?_, hw⟩
    rw [he]
    simp [wv, we, h0]
   ·refine (CZ x y w hx1 hx2 hy1 hy2 h0).mono fun e w' ⟨he, hw⟩ => ⟨?_, hw⟩
    rw [he]
    simp [wv, we, h0]
  ·exact CY x y w hx1 hx2 hy1 hy2
  ·exact CX x y w hx1 hx2 hy1 hy2
  ·exact CW x y w hx1 hx2 hy1 hy2
  ·exact CV x y w hx1 hx2 hy1 hy2
  ·exact CT x y w hx1 hx2 hy1 hy2
  ·exact CS x y w hx1 hx2 hy1 hy2
  ·exact CR x y w hx1 hx2 hy1 hy2
  ·exact CQ x y w hx1 hx2 hy1 hy2
  ·exact CP x y w hx1 hx2 hy1 hy2
  ·exact CO x y w hx1 hx2 hy1 hy2
  ·exact CN x y w hx1 hx2 hy1 hy2
  ·exact CL x y w hx1 hx2 hy1 hy2
  ·exact CJ x y w hx1 hx2 hy1 hy2
 ·refine (zw op x y w hop).mono fun e w' ⟨he, hw⟩ => ⟨?_, hw⟩
  rw [he]
  have e1 : wv op x y = 0 := by
   unfold wv
   iterate 18 rw [if_neg abo]
  have e2 : we op y = 1 := by unfold we; rw [if_neg hop]
  rw [e1, e2]
end
end Go.Proofs.YtebklpnkcicpjaaGreatDoor
