/-
 What is proved here: what the statements' graph returns.
-/
import Derived.Test.YtebklpnkcicpjaaDoorFaAz0
import Derived.Test.YtebklpnkcicpjaaDoorFbCc
import Derived.Test.YtebklpnkcicpjaaDoorFbCd
namespace Go.Proofs.YtebklpnkcicpjaaDoor
open Go.RowKit
set_option linter.unusedVariables false
set_option linter.unusedSimpArgs false

theorem gBlks_nx3 (c : Int → Ins) (L : List (Int × Int)) : ∀ x ∈ gBlks c L, x.nx.length ≤ 1000 := by
 intro x hx
 unfold gBlks at hx
 obtain ⟨k, hk, rfl⟩ := List.mem_map.1 hx
 have h1 := nxl_len L (succI (c (lastI L k)) (lastI L k))
 have h2 := succI_len (c (lastI L k)) (lastI L k)
 show (nextOf c L k).length ≤ 1000
 unfold nextOf
 omega
theorem WordsN.belowG {w w' : World} {v : Value} {n : Nat} {cd : Nat → Int} (h : WordsN w v n cd) (hb : Below w.heap.size w w') : WordsN w' v n cd := by
 obtain ⟨A, cap, h1, h2, h3, h4⟩ := h.at_
 refine ⟨h.wd, A, cap, h1, h2, h3, fun h0 => ?_⟩
 obtain ⟨b, off, ha, hlt, hc⟩ := h4 h0
 exact ⟨b, off, ha, by have := hb.size; omega, fun i hi => (hb.cell (p := ⟨b, off + i, none⟩) hlt).trans (hc i hi)⟩
theorem no_num {w : World} {q o : Nat} {T : TypeId} {x : Int} (hk : w.heap[q]? = some (.cells #[.slice none 0 0, .slice none 0 0] T (0, 0))) : w.cell? ⟨q, o, none⟩ ≠ some (.int .i64 x) := by
 intro h
 simp only [World.cell?, hk] at h
 rcases o with _ | _ | o
 ·simp at h
 ·simp at h
 ·simp at h
section
variable {w w' : World} {q B : Nat} {T : TypeId} (hk : w.heap[q]? = some (.cells #[.slice none 0 0, .slice none 0 0] T (0, 0))) (hw : ∀ p, p ≠ q → w'.heap[p]? = w.heap[p]?) (hs : w.heap.size ≤ w'.heap.size) (hqB : q < B)
include hk hw hs
theorem Ints.past {v : Value} {l : List Int} (h : Ints w v l) : Ints w' v l := by
 obtain ⟨A, cap, h1, h2, h3, h4⟩ := h
 refine ⟨A, cap, h1, h2, h3, fun h0 => ?_⟩
 obtain ⟨b, off, ha, hlt, hc⟩ := h4 h0
 have hne : b ≠ q := fun e => no_num hk (e ▸ hc 0 h0)
 exact ⟨b, off, ha, by omega, fun i hi => (World.cell?_of_block (hw b hne)).trans (hc i hi)⟩
theorem Blks.past {v : Value} {G : List Blk} (h : Blks w v G) : Blks w' v G := by
 obtain ⟨A, cap, h1, h2, h3, h4⟩ := h
 refine ⟨A, cap, h1, h2, h3, fun h0 => ?_⟩
 obtain ⟨b, off, ha, hlt, hc⟩ := h4 h0
 have hne : b ≠ q := fun e => no_num hk (e ▸ (hc 0 _ (List.getElem?_eq_getElem h0)).1)
 refine ⟨b, off, ha, by omega, fun i x hx => ?_⟩
 obtain ⟨c0, c1, nv, c2, c3⟩ := hc i x hx
 exact ⟨(World.cell?_of_block (hw b hne)).trans c0, (World.cell?_of_block (hw b hne)).trans c1, nv, (World.cell?_of_block (hw b hne)).trans c2, c3.past hk hw hs⟩
include hqB
theorem Lls.past {v : Value} {P : List (List Int)} (h : Lls w v P) (hn : ∀ p, v.ownBlock = some p → B ≤ p) : Lls w' v P := by
 obtain ⟨A, cap, h1, h2, h3, h4⟩ := h
 refine ⟨A, cap, h1, h2, h3, fun h0 => ?_⟩
 obtain ⟨b, off, ha, hlt, hc⟩ := h4 h0
 have hne : b ≠ q := by have := hn b (by rw [h1, ha]; rfl); omega
 refine ⟨b, off, ha, by omega, fun i x hx => ?_⟩
 obtain ⟨nv, c2, c3⟩ := hc i x hx
 exact ⟨nv, (World.cell?_of_block (hw b hne)).trans c2, c3.past hk hw hs⟩
end
theorem okL.mem {n : Nat} : ∀ {l : List Blk} {a z : Int}, okL n a l z → ∀ x ∈ l, ∃ e, OkB n e x
 | [], a, z, _, x, hx => by cases hx
 | y :: l, a, z, h, x, hx => by
  rcases List.mem_cons.1 hx with rfl | hx
  ·exact ⟨a, h.1⟩
  ·exact okL.mem h.2 x hx
theorem gr_ok {n : Nat} {cd : Nat → Int} {ents : List Ent} {sh lk : Int} {k : Nat} {en : Ent} {D : List Int} {L : List (Int × Int)} (hwd : ∀ i, i < n → 0 ≤ cd i ∧ cd i < 4294967296) (hgd : GoodI n cd ents sh lk) (hk : ents[k]? = some en) (hg : GInv (insAt cd) en.st en.en D L) (hst : en.st ∈ D) :
  ∀ x ∈ gBlks (insAt cd) L, GOk n cd (gBlks (insAt cd) L) x := by
 intro x hx
 obtain ⟨z, hz⟩ := (hg.valid hst).ok
 obtain ⟨e, he⟩ := hz.mem x hx
 have h3 := gBlks_nx3 (insAt cd) L x hx
 have hb := Chain.bounds hgd.ch en (List.mem_of_getElem? hk)
 unfold gBlks at hx
 obtain ⟨j, hj, hxe⟩ := List.mem_map.1 hx
 have hj := List.mem_range.1 hj
 have hL : L.getD j (0, 0) ∈ L := by
  rw [List.getD_eq_getElem?_getD, List.getElem?_eq_getElem hj]
  exact List.getElem_mem hj
 have hlo := hg.b.lo _ hL
 have e1 : x.lo = (L.getD j (0, 0)).1 := by rw [← hxe]
 have e2 : x.hi = (L.getD j (0, 0)).2 := by rw [← hxe]
 refine ⟨by omega, by omega, h3, he.nx, fun a h1 h2 => ?_⟩
 have ha : a < n := by omega
 refine ⟨ha, ?_, ?_⟩
 ·have := (hgd.ins en (List.mem_of_getElem? hk) a (by omega) (by omega)).dec
  rwa [Int.toNat_natCast] at this
 ·show 0 ≤ (decI (cd (a : Int).toNat)).1.op
  rw [Int.toNat_natCast]
  exact (decI_op _ (hwd a ha).1 (hwd a ha).2).1

structure Grf (w : World) (cv bv pv : Value) (n : Nat) (cd : Nat → Int) (ents : List Ent) (sh lk : Int) (k : Nat) (G : List Blk) (P : List (List Int)) : Prop where
 wd : Words w cv n cd
 n3 : n ≤ 300
 gd : GoodI n cd ents sh lk
 bks : Blks w bv G
 lls : Lls w pv P
 val : ValidG G P
 pos : 0 < G.length
 len : G.length ≤ 1000
 ok : ∀ x ∈ G, GOk n cd G x
 run : ∃ (en : Ent) (D : List Int) (L : List (Int × Int)), ents[k]? = some en ∧ GInv (insAt cd) en.st en.en D L ∧ en.st ∈ D ∧ blk (insAt cd) en.st D (en.en - en.st).toNat = L ∧ G = gBlks (insAt cd) L
set_option maxHeartbeats 4000000 in
set_option maxRecDepth 20000 in
theorem graph_any (cv ev : Value) (sh lk : Int) (n : Nat) (cd : Nat → Int) (ents : List Ent) (task : Int) (w : World) (T : Tab w) (HW : WordsN w cv n cd) (HE : Ents w ev ents) :
  Calls Tryd.prog 15 #[.agg #[cv, ev, .int .i64 sh, .int .i64 lk], .int .i64 task] w fun e w' => (e = .returned (.tuple #[.agg #[.slice none 0 0, .slice none 0 0], .bool false]) ∨ ∃ bv pv k G P, e = .returned (.tuple #[.agg #[bv, pv], .bool true]) ∧ task = ((k : Nat) : Int) ∧ Grf w' cv bv pv n cd ents sh lk k G P) ∧ Below w.heap.size w w' := by
 obtain ⟨V, hV, k0, k1, bV, sV⟩ : ∃ V, (w.alloc (.cells #[cv, ev, .int .i64 sh, .int .i64 lk] 38)).alloc (.cells #[.slice none 0 0, .slice none 0 0] 48) = V ∧ V.heap[w.heap.size]? = some (.cells #[cv, ev, .int .i64 sh, .int .i64 lk] 38 (0, 0)) ∧ V.heap[w.heap.size + 1]? = some (.cells #[.slice none 0 0, .slice none 0 0] 48 (0, 0)) ∧ Below w.heap.size w V ∧ V.heap.size = w.heap.size + 1 + 1 := two_new w _ _ _ _
 have y0 : V.cell? ⟨w.heap.size, 0, none⟩ = some cv := by simp [World.cell?, k0]
 have y1 : V.cell? ⟨w.heap.size, 1, none⟩ = some ev := by simp [World.cell?, k0]
 have y2 : V.cell? ⟨w.heap.size, 2, none⟩ = some (.int .i64 sh) := by simp [World.cell?, k0]
 have y3 : V.cell? ⟨w.heap.size, 3, none⟩ = some (.int .i64 lk) := by simp [World.cell?, k0]
 have l0 : w.heap.size < V.heap.size := by omega
 have l1 : w.heap.size + 1 < V.heap.size := by omega
 have BV := Lib.hid bV
 have K0 := Lib.hid k0
 have K1 := Lib.hid k1
 have HWH := Lib.hid HW
 have HEH := Lib.hid HE
 have HT := Lib.hid T
 have SV := Lib.hid sV
 have HGR := Lib.hid (great_any cv ev sh lk n cd ents V (HW.belowG bV) (HE.below bV))
 clear bV k0 k1 HW HE T sV
 go_enter Tryd.func15, Tryd.ntmps15
 go_upto_region 1 with fail
 clear hV
 by_cases hgt : 300 < n ∨ 4 < ents.length
 ·have hg1 : greatI n ents = 1 := by unfold greatI; rw [if_pos hgt]
  rw [hg1] at HGR
  go_wp2_with (first | (go_at_call 40; refine HGR.out.mono ?_; rintro e W1 ⟨rfl, hb1⟩) | (refine wpList_store_row rfl 48 (.tmp 4) (.tmp 12) rfl (w.heap.size + 1) #[.slice none 0 0, .slice none 0 0] rfl rfl 48 _ ((hb1.block _ l1).trans K1.out) (by kernel_rfl) rfl (by simp [Value.oneCell']) ?_))
  refine bodyPost_ret (results_cell_tmp (P := Tryd.prog) Tryd.results15 _ _ (w.heap.size + 1) [.slice none 0 0, .slice none 0 0] _ rfl (rangeAt_block (setRow_heap _ _ _ _ _ _ ((hb1.block _ l1).trans K1.out))) Tryd.underlying48 rfl (by kernel_rfl)) rfl ⟨.inl rfl, below_setRow (BV.out.trans (hb1.mono BV.out.size)) (by omega) _⟩
 have hg0 : greatI n ents = 0 := by unfold greatI; rw [if_neg hgt]
 rw [hg0] at HGR
 have hn3 : n ≤ 300 := by omega
 clear hgt hg0
 have HBU := Lib.hid (fun (W : World) (hb : Below w.heap.size w W) => build_new cv ev sh lk n cd ents task W (HT.out.below hb) ((HWH.out.belowG hb).words (by omega)) (HEH.out.below hb))
 go_upto_region 3 with (go_at_call 40; refine HGR.out.mono ?_; rintro e W1 ⟨rfl, hb1⟩)
 have bW1 := BV.out.trans (hb1.mono BV.out.size)
 have x0 : W1.cell? ⟨w.heap.size, 0, none⟩ = _ := (hb1.cell (p := ⟨w.heap.size, 0, none⟩) l0).trans y0
 have x1 : W1.cell? ⟨w.heap.size, 1, none⟩ = _ := (hb1.cell (p := ⟨w.heap.size, 1, none⟩) l0).trans y1
 have x2 : W1.cell? ⟨w.heap.size, 2, none⟩ = _ := (hb1.cell (p := ⟨w.heap.size, 2, none⟩) l0).trans y2
 have x3 : W1.cell? ⟨w.heap.size, 3, none⟩ = _ := (hb1.cell (p := ⟨w.heap.size, 3, none⟩) l0).trans y3
 have lw : w.heap.size < W1.heap.size := by have := hb1.size; omega
 have HB2 := Lib.hid (HBU.out W1 bW1)
 have BW1 := Lib.hid bW1
 have K2 := Lib.hid ((hb1.block _ l1).trans K1.out)
 have s1 := hb1.size
 clear hb1 bW1 HBU y0 y1 y2 y3 HGR
 have FIN := Lib.hid (show ∀ (W2 : World) (a1 a2 : Value), Below W1.heap.size W1 W2 → ((W2.alloc (.cells #[a1, a2] 48)).heap[w.heap.size + 1]? = some (.cells #[.slice none 0 0, .slice none 0 0] 48 (0, 0))) ∧ Below w.heap.size w (W2.alloc (.cells #[a1, a2] 48)) from fun W2 a1 a2 hb => by
  refine ⟨?_, (BW1.out.trans (hb.mono BW1.out.size)).alloc (BW1.out.trans (hb.mono BW1.out.size)).size _⟩
  rw [heap_alloc_old _ _ (by have := hb.size; have := SV.out; omega), hb.block _ (by have := SV.out; omega)]; exact K2.out)
 go_upto_region 4 with (go_at_call 30; refine HB2.out.mono ?_; rintro e W2 h; rcases h with ⟨_, rfl, hb3⟩ | ⟨_, _, rfl, hb3⟩ | ⟨_, k, en, D, bad, _, _, _, _, rfl, hb3⟩ | ⟨hGd, k, en, D, L, bv, pv, rfl, hen, hR, hL, rfl, hG, hP, hb3, hNG⟩ <;> try (obtain ⟨GA, gcap, rfl, -, -, -⟩ := id hG; obtain ⟨PA, pcap, rfl, -, -, -⟩ := id hP))
 case _ | _ | _ =>
  have kq := (FIN.out W2 (.slice none 0 0) (.slice none 0 0) hb3).1
  have bq := (FIN.out W2 (.slice none 0 0) (.slice none 0 0) hb3).2
  go_wp2_with (first | (refine wpList_store_row rfl 48 (.tmp 4) (.tmp 20) rfl (w.heap.size + 1) #[.slice none 0 0, .slice none 0 0] rfl rfl 48 _ kq (by kernel_rfl) rfl (by simp [Value.oneCell']) ?_))
  refine bodyPost_ret (results_cell_tmp (P := Tryd.prog) Tryd.results15 _ _ (w.heap.size + 1) [.slice none 0 0, .slice none 0 0] _ rfl (rangeAt_block (setRow_heap _ _ _ _ _ _ kq)) Tryd.underlying48 rfl (by kernel_rfl)) rfl ⟨.inl rfl, below_setRow bq (by omega) _⟩
 have kq := (FIN.out W2 (.slice GA (gBlks (insAt cd) L).length gcap) (.slice PA (gPrev (insAt cd) L).length pcap) hb3).1
 have bq := (FIN.out W2 (.slice GA (gBlks (insAt cd) L).length gcap) (.slice PA (gPrev (insAt cd) L).length pcap) hb3).2
 have bA : Below W2.heap.size W2 (W2.alloc (.cells #[.slice GA (gBlks (insAt cd) L).length gcap, .slice PA (gPrev (insAt cd) L).length pcap] 48)) := (Below.refl _ _).alloc (Nat.le_refl _) _
 have HG2 := Lib.hid (hG.below bA)
 have HP2 := Lib.hid (hP.below bA)
 clear bA
 go_wp2_with (first | (refine wpList_store_row rfl 48 (.tmp 4) (.tmp 20) rfl (w.heap.size + 1) #[.slice GA (gBlks (insAt cd) L).length gcap, .slice PA (gPrev (insAt cd) L).length pcap] rfl rfl 48 _ kq (by kernel_rfl) rfl (by simp [Value.oneCell']) ?_))
 have hw4 : ∀ p, p ≠ w.heap.size + 1 → ((W2.alloc (.cells #[.slice GA (gBlks (insAt cd) L).length gcap, .slice PA (gPrev (insAt cd) L).length pcap] 48)).setRow (w.heap.size + 1) #[.slice GA (gBlks (insAt cd) L).length gcap, .slice PA (gPrev (insAt cd) L).length pcap]).heap[p]? = (W2.alloc (.cells #[.slice GA (gBlks (insAt cd) L).length gcap, .slice PA (gPrev (insAt cd) L).length pcap] 48)).heap[p]? := fun p hp => setRow_other _ _ _ _ hp
 have b4 := below_setRow bq (g := w.heap.size + 1) (by omega) #[.slice GA (gBlks (insAt cd) L).length gcap, .slice PA (gPrev (insAt cd) L).length pcap]
 refine bodyPost_ret (results_cell_tmp (P := Tryd.prog) Tryd.results15 _ _ (w.heap.size + 1) [.slice GA (gBlks (insAt cd) L).length gcap, .slice PA (gPrev (insAt cd) L).length pcap] _ rfl (rangeAt_block (setRow_heap _ _ _ _ _ _ kq)) Tryd.underlying48 rfl (by kernel_rfl)) rfl ⟨.inr ⟨.slice GA (gBlks (insAt cd) L).length gcap, .slice PA (gPrev (insAt cd) L).length pcap, k, gBlks (insAt cd) L, gPrev (insAt cd) L, rfl, rfl, ?_⟩, b4⟩
 have hbe := Chain.bounds hGd.ch en (List.mem_of_getElem? hen)
 have hGI : GInv (insAt cd) en.st en.en D L := hL ▸ GInv.of hbe.1 hbe.2.1 hR
 have hst : en.st ∈ D := by
  rcases hR.s with h | h
  ·exact h
  ·cases h
 have hval := hGI.valid hst
 have hll : L.length ≤ 300 := by rw [← hL]; have := blk_len (insAt cd) en.st D (en.en - en.st).toNat; omega
 have hne := hval.ne
 exact ⟨(HWH.out.belowG b4).words (by omega), hn3, hGd, HG2.out.past kq hw4 (by simp [World.setRow]), HP2.out.past kq hw4 (by simp [World.setRow]) (B := W1.heap.size) (by have := SV.out; omega) hNG.2, hval, List.length_pos_iff.2 hne, by rw [gBlks_len]; omega, gr_ok HWH.out.wd hGd hen hGI hst, ⟨en, D, L, hen, hGI, hst, hL, rfl⟩⟩

end Go.Proofs.YtebklpnkcicpjaaDoor


