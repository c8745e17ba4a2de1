/-
  What is proved here: parts dPt, dBl.
-/
import Derived.Test.YtlmgkipmfgijiaaGreatDoorXa
import Derived.Test.YtlmgkipmfgijiaaGreatDoorXp
import Derived.Test.YtlmgkipmfgijiaaGreatDoorXd
namespace Go.Proofs.YtlmgkipmfgijiaaGreatDoor
set_option linter.unusedVariables false
set_option linter.unusedSimpArgs false
set_option maxRecDepth 100000
set_option maxHeartbeats 8000000
section
open Go.RowKit
structure Pt (w w' : World) (S : Nat → Prop) : Prop where
 hk : ∀ q, S q → ∀ o v, w.cell? ⟨q, o, none⟩ = some v → ∃ A n c, v = .slice A n c
 hw : ∀ p, ¬ S p → w'.heap[p]? = w.heap[p]?
 hs : w.heap.size ≤ w'.heap.size
section
variable {w w' : World} {S : Nat → Prop}
theorem Pt.cell (h : Pt w w' S) {b o : Nat} {v : Value} (hc : w.cell? ⟨b, o, none⟩ = some v) (hv : ∀ A n c, v ≠ .slice A n c) : w'.cell? ⟨b, o, none⟩ = some v ∧ ¬ S b := by
 have hne : ¬ S b := fun hs => by
  obtain ⟨A, n, c, e⟩ := h.hk b hs o v hc
  exact hv A n c e
 exact ⟨(World.cell?_of_block (h.hw b hne)).trans hc, hne⟩
theorem Pt.at_ (h : Pt w w' S) {b o : Nat} (hb : ¬ S b) : w'.cell? ⟨b, o, none⟩ = w.cell? ⟨b, o, none⟩ := World.cell?_of_block (h.hw b hb)
theorem Ints.pt (k : Pt w w' S) {v : Value} {l : List Int} (h : Ints w v l) : Ints w' v l := by
 obtain ⟨A, cap, h1, h2, h3, h4⟩ := h
 refine ⟨A, cap, h1, h2, h3, fun h0 => ?_⟩
 obtain ⟨b, off, ha, hlt, hc⟩ := h4 h0
 have hne := (k.cell (hc 0 h0) ahZ).2
 exact ⟨b, off, ha, by have := k.hs; omega, fun i hi => (k.at_ hne).trans (hc i hi)⟩
theorem fL.pt (k : Pt w w' S) {v : Value} {G : List aU} (h : fL w v G) : fL w' v G := by
 obtain ⟨A, cap, h1, h2, h3, h4⟩ := h
 refine ⟨A, cap, h1, h2, h3, fun h0 => ?_⟩
 obtain ⟨b, off, ha, hlt, hc⟩ := h4 h0
 have hne := (k.cell (hc 0 _ (List.getElem?_eq_getElem h0)).1 ahZ).2
 refine ⟨b, off, ha, by have := k.hs; omega, fun i x hx => ?_⟩
 obtain ⟨c0, c1, nv, c2, c3⟩ := hc i x hx
 exact ⟨(k.at_ hne).trans c0, (k.at_ hne).trans c1, nv, (k.at_ hne).trans c2, c3.pt k⟩
theorem mG.pt (k : Pt w w' S) {v : Value} {P : List (List Int)} (h : mG w v P) (hn : ∀ p, v.ownBlock = some p → ¬ S p) : mG w' v P := by
 obtain ⟨A, cap, h1, h2, h3, h4⟩ := h
 refine ⟨A, cap, h1, h2, h3, fun h0 => ?_⟩
 obtain ⟨b, off, ha, hlt, hc⟩ := h4 h0
 have hne : ¬ S b := hn b (by rw [h1, ha]; rfl)
 refine ⟨b, off, ha, by have := k.hs; omega, fun i x hx => ?_⟩
 obtain ⟨nv, c2, c3⟩ := hc i x hx
 exact ⟨nv, (k.at_ hne).trans c2, c3.pt k⟩
theorem tv.pt (k : Pt w w' S) {v : Value} {L : List Lp} (h : tv w v L) : tv w' v L := by
 obtain ⟨A, cap, h1, h2, h3, h4⟩ := h
 refine ⟨A, cap, h1, h2, h3, fun h0 => ?_⟩
 obtain ⟨b, off, ha, hlt, hc⟩ := h4 h0
 have hne := (k.cell (hc 0 _ (List.getElem?_eq_getElem h0)).1 ahZ).2
 refine ⟨b, off, ha, by have := k.hs; omega, fun i x hx => ?_⟩
 obtain ⟨c0, ⟨u, c1, c2⟩, ⟨u', c3, c4⟩, p, c5⟩ := hc i x hx
 exact ⟨(k.at_ hne).trans c0, ⟨u, (k.at_ hne).trans c1, c2.pt k⟩, ⟨u', (k.at_ hne).trans c3, c4.pt k⟩, p, (k.at_ hne).trans c5⟩
theorem tP.pt (k : Pt w w' S) {v : Value} {l : List Bool} (h : tP w v l) : tP w' v l := by
 obtain ⟨A, cap, h1, h2, h3, h4⟩ := h
 refine ⟨A, cap, h1, h2, h3, fun h0 => ?_⟩
 obtain ⟨b, off, ha, hlt, hc⟩ := h4 h0
 have hne := (k.cell (hc 0 h0) ahZ).2
 exact ⟨b, off, ha, by have := k.hs; omega, fun i hi => (k.at_ hne).trans (hc i hi)⟩
end
theorem Bq {cd : Nat → Int} {G : List aU} {b : AB} (h : b ∈ aR cd G) : ∃ x ∈ G, b = ⟨codeFrom cd x.lo (x.hi - x.lo).toNat, x.nx⟩ := by
 unfold aR at h
 obtain ⟨x, hx, e⟩ := List.mem_map.1 h
 exact ⟨x, hx, e.symm⟩
theorem PX {n : Nat} {cd : Nat → Int} {G : List aU} {s : AS} (h0 : 0 < G.length) (hok : ∀ x ∈ G, Ru n cd G x) (hE : Ends (aR cd G) (cg G.length) s) : Fx G.length s := by
 have hl := pO cd G
 have h := Ends.fx (B := aR cd G) (fun b hb => by
  obtain ⟨x, hx, rfl⟩ := Bq hb
  rw [hl]
  exact ⟨(hok x hx).YZ.f, (hok x hx).YZ.nx⟩) hE
 rw [hl] at h
 exact h (Ih h0)
theorem tu.YT {w : World} {rv iv : Value} {rl : List Bool} {il : List RG} (h : tu w rv iv rl il) : tP w rv rl ∧ ∃ A cap, iv = .slice A il.length cap ∧ il.length ≤ cap ∧ cap ≤ maxLen := by
 obtain ⟨h1, A, cap, h2, h3, h4, _⟩ := h
 exact ⟨h1, A, cap, h2, h3, h4⟩
structure kN (n : Nat) (cd : Nat → Int) (aC : List gR) (sh lk : Int) (k : Nat) (en : gR) (G : List aU) (P : List (List Int)) : Prop where
 he : aC[k]? = some en
 gd : ng n cd aC sh lk
 out : Out (au cd) en.st en.en ⟨G, P, -1, 0⟩
section
variable {n : Nat} {cd : Nat → Int} {aC : List gR} {sh lk : Int} {k : Nat} {en : gR} {G : List aU} {P : List (List Int)}
theorem kN.range (h : kN n cd aC sh lk k en G P) : 0 ≤ en.st ∧ en.st < en.en ∧ en.en ≤ (n : Int) := dA.bounds h.gd.ch en (List.mem_of_getElem? h.he)
theorem kN.inv (h : kN n cd aC sh lk k en G P) : ∃ (D : List Int) (L : List (Int × Int)), fQ (au cd) en.st en.en D [] (-1) ∧ L = blk (au cd) en.st D (en.en - en.st).toNat ∧ gm (au cd) en.st en.en D L ∧ en.st ∈ D ∧ G = cU (au cd) L ∧ P = gi (au cd) L := by
 have hr := h.range
 cases h.out with
 | ok D hR =>
  refine ⟨D, _, hR, rfl, gm.of hr.1 hr.2.1 hR, ?_, rfl, rfl⟩
  rcases hR.s with h | h
  ·exact h
  ·cases h
theorem kN.val (h : kN n cd aC sh lk k en G P) : bQ G P := by
 obtain ⟨D, L, hR, hL, hG, hst, rfl, rfl⟩ := h.inv
 exact hG.valid hst
theorem kN.YY (h : kN n cd aC sh lk k en G P) (hn : G.length ≤ 5000) : JT G := by
 have hv := h.val
 obtain ⟨D, L, hR, hL, hG, hst, rfl, rfl⟩ := h.inv
 obtain ⟨gr, -⟩ := qg (List.length_pos_iff.2 hv.ne) (GB.of hv hn).lt
 intro b hb
 have key : ∀ i, GR (cU (au cd) L) i → i ∈ dK (cU (au cd) L).length (cM (cU (au cd) L)) := fun i hi => by
  induction hi with
  | start => exact gr.zero
  | @step b t x _ hx ht ih =>
   refine gr.closed b ih t ?_
   rw [vL hx]
   exact List.mem_map.2 ⟨(t : Int), ht, by simp⟩
 exact key b (gm.reached hL.symm hG hst b hb)
theorem kN.len (h : kN n cd aC sh lk k en G P) : G.length ≤ n := by
 have hr := h.range
 obtain ⟨D, L, hR, hL, hG, hst, rfl, rfl⟩ := h.inv
 rw [fT, hL]
 have := wK (au cd) en.st D (en.en - en.st).toNat
 omega
theorem kN.Vz (h : kN n cd aC sh lk k en G P) : ∀ x ∈ G, en.st ≤ x.lo ∧ x.lo < x.hi ∧ x.hi ≤ en.en := by
 have hv := h.val
 obtain ⟨D, L, hR, hL, hG, hst, rfl, rfl⟩ := h.inv
 intro x hx
 obtain ⟨z, hz⟩ := hv.ok
 obtain ⟨e, he⟩ := hz.each x hx
 unfold cU at hx
 obtain ⟨j, hj, nO⟩ := List.mem_map.1 hx
 have hj := List.mem_range.1 hj
 have hLj : L.getD j (0, 0) ∈ L := by
  rw [List.getD_eq_getElem?_getD, List.getElem?_eq_getElem hj]
  exact List.getElem_mem hj
 have hlo := hG.b.lo _ hLj
 have e1 : x.lo = (L.getD j (0, 0)).1 := by rw [← nO]
 have e2 : x.hi = (L.getD j (0, 0)).2 := by rw [← nO]
 exact ⟨by omega, by omega, by omega⟩
theorem kN.II (h : kN n cd aC sh lk k en G P) : fD n cd G := by
 intro x hx a h1 h2
 have hi := h.Vz x hx
 have hr := h.range
 refine ⟨by omega, ?_⟩
 have := (h.gd.ins en (List.mem_of_getElem? h.he) a ahU ahU).dec
 rwa [Int.toNat_natCast] at this
theorem kN.nx2 (h : kN n cd aC sh lk k en G P) : ∀ x ∈ G, x.nx.length ≤ 2 := by
 obtain ⟨z, hz⟩ := h.val.ok
 intro x hx
 obtain ⟨e, he⟩ := hz.each x hx
 exact he.two
theorem kN.gok (h : kN n cd aC sh lk k en G P) (hwd : ∀ i, i < n → 0 ≤ cd i ∧ cd i < 4294967296) : ∀ x ∈ G, Ru n cd G x := by
 intro x hx
 have hi := h.Vz x hx
 have hr := h.range
 obtain ⟨z, hz⟩ := h.val.ok
 obtain ⟨e, he⟩ := hz.each x hx
 have h2 := he.two
 refine ⟨by omega, by omega, by omega, he.nx, fun a h3 h4 => ?_⟩
 have hc := h.II x hx a h3 h4
 refine ⟨hc.1, hc.2, ?_⟩
 obtain ⟨q, hq, _⟩ := iG (hwd a hc.1).1 hc.2
 have h5 := hq.op
 unfold au
 rw [Int.toNat_natCast]
 omega
theorem kN.same {P' : List (List Int)} {G' : List aU} (h : kN n cd aC sh lk k en G P) (h' : Out (au cd) en.st en.en ⟨G', P', -1, 0⟩) : G' = G ∧ P' = P := by
 have hr := h.range
 have e := Out.same hr.1 hr.2.1 (fun _ _ _ => rfl) h' h.out
 cases e
 exact ⟨rfl, rfl⟩
end
end
section
open Go.RowKit
def Ui (n : Nat) (cd : Nat → Int) (aC : List gR) (sh lk task : Int) : Prop := ∃ (k : Nat) (en : gR) (G : List aU) (P : List (List Int)), task = (k : Int) ∧ kN n cd aC sh lk k en G P
def aai (w : World) (B : Nat) (n : Nat) (cd : Nat → Int) (aC : List gR) (sh lk task : Int) (e : Ending) : Prop := ∃ (k : Nat) (en : gR) (G : List aU) (P : List (List Int)) (A A' : Option Addr) (c c' : Nat), task = (k : Int) ∧ kN n cd aC sh lk k en G P ∧ e = .returned (.tuple #[.agg #[.slice A G.length c, .slice A' P.length c'], .int .i64 (-1), .int .i64 0]) ∧ fL w (.slice A G.length c) G ∧ mG w (.slice A' P.length c') P ∧ P8 B (.slice A G.length c) (.slice A' P.length c')
def aaj (e : Ending) : Prop := ∃ at_ er : Int, er ≠ 0 ∧ e = .returned (.tuple #[.agg #[.slice none 0 0, .slice none 0 0], .int .i64 at_, .int .i64 er])
theorem Be (cv ev : Value) (sh lk : Int) (n : Nat) (cd : Nat → Int) (aC : List gR) (task : Int) (w : World) (T : gZ w) (HW : Words w cv n cd) (HE : nM w ev aC) :
  Calls Tryz.prog 12 #[.agg #[cv, ev, .int .i64 sh, .int .i64 lk], .int .i64 task] w fun e w' => ((Ui n cd aC sh lk task ∧ aai w' w.heap.size n cd aC sh lk task e) ∨ (¬ Ui n cd aC sh lk task ∧ aaj e)) ∧ Below w.heap.size w w' := by
 refine (ES cv ev sh lk n cd aC task w T HW HE).mono ?_
 intro e w' h
 rcases h with ⟨hng, rfl, hb1⟩ | ⟨VW, hrg, rfl, hb1⟩ | ⟨VW, k, en, D, bad, hk, hen, hbd, hR, rfl, hb1⟩ | ⟨VW, k, en, D, L, bv, pv, rfl, hen, hR, hL, rfl, hG, hP, hb1, VT⟩
 ·exact ⟨.inr ⟨fun ⟨_, _, _, _, _, g⟩ => hng g.gd, _, _, by decide, rfl⟩, hb1⟩
 ·refine ⟨.inr ⟨fun ⟨k, _, _, _, e1, g⟩ => ?_, _, _, by decide, rfl⟩, hb1⟩
  have := (List.getElem?_eq_some_iff.1 g.he).1
  omega
 ·refine ⟨.inr ⟨fun ⟨k', YH, G, P, e1, g⟩ => ?_, _, _, by decide, rfl⟩, hb1⟩
  obtain rfl : k = k' := by omega
  have h1 := g.he
  rw [hen] at h1
  cases h1
  have hr := g.range
  have e := Out.same hr.1 hr.2.1 (fun _ _ _ => rfl) (Out.bad D bad hbd hR) g.out
  cases e
 ·have hbe := dA.bounds VW.ch en (List.mem_of_getElem? hen)
  subst hL
  have g : kN n cd aC sh lk k en (cU (au cd) (blk (au cd) en.st D (en.en - en.st).toNat)) (gi (au cd) (blk (au cd) en.st D (en.en - en.st).toNat)) := ⟨hen, VW, .ok D hR⟩
  obtain ⟨GA, aY, rfl, -, -⟩ := hG.slice
  obtain ⟨PA, aX, rfl, -, -⟩ := hP.slice
  exact ⟨.inl ⟨⟨k, en, _, _, rfl, g⟩, ⟨k, en, _, _, GA, PA, aY, aX, rfl, g, rfl, hG, hP, VT⟩⟩, hb1⟩
end
end Go.Proofs.YtlmgkipmfgijiaaGreatDoor
