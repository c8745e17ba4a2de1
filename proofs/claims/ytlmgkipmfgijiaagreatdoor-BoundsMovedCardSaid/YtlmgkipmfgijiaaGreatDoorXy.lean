/-
  What is proved here: parts lMvP.
-/
import Derived.Test.YtlmgkipmfgijiaaGreatDoorXa
import Derived.Test.YtlmgkipmfgijiaaGreatDoorXs
import Derived.Test.YtlmgkipmfgijiaaGreatDoorXx
namespace Go.Proofs.YtlmgkipmfgijiaaGreatDoor
set_option linter.unusedVariables false
set_option linter.unusedSimpArgs false
set_option maxRecDepth 100000
set_option maxHeartbeats 8000000
section
open Go.RowKit
theorem Gd (k : Int) (G : List aU) (b : Nat) : ((G.map (qy k)).getD b ⟨0, 0, []⟩).nx = (G.getD b ⟨0, 0, []⟩).nx := by
 by_cases hb : b < G.length
 ·simp [List.getD, hb, qy]
 ·simp [List.getD, List.getElem?_eq_none (by omega : G.length ≤ b)]
theorem rR (k : Int) (G : List aU) : cM (G.map (qy k)) = cM G := by
 funext b
 unfold cM
 rw [Gd]
theorem AR (k : Int) (G : List aU) (m : Nat) : jb (G.map (qy k)) m [] = jb G m [] := by
 unfold jb
 simp only [Gd]
theorem tq (k : Int) (G : List aU) (D : List Int) : eO (G.map (qy k)) D ↔ eO G D := by
 unfold eO
 rw [rR, List.length_map]
open Classical in
theorem xz {p q : List Int → Prop} (h : p = q) : (if h : ∃ D, p D then Classical.choose h else []) = (if h : ∃ D, q D then Classical.choose h else []) := by
 subst h
 rfl
theorem F4 (k : Int) (G : List aU) : jk (G.map (qy k)) = jk G := by
 unfold jk
 exact xz (funext fun D => propext (tq k G D))
def Mv (k n : Nat) (cd ce : Nat → Int) : Prop := ∀ a, a < n → ce (k + a) = cd a
theorem Mv.ins {k n : Nat} {cd ce : Nat → Int} (h : Mv k n cd ce) (a : Int) (h0 : 0 ≤ a) (h1 : a < (n : Int)) : au ce (a + (k : Int)) = au cd a := by
 unfold au
 rw [show (a + (k : Int)).toNat = k + a.toNat by omega, h a.toNat ahU]
theorem Mv.code {k n : Nat} {cd ce : Nat → Int} (h : Mv k n cd ce) {lo hi : Int} (h0 : 0 ≤ lo) (h1 : hi ≤ (n : Int)) : codeFrom ce (lo + (k : Int)) (hi + (k : Int) - (lo + (k : Int))).toNat = codeFrom cd lo (hi - lo).toNat := by
 rw [show hi + (k : Int) - (lo + (k : Int)) = hi - lo by omega]
 unfold codeFrom
 refine List.map_congr_left fun i hi' => ?_
 have := List.mem_range.1 hi'
 rw [show lo + (k : Int) + (i : Int) = lo + i + k by omega]
 exact h.ins _ ahU ahU
def Q4 (n : Nat) (G : List aU) : Prop := ∀ x ∈ G, 0 ≤ x.lo ∧ x.hi ≤ (n : Int)
theorem Jo {k n : Nat} {cd ce : Nat → Int} (h : Mv k n cd ce) {G : List aU} (hG : Q4 n G) : aR ce (G.map (qy k)) = aR cd G := by
 unfold aR
 rw [List.map_map]
 refine List.map_congr_left fun x hx => ?_
 show (⟨codeFrom ce (x.lo + (k : Int)) (x.hi + (k : Int) - (x.lo + (k : Int))).toNat, x.nx⟩ : AB) = _
 rw [h.code (hG x hx).1 (hG x hx).2]
theorem IW {k n : Nat} {cd ce : Nat → Int} (h : Mv k n cd ce) {G : List aU} (hG : Q4 n G) : fV ce (G.map (qy k)) = fV cd G := by
 unfold fV
 rw [List.length_map]
 refine List.map_congr_left fun i hi => ?_
 have hi := List.mem_range.1 hi
 unfold cz
 rw [show (G.map (qy k)).getD i ⟨0, 0, []⟩ = qy k G[i] by simp [List.getD, hi], show G.getD i ⟨0, 0, []⟩ = G[i] by simp [List.getD, hi]]
 exact h.code (hG _ (List.getElem_mem hi)).1 (hG _ (List.getElem_mem hi)).2
theorem Gq (k : Int) (G : List aU) (rel : List Bool) (D : List Int) (hd : Nat) (bl : List Int) (ls : List Nat) (m : Nat) : eC (G.map (qy k)) rel D hd bl ls m = eC G rel D hd bl ls m := by
 unfold eC
 rw [List.length_map]
 refine List.map_congr_left fun b _ => ?_
 rw [Bool.eq_iff_iff, lQ, lQ]
 unfold kM
 rw [rR, List.length_map]
theorem IM {k n : Nat} {cd ce : Nat → Int} (h : Mv k n cd ce) {G : List aU} (hG : Q4 n G) (x : Lp) (aO : Int) : cZ ce (G.map (qy k)) x aO = cZ cd G x aO := by
 have h1 : dR ce (G.map (qy k)) = dR cd G := by unfold dR; rw [IW h hG]
 have h2 : rO ce (G.map (qy k)) x = rO cd G x := by
  unfold rO
  rw [Gq, h1, F4, List.length_map]
 unfold cZ
 rw [h2, IW h hG, List.length_map]
theorem KP {k n : Nat} {cd ce : Nat → Int} (h : Mv k n cd ce) {G : List aU} (hG : Q4 n G) (rl : List Bool) (x : Lp) : oY ce (G.map (qy k)) rl x = oY cd G rl x := by
 unfold oY
 rw [show cZ ce (G.map (qy k)) x = cZ cd G x from funext fun r => IM h hG x r]
theorem Cl {k n : Nat} {cd ce : Nat → Int} (h : Mv k n cd ce) {G : List aU} (hG : Q4 n G) (rl : List Bool) : ∀ (L : List Lp) (acc : List Int), jh ce (G.map (qy k)) rl L acc = jh cd G rl L acc
 | [], acc => rfl
 | x :: L, acc => by
  unfold jh
  rw [KP h hG]
  split
  ·exact Cl h hG rl L _
  ·rfl
theorem s9 : ∀ {l l' : List Int}, l.Pairwise (· < ·) → l'.Pairwise (· < ·) → (∀ x, x ∈ l ↔ x ∈ l') → l = l'
 | [], [], _, _, _ => rfl
 | [], b :: l', _, _, h => absurd ((h b).2 ahZ) ahZ
 | a :: l, [], _, _, h => absurd ((h a).1 ahZ) ahZ
 | a :: l, b :: l', h1, h2, h => by
  have a1 := List.pairwise_cons.1 h1
  have b1 := List.pairwise_cons.1 h2
  have hab : a = b := by
   have ha := (h a).1 ahZ
   have hb := (h b).2 ahZ
   rcases List.mem_cons.1 ha with e | e
   ·exact e
   ·rcases List.mem_cons.1 hb with e' | e'
    ·exact e'.symm
    ·have := b1.1 a e
     have := a1.1 b e'
     omega
  subst hab
  rw [s9 a1.2 b1.2 (fun x => ⟨fun hx => ?_, fun hx => ?_⟩)]
  ·rcases List.mem_cons.1 ((h x).1 aiL) with e | e
   ·subst e
    have := a1.1 x hx
    omega
   ·exact e
  ·rcases List.mem_cons.1 ((h x).2 aiL) with e | e
   ·subst e
    have := b1.1 x hx
    omega
   ·exact e
theorem fl.uniq {P : List (List Int)} {ord : List Nat} {pos : Nat → Nat} {es : List (Int × Int)} {D D' : List Int} {L L' : List Lp} (h : fl P ord pos es D L) (h' : fl P ord pos es D' L') : L = L' := by
 have hh : L.map (·.h) = L'.map (·.h) := s9 h.Fq h'.Fq (fun x => (h.mem x).trans (h'.mem x).symm)
 have hl : L.length = L'.length := by simpa using congrArg List.length hh
 refine List.ext_getElem hl fun i h1 h2 => ?_
 have e1 : L[i].h = L'[i].h := by
  have := congrArg (fun l => l[i]?) hh
  simpa [h1, h2] using this
 obtain ⟨a1, a2⟩ := h.each _ (List.getElem_mem h1)
 obtain ⟨b1, b2⟩ := h'.each _ (List.getElem_mem h2)
 have e2 : L[i].la = L'[i].la := by rw [a1, b1, e1]
 have e3 : L[i].bl = L'[i].bl := s9 a2.Fq b2.Fq (fun x => by rw [a2.mem, b2.mem, e1])
 cases hx : L[i]
 cases hy : L'[i]
 rw [hx, hy] at e1 e2 e3
 simp only at e1 e2 e3
 rw [e1, e2, e3]
theorem kN.ref {n : Nat} {cd : Nat → Int} {aC : List gR} {sh lk : Int} {k : Nat} {en : gR} {G : List aU} {P : List (List Int)} (g : kN n cd aC sh lk k en G P) (hn : G.length ≤ 5000) {D : List Int} {L : List Lp} (h : fl P (dK G.length (cM G)) (fO G.length (cM G)) (jb G G.length []) D L) : ∀ x ∈ L, kQ G.length x = true := fun x hx => by
 have hv := g.val
 obtain ⟨gr, -⟩ := qg (List.length_pos_iff.2 hv.ne) (GB.of hv hn).lt
 have h1 := h.hd hv x hx
 obtain ⟨h2, h3⟩ := h.each x hx
 unfold kQ eu
 simp only [Bool.and_eq_true, List.all_eq_true, decide_eq_true_eq]
 refine ⟨⟨fun y hy => ?_, fun y hy => ?_⟩, fun y hy => ?_⟩
 ·obtain rfl : y = x.h := by simpa using hy
  exact h1
 ·obtain ⟨h4, h5⟩ := (h3.mem y).1 hy
  have : y.toNat < G.length := by
   generalize y.toNat = z at h5 ⊢
   cases h5 with
   | hd => omega
   | lt _ hr => exact gr.lt _ hr
   | up _ _ _ hr => exact gr.lt _ hr
  omega
 ·rw [h2] at hy
  obtain ⟨z, hz, rfl⟩ := List.mem_map.1 hy
  unfold gh at hz
  obtain ⟨e, he, rfl⟩ := List.mem_map.1 hz
  obtain ⟨h5, h6⟩ := List.mem_filter.1 he
  have h7 := (of_decide_eq_true h6).1
  have := gr.lt _ h7
  omega
theorem kN.inG {n : Nat} {cd : Nat → Int} {aC : List gR} {sh lk : Int} {k : Nat} {en : gR} {G : List aU} {P : List (List Int)} (g : kN n cd aC sh lk k en G P) : Q4 n G := fun x hx => by
 have := g.Vz x hx
 have := g.range
 omega
section
variable {k n : Nat} {cd ce : Nat → Int} {e : gR} {zz : ByteArray} {sh lk : Int}
def Fi (zz : ByteArray) (k n : Nat) (e : gR) : List gR := [⟨zz, 0, (k : Int), 0⟩, ⟨e.nm, (k : Int), (k : Int) + (n : Int), e.da⟩]
structure Fv (k n : Nat) (cd ce : Nat → Int) (e : gR) (zz : ByteArray) : Prop where
 mv : Mv k n cd ce
 halt : ∀ a, a < k → bk (ce a) = (⟨1, 0, 0, 0, 0⟩, 0)
 nm : 1 ≤ zz.size ∧ zz.size ≤ 12
 k1 : 1 ≤ k
 kn : k + n ≤ 4096
 st : e.st = 0
 en : e.en = (n : Int)
theorem Fv.ok (h : Fv k n cd ce e zz) {a : Nat} (ha : a < n) : qw ce lk (k : Int) ((k : Int) + (n : Int)) ((a : Int) + (k : Int)) ↔ qw cd lk 0 (n : Int) (a : Int) := by
 have h1 := h.mv.ins (a : Int) ahU ahU
 have h2 : ce ((a : Int) + (k : Int)).toNat = cd (a : Int).toNat := by
  rw [show ((a : Int) + (k : Int)).toNat = k + a by omega, h.mv a ha, Int.toNat_natCast]
 constructor
 ·rintro ⟨c1, c2, c3⟩
  rw [h2] at c1
  rw [h1] at c2 c3
  exact ⟨c1, fun hb => by have := c2 hb; omega, c3⟩
 ·rintro ⟨c1, c2, c3⟩
  refine ⟨by rw [h2]; exact c1, fun hb => ?_, fun hb => ?_⟩
  ·rw [h1] at hb ⊢
   have := c2 hb
   omega
  ·rw [h1] at hb ⊢
   exact c3 hb
theorem Fv.good (h : Fv k n cd ce e zz) : ng (k + n) ce (Fi zz k n e) sh lk ↔ ng n cd [e] sh lk := by
 have hst := h.st
 have hen := h.en
 have hk1 := h.k1
 have hkn := h.kn
 constructor
 ·rintro ⟨c1, c2, c3, c4, c5, c6, c7, c8⟩
  obtain ⟨-, -, -, d2, -⟩ := c7
  have d2 : (k : Int) < (k : Int) + (n : Int) := d2
  refine ⟨by omega, by simp, c3, c4, fun x hx => ?_, fun x hx => ?_, ⟨hst, by omega, hen⟩, fun x hx a h1 h2 => ?_⟩
  ·obtain rfl : x = e := by simpa using hx
   exact c5 ⟨x.nm, (k : Int), (k : Int) + (n : Int), x.da⟩ (by simp [Fi])
  ·obtain rfl : x = e := by simpa using hx
   exact c6 ⟨x.nm, (k : Int), (k : Int) + (n : Int), x.da⟩ (by simp [Fi])
  ·obtain rfl : x = e := by simpa using hx
   rw [hst, hen]
   have h3 := c8 ⟨x.nm, (k : Int), (k : Int) + (n : Int), x.da⟩ (by simp [Fi]) (k + a) (by show (k : Int) ≤ _; omega) (by show _ < (k : Int) + (n : Int); omega)
   rw [show ((k + a : Nat) : Int) = (a : Int) + (k : Int) by omega] at h3
   exact (h.ok ahU).1 h3
 ·rintro ⟨c1, c2, c3, c4, c5, c6, c7, c8⟩
  obtain ⟨-, d2, -⟩ := c7
  have hm : ∀ x ∈ Fi zz k n e, x = ⟨zz, 0, (k : Int), 0⟩ ∨ x = ⟨e.nm, (k : Int), (k : Int) + (n : Int), e.da⟩ := fun x hx => by simpa [Fi] using hx
  refine ⟨by omega, by simp [Fi], c3, c4, fun x hx => ?_, fun x hx => ?_, ⟨rfl, by show (0 : Int) < (k : Int); omega, rfl, by show (k : Int) < (k : Int) + (n : Int); omega, by show (k : Int) + (n : Int) = ((k + n : Nat) : Int); omega⟩, fun x hx a h1 h2 => ?_⟩
  ·rcases hm x hx with rfl | rfl
   ·simp
   ·exact c5 e ahZ
  ·rcases hm x hx with rfl | rfl
   ·exact h.nm
   ·exact c6 e ahZ
  ·rcases hm x hx with rfl | rfl
   ·have h2 : (a : Int) < (k : Int) := h2
    have h3 := h.halt a ahU
    have h4 : au ce (a : Int) = ⟨1, 0, 0, 0, 0⟩ := by unfold au; rw [Int.toNat_natCast, h3]
    refine ⟨by rw [Int.toNat_natCast, h3], fun hb => ?_, fun hb => ?_⟩
    ·rw [h4] at hb
     cases hb
    ·rw [h4] at hb
     rcases hb with hb | hb <;> cases hb
   ·have h1 : (k : Int) ≤ (a : Int) := h1
    have h2 : (a : Int) < (k : Int) + (n : Int) := h2
    obtain ⟨b, rfl⟩ : ∃ b : Nat, a = k + b := ⟨a - k, by omega⟩
    have h3 := c8 e ahZ b ahU ahU
    rw [hst, hen] at h3
    show qw ce lk (k : Int) ((k : Int) + (n : Int)) ((k + b : Nat) : Int)
    rw [show ((k + b : Nat) : Int) = (b : Int) + (k : Int) by omega]
    exact (h.ok ahU).2 h3
theorem Fv.grB (h : Fv k n cd ce e zz) {en : gR} {G : List aU} {P : List (List Int)} (g : kN n cd [e] sh lk 0 en G P) : kN (k + n) ce (Fi zz k n e) sh lk 1 ⟨e.nm, (k : Int), (k : Int) + (n : Int), e.da⟩ (G.map (qy k)) P := by
 obtain rfl : en = e := by have := g.he; simpa using this.symm
 have hr := g.range
 have h1 := Out.sh (c' := au ce) (k := (k : Int)) hr.1 hr.2.1 ahU (fun a h1 h2 => h.mv.ins a ahU ahU) g.out
 rw [h.st, h.en] at h1
 refine ⟨rfl, h.good.2 g.gd, ?_⟩
 show Out (au ce) (k : Int) ((k : Int) + (n : Int)) _
 rw [show (0 : Int) + (k : Int) = k by omega, show (n : Int) + (k : Int) = (k : Int) + n by omega] at h1
 exact h1
theorem Fv.back (h : Fv k n cd ce e zz) {en : gR} {G : List aU} {P : List (List Int)} (g : kN (k + n) ce (Fi zz k n e) sh lk 1 en G P) : kN n cd [e] sh lk 0 e (G.map (qy (-(k : Int)))) P := by
 obtain rfl : en = ⟨e.nm, (k : Int), (k : Int) + (n : Int), e.da⟩ := by have := g.he; simpa [Fi] using this.symm
 have hr := g.range
 have hg := h.good.1 g.gd
 have h1 := Out.sh (c' := au cd) (k := -(k : Int)) hr.1 hr.2.1 (by show 0 ≤ (k : Int) + -(k : Int); omega) (fun a h1 h2 => by
  have h1 : (k : Int) ≤ a := h1
  have h2 : a < (k : Int) + (n : Int) := h2
  have := h.mv.ins (a + -(k : Int)) ahU ahU
  rw [show a + -(k : Int) + (k : Int) = a by omega] at this
  exact this.symm) g.out
 refine ⟨rfl, hg, ?_⟩
 rw [h.st, h.en]
 have h2 : Out (au cd) ((k : Int) + -(k : Int)) ((k : Int) + (n : Int) + -(k : Int)) ⟨G.map (qy (-(k : Int))), P, -1, 0⟩ := h1
 rw [show (k : Int) + -(k : Int) = 0 by omega, show (k : Int) + (n : Int) + -(k : Int) = n by omega] at h2
 exact h2
theorem Fv.anz (h : Fv k n cd ce e zz) : uk (k + n) ce (Fi zz k n e) sh lk 1 ↔ uk n cd [e] sh lk 0 := by
 constructor
 ·rintro ⟨k', en, G, P, e1, g, h1⟩
  obtain rfl : k' = 1 := by omega
  refine ⟨0, e, _, P, rfl, h.back g, fun D hD => ?_⟩
  rw [tq] at hD
  rw [rR, AR, List.length_map]
  exact h1 D hD
 ·rintro ⟨k', en, G, P, e1, g, h1⟩
  obtain rfl : k' = 0 := by omega
  refine ⟨1, _, _, P, rfl, h.grB g, fun D hD => ?_⟩
  rw [tq] at hD
  rw [rR, AR, List.length_map]
  exact h1 D hD
theorem Fv.find (h : Fv k n cd ce e zz) {en YH : gR} {G G' : List aU} {P P' : List (List Int)} (g : kN n cd [e] sh lk 0 en G P) (g' : kN (k + n) ce (Fi zz k n e) sh lk 1 YH G' P') {D D' : List Int} {L L' : List Lp} {s s' : AS}
  (hL : fl P (dK G.length (cM G)) (fO G.length (cM G)) (jb G G.length []) D L) (hL' : fl P' (dK G'.length (cM G')) (fO G'.length (cM G')) (jb G' G'.length []) D' L')
  (hE : Ends (aR cd G) (cg G.length) s) (hE' : Ends (aR ce G') (cg G'.length) s') : jh ce G' s'.reach L' [] = jh cd G s.reach L [] := by
 have g1 := h.grB g
 have he := g1.he
 rw [g'.he] at he
 cases he
 obtain ⟨rfl, rfl⟩ := g1.same g'.out
 rw [rR, AR, List.length_map] at hL'
 rw [Jo h.mv g.inG, List.length_map] at hE'
 obtain rfl := hE.LQ hE'
 obtain rfl := hL.uniq hL'
 exact Cl h.mv g.inG _ _ _
end
end
end Go.Proofs.YtlmgkipmfgijiaaGreatDoor
