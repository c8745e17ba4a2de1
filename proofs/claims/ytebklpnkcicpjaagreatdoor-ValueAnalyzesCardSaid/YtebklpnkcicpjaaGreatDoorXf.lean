/-
  What is proved here: parts bCd.
-/
import Derived.Test.YtebklpnkcicpjaaGreatDoorXa
import Derived.Test.YtebklpnkcicpjaaGreatDoorXd
import Derived.Test.YtebklpnkcicpjaaGreatDoorXe
import Derived.Test.YtebklpnkcicpjaaGreatDoorXb
import Derived.ChangeSame
import Derived.ChangeVars
import Derived.JoinedOf
import Derived.RowKit
import Derived.Deep.Strs
namespace Go.Proofs.YtebklpnkcicpjaaGreatDoor
set_option linter.unusedVariables false
set_option linter.unusedSimpArgs false
set_option maxRecDepth 100000
set_option maxHeartbeats 8000000
section
open Go.RowKit
open Go.RowKit
open Go.RowKit
open Go.ChangeShapes Go.WideShapes Go.ChangeAt Go.RowKit
open Go.ChangeShapes Go.WideShapes Go.ChangeAt Go.RowKit
open Go.RowKit
open Go.RowKit
open Go.RowKit
open Go.ChangeShapes Go.WideShapes Go.ChangeAt Go.RowKit
open Go.RowKit
open Go.RowKit
open Go.RowKit
open Go.RowKit
open Go.RowKit
open Go.RowKit
open Go.RowKit
structure Nu (n : Nat) (e : Int) (x : dL) : Prop where
 lo : e ≤ x.lo
 hi : x.lo < x.hi
 two : x.nx.length ≤ 2
 nx : ∀ t ∈ x.nx, 0 ≤ t ∧ t < n
 ne : ¬ (x.nx.length = 2 ∧ x.nx.getD 0 0 = x.nx.getD 1 0)
def nU (n : Nat) : Int → List dL → Int → Prop
 | a, [], z => a = z
 | a, x :: xs, z => Nu n a x ∧ nU n x.hi xs z
theorem nU.append {n : Nat} {l2 : List dL} : ∀ {l1 : List dL} {a z : Int}, nU n a (l1 ++ l2) z ↔ ∃ m, nU n a l1 m ∧ nU n m l2 z
 | [], a, z => ⟨fun h => ⟨a, rfl, h⟩, fun ⟨m, h1, h2⟩ => by cases h1; exact h2⟩
 | e :: l1, a, z => by
  constructor
  ·rintro ⟨h1, h3⟩
   obtain ⟨m, h4, h5⟩ := nU.append.1 h3
   exact ⟨m, ⟨h1, h4⟩, h5⟩
  ·rintro ⟨m, ⟨h1, h3⟩, h4⟩
   exact ⟨h1, nU.append.2 ⟨m, h3, h4⟩⟩
theorem nU.Kn {n : Nat} : ∀ {l : List dL} {a z z' : Int}, nU n a l z → nU n a l z' → z = z'
 | [], a, z, z', h, h' => by cases h; exact h'
 | e :: l, a, z, z', h, h' => nU.Kn h.2 h'.2
theorem nU.snoc {n : Nat} {l : List dL} {x : dL} {a m : Int} (h : nU n a l m) (h1 : Nu n m x) : nU n a (l ++ [x]) x.hi := nU.append.2 ⟨m, h, h1, rfl⟩
theorem nU.no {n : Nat} {G : List dL} {k : Nat} {x : dL} {m : Int} (hx : G[k]? = some x) (h : nU n 0 (G.take k) m) (hno : ¬ Nu n m x) : ∀ z, ¬ nU n 0 G z := by
 intro z hz
 have hk : k < G.length := (List.getElem?_eq_some_iff.1 hx).1
 have e1 : G = G.take k ++ (x :: G.drop (k + 1)) := by
  have := List.take_append_drop k G
  rw [List.drop_eq_getElem_cons hk] at this
  have e2 : G[k] = x := by rw [List.getElem?_eq_getElem hk] at hx; exact Option.some.inj hx
  rw [e2] at this
  exact this.symm
 rw [e1] at hz
 obtain ⟨m', h1, h2⟩ := nU.append.1 hz
 have := nU.Kn h h1
 subst this
 exact hno h2.1
structure pP (G : List dL) (P : List (List Int)) : Prop where
 ne : G ≠ []
 len : P.length = G.length
 ok : ∃ z, nU G.length 0 G z
 prev : (List.range G.length).map (gA G G.length []) = P
theorem gh.slice {w : World} {v : Value} {G : List dL} (h : gh w v G) : ∃ A cap, v = .slice A G.length cap ∧ G.length ≤ cap ∧ cap ≤ 2 ^ 63 - 1 := by
 obtain ⟨A, cap, h1, h2, h3, _⟩ := h
 unfold maxLen at h3
 exact ⟨A, cap, h1, h2, h3⟩
theorem gh.at_ {w wr : World} {A : Option Addr} {cap : Nat} {G : List dL} (h : gh w (.slice A G.length cap) G) (hb : Below w.heap.size w wr) {j : Nat} (hj : j < G.length) :
  ∃ x nv b off, G[j]? = some x ∧ A = some ⟨b, off, none⟩ ∧ b < w.heap.size ∧ wr.cell? ⟨b, off + j * 3, none⟩ = some (.int .i64 x.lo) ∧ wr.cell? ⟨b, off + j * 3 + 1, none⟩ = some (.int .i64 x.hi) ∧ wr.cell? ⟨b, off + j * 3 + 2, none⟩ = some nv ∧ Ints w nv x.nx := by
 obtain ⟨A', cap', hv, _, _, h4⟩ := h
 cases hv
 obtain ⟨b, off, rfl, hlt, hc⟩ := h4 abo
 obtain ⟨c0, c1, nv, c2, c3⟩ := hc j _ (List.getElem?_eq_getElem hj)
 exact ⟨G[j], nv, b, off, List.getElem?_eq_getElem hj, rfl, hlt, (hb.cell (p := ⟨b, _, none⟩) hlt).trans c0, (hb.cell (p := ⟨b, _, none⟩) hlt).trans c1, (hb.cell (p := ⟨b, _, none⟩) hlt).trans c2, c3⟩
theorem Ints.slice {w : World} {v : Value} {l : List Int} (h : Ints w v l) : ∃ A cap, v = .slice A l.length cap ∧ l.length ≤ cap ∧ cap ≤ 2 ^ 63 - 1 := by
 obtain ⟨A, cap, h1, h2, h3, _⟩ := h
 unfold maxLen at h3
 exact ⟨A, cap, h1, h2, h3⟩
theorem Ints.at_ {w wr : World} {A : Option Addr} {cap : Nat} {l : List Int} (h : Ints w (.slice A l.length cap) l) (hb : Below w.heap.size w wr) {j : Nat} (hj : j < l.length) :
  ∃ s b off, l[j]? = some s ∧ A = some ⟨b, off, none⟩ ∧ b < w.heap.size ∧ wr.cell? ⟨b, off + j, none⟩ = some (.int .i64 s) := by
 obtain ⟨A', cap', hv, _, _, h4⟩ := h
 cases hv
 obtain ⟨b, off, rfl, hlt, hc⟩ := h4 abo
 refine ⟨l[j], b, off, List.getElem?_eq_getElem hj, rfl, hlt, ?_⟩
 rw [hb.cell (p := ⟨b, _, none⟩) hlt, hc j hj]
 simp [List.getD, List.getElem?_eq_getElem hj]
theorem Bb {w : World} {q B s n : Nat} {cs : Array Value} {t e : TypeId} {fr : Nat × Nat} {v : Value} {xs : List Value} (hq : w.heap[q]? = some (.cells cs t fr)) (h : w.ownsRow B e s v n xs) (hne : t ≠ e) : some q ≠ v.ownBlock := by
 intro e1
 rcases h.2 with ⟨rfl, _⟩ | ⟨g, cap, cur, rfl, _, hg, _⟩
 ·cases e1
 ·simp [Value.ownBlock] at e1
  subst e1
  rw [hq] at hg
  cases hg
  exact hne rfl
theorem yY (bv pv : Value) (G : List dL) (P : List (List Int)) (w : World) (HG : gh w bv G) (HP : tY w pv P) (hn : G.length ≤ 5000) (gQ : ∀ x ∈ G, x.nx.length ≤ 5000) :
  Calls Tryz.prog 23 #[.agg #[bv, pv]] w fun e w' => (∃ r : Bool, e = .returned (.bool r) ∧ (r = true ↔ pP G P)) ∧ Below w.heap.size w w' := by
 obtain ⟨A, cap, rfl, hc1, hc2⟩ := HG.slice
 obtain ⟨PA, dV, rfl, hp1, hp2⟩ := HP.slice
 have Ox := acD HG
 have Z4 := acD HP
 have yI := acD gQ
 clear HG HP gQ
 obtain ⟨V0, gZ⟩ : ∃ V0, w.alloc (.cells #[.slice A G.length cap, .slice PA P.length dV] 30) = V0 := ⟨_, rfl⟩
 have b0 : Below w.heap.size w V0 := gZ ▸ (Below.refl _ _).alloc (Nat.le_refl _) _
 have s0 : w.heap.size < V0.heap.size := by rw [← gZ]; simp
 have k0 : V0.heap[w.heap.size]? = some (.cells #[.slice A G.length cap, .slice PA P.length dV] 30) := by rw [← gZ]; exact heap_alloc_new _ _
 have y0 : V0.cell? ⟨w.heap.size, 0, none⟩ = some (.slice A G.length cap) := by simp [World.cell?, k0]
 have y1 : V0.cell? ⟨w.heap.size, 1, none⟩ = some (.slice PA P.length dV) := by simp [World.cell?, k0]
 have K0 := acD k0
 have B0 := acD b0
 clear k0 b0
 go_enter Tryz.func23, Tryz.ntmps23
 by_cases q1 : G.length = 0
 ·have d1 : ((G.length : Int) == 0) = true := by simp [q1]
  have HQ := acD q1
  clear q1
  go_wp2_with fail
  go_ret
  exact ⟨⟨false, rfl, by simp; intro h; exact h.ne (List.length_eq_zero_iff.1 HQ.out)⟩, B0.out⟩
 have d1 : ((G.length : Int) == 0) = false := beq_eq_false_iff_ne.2 abo
 by_cases q2 : P.length = G.length
 case neg =>
  have d2 : ((P.length : Int) != (G.length : Int)) = true := by simp; omega
  have HQ := acD q2
  clear q2
  go_wp2_with fail
  go_ret
  exact ⟨⟨false, rfl, by simp; intro h; exact HQ.out h.len⟩, B0.out⟩
 have d2 : ((P.length : Int) != (G.length : Int)) = false := by simp; omega
 have Z0 := acD q1
 have ZZ := acD q2
 have hn0 : 0 < G.length := by omega
 clear q1 q2
 obtain ⟨i2, hi2, hs0, hs1, hs2⟩ := info_parts Ls
 obtain ⟨U1, lm, vC, gr1⟩ := run_make_full (P := Tryz.prog) V0 V0.heap.size 28 34 i2 (.slice none 0 0) 1 Tryz.underlying28 hi2 hs0 hs1 .i64 .i64 G.length (by rw [hs2]; omega) abv (Nat.le_refl _)
 rw [Nat.mul_one, show (Value.slice none 0 0).cells = #[Value.slice none 0 0] from rfl, toList_madeCells_one] at vC
 have QK := acD (PM.made gr1 (Below.refl _ _) vC)
 have u0 : U1.cell? ⟨w.heap.size, 0, none⟩ = some (.slice A G.length cap) := by rw [QK.out.aF.cell (p := ⟨w.heap.size, 0, none⟩) s0]; exact y0
 clear vC gr1
 go_upto_region 6 with fail
 obtain ⟨pg, Pj⟩ : ∃ pg, V0.heap.size = pg := ⟨_, rfl⟩
 rw [Pj] at QK ⊢
 clear gZ lm u0 d1 d2 Pj
 rw [← zE G] at QK
 go_loopw [4, 5, 6, 8, 29] (fun a4 a5 a6 a8 a29 wr => ∃ (k : Nat) (e : Int) (val : Nat → Value), k ≤ G.length ∧ a29 = .int .i64 (k : Int) ∧ a4 = .int .i64 e ∧ nU G.length 0 (G.take k) e ∧ PM V0 wr pg G.length val (gA G k [])) (fun _ _ _ _ a29 _ => G.length - (intOf a29).toNat)
 case atStart => exact ⟨0, 0, _, Nat.zero_le _, rfl, rfl, rfl, QK.out⟩
 case round =>
  obtain ⟨k, e, val, hk, rfl, rfl, hok, Hl⟩ := hrel
  clear QK
  have qp := acD hok
  have HM := acD Hl
  have BW := acD (B0.out.trans (Hl.aF.mono abo))
  have sB := Hl.aF.size
  clear hok Hl
  by_cases hlt : k < G.length
  ·obtain ⟨x, nv, b, off, hx, rfl, hbl, c0, c1, c2, hI⟩ := Ox.out.at_ BW.out hlt
   obtain ⟨NA, cT, rfl, hn1, hn2⟩ := hI.slice
   have HI := acD hI
   have HX := acD hx
   have ZN := acD (List.mem_of_getElem? hx)
   have hxl := yI.out x ZN.out
   have ue := acD (show ¬ Nu G.length e x → ∀ z, ¬ nU G.length 0 G z from fun h => nU.no hx qp.out h)
   have dl : decide ((k : Int) < (G.length : Int)) = true := by simpa using hlt
   clear hx hI
   by_cases q3 : e ≤ x.lo
   case neg =>
    have d3 : decide (x.lo < e) = true := by simp; omega
    have HQ := acD (ue.out (fun h => q3 h.lo))
    clear q3
    go_wp2_with fail
    go_ret
    exact ⟨⟨false, rfl, by simp; intro h; obtain ⟨z, hz⟩ := h.ok; exact HQ.out z hz⟩, BW.out.alloc abo _⟩
   have d3 : decide (x.lo < e) = false := by simp; omega
   by_cases q4 : x.lo < x.hi
   case neg =>
    have d4 : decide (x.hi ≤ x.lo) = true := by simp; omega
    have HQ := acD (ue.out (fun h => q4 h.hi))
    clear q4 q3
    go_wp2_with fail
    go_ret
    exact ⟨⟨false, rfl, by simp; intro h; obtain ⟨z, hz⟩ := h.ok; exact HQ.out z hz⟩, BW.out.alloc abo _⟩
   have d4 : decide (x.hi ≤ x.lo) = false := by simp; omega
   by_cases q5 : x.nx.length ≤ 2
   case neg =>
    have d5 : decide ((2 : Int) < (x.nx.length : Int)) = true := by simp; omega
    have HQ := acD (ue.out (fun h => q5 h.two))
    clear q5 q4 q3
    go_wp2_with fail
    go_ret
    exact ⟨⟨false, rfl, by simp; intro h; obtain ⟨z, hz⟩ := h.ok; exact HQ.out z hz⟩, BW.out.alloc abo _⟩
   have d5 : decide ((2 : Int) < (x.nx.length : Int)) = false := by simp; omega
   go_upto_region 12 with fail
   obtain ⟨X, hX⟩ : ∃ X, wr.alloc (.cells #[.int .i64 x.lo, .int .i64 x.hi, .slice NA x.nx.length cT] 36) = X := ⟨_, rfl⟩
   have kX : X.heap[wr.heap.size]? = some (.cells #[.int .i64 x.lo, .int .i64 x.hi, .slice NA x.nx.length cT] 36) := hX ▸ heap_alloc_new _ _
   have XD := acD (hX ▸ HM.out.below ((Below.refl _ _).alloc (Nat.le_refl _) _))
   have sX : wr.heap.size < X.heap.size := by rw [← hX]; simp
   rw [hX]
   obtain ⟨q, hq⟩ : ∃ q, wr.heap.size = q := ⟨_, rfl⟩
   rw [hq] at kX sX ⊢
   have KX := acD kX
   have uZ := acD (And.intro q3 (And.intro q4 q5))
   clear kX hX c0 c1 c2 d3 d4 d5 dl q3 q4 HM BW hq
   obtain ⟨iI, Ob, Og, Kf, Ke⟩ := info_parts GX
   obtain ⟨wo, rfl⟩ : ∃ wo : World, wo = wr := ⟨_, rfl⟩
   go_loopw [8, 56] (fun a8 a56 wr => ∃ (j : Nat) (val : Nat → Value), j ≤ x.nx.length ∧ a56 = .int .i64 (j : Int) ∧ (∀ t ∈ x.nx.take j, 0 ≤ t ∧ t < (G.length : Int)) ∧ wr.heap[q]? = some (.cells #[.int .i64 x.lo, .int .i64 x.hi, .slice NA x.nx.length cT] 36) ∧ PM V0 wr pg G.length val (gA G k (x.nx.take j))) (fun _ a56 _ => x.nx.length - (intOf a56).toNat)
   case atStart => exact ⟨0, val, Nat.zero_le _, rfl, by simp, KX.out, XD.out⟩
   case round =>
    clear XD KX val
    obtain ⟨j, val, hj, rfl, hin, Od, Hl⟩ := hrel
    have tI := acD hin
    have yN := acD Od
    have HM := acD Hl
    have BW := acD (B0.out.trans (Hl.aF.mono abo))
    have Yt := Hl.aF.size
    have hrg := Hl.rg
    have z0 : wr.cell? ⟨w.heap.size, 0, none⟩ = some (.slice (some ⟨b, off, none⟩) G.length cap) := by rw [Hl.aF.cell (p := ⟨w.heap.size, 0, none⟩) s0]; exact y0
    have v2 : wr.cell? ⟨q, 2, none⟩ = some (.slice NA x.nx.length cT) := by simp [World.cell?, Od]
    clear hin Od Hl
    by_cases hjl : j < x.nx.length
    ·obtain ⟨s, nb, fT, hs, rfl, hnb, x1⟩ := HI.out.at_ BW.out hjl
     have HS := acD (cq hs)
     have Sr := acD (List.mem_of_getElem? hs)
     have dl : decide ((j : Int) < (x.nx.length : Int)) = true := by simpa using hjl
     clear hs
     by_cases q6 : 0 ≤ s
     case neg =>
      have d6 : decide (s < 0) = true := decide_eq_true abo
      have HQ := acD (ue.out (fun h => q6 (h.nx s Sr.out).1))
      clear q6
      go_wp2_with fail
      go_ret
      exact ⟨⟨false, rfl, by simp; intro h; obtain ⟨z, hz⟩ := h.ok; exact HQ.out z hz⟩, BW.out⟩
     have d6 : decide (s < 0) = false := decide_eq_false abo
     by_cases q7 : s < (G.length : Int)
     case neg =>
      have d7 : decide ((G.length : Int) ≤ s) = true := decide_eq_true abo
      have HQ := acD (ue.out (fun h => q7 (h.nx s Sr.out).2))
      clear q7 q6
      go_wp2_with fail
      go_ret
      exact ⟨⟨false, rfl, by simp; intro h; obtain ⟨z, hz⟩ := h.ok; exact HQ.out z hz⟩, BW.out⟩
     have d7 : decide ((G.length : Int) ≤ s) = false := decide_eq_false abo
     obtain ⟨p, rfl⟩ : ∃ p : Nat, s = (p : Int) := ⟨s.toNat, by omega⟩
     have hp : p < G.length := by omega
     obtain ⟨t1, t2⟩ := HM.out.cells hp
     have hop := HM.out.own p hp
     obtain ⟨pl, hpl⟩ : ∃ pl, gA G k (x.nx.take j) p = pl := ⟨_, rfl⟩
     have TB : pl.length ≤ 30000000 := by
      rw [← hpl]
      have := C9 G yI.out k abo (x.nx.take j) p
      have h2 : (x.nx.take j).length ≤ 2 := by simp; omega
      omega
     rw [hpl] at hop
     obtain ⟨pA, uD, hvp⟩ : ∃ pA uD, val p = .slice pA pl.length uD := by
      rcases hop.2 with ⟨h, h'⟩ | ⟨g, cap', cur, h, _⟩
      ·exact ⟨_, _, by rw [h, h']⟩
      ·exact ⟨_, _, h⟩
     have LX := acD hvp
     have Jg := acD hpl
     have Ou := acD (show some pg ≠ Value.ownBlock (.slice pA pl.length uD) from fun e' => by
      rw [← hvp] at e'
      exact fB hop HM.out.cP abr pg e'.symm rfl)
     have XC := acD (show some q ≠ Value.ownBlock (.slice pA pl.length uD) from fun e' => Bb yN.out hop abr (by rw [hvp]; exact e'))
     have YQ : q ≠ pg := fun e' => Bb yN.out HM.out.cP abr (by rw [e']; rfl)
     rw [hvp] at hop t1
     have nH := acD hop
     have hq3 : q < wr.heap.size := (Array.getElem?_eq_some_iff.1 yN.out).1
     have TC := hrg.2
     clear hop hvp hpl q6 q7
     go_upto_region 17 with (at_builtin; refine wpList_append_own_at _ rfl (.tmp 74) (.tmp 76) 34 rfl V0.heap.size 3 iI (.int .i64 0) 1 8 Tryz.underlying34 Ob Og Kf Ke rfl abr (.slice pA pl.length uD) _ _ rfl (nH.out.alloc _) ⟨wr.heap.size, 0, none⟩ 1 1 [.int .i64 (k : Int)] rfl rfl (cell_one_new _ _ _) abt abv abo abD ?_; intro v' W' hown' hgrow _ qC; obtain ⟨g', cap', rfl⟩ := ownsRow_succ hown'; have hc1 := hgrow.cell (a := ⟨pg, p, none⟩) (v := .slice pA pl.length uD) abF Ou.out; have hf1 : W'.frozen? ⟨pg, p, none⟩ = false := (World.frozen?_of_block (hgrow.block pg abA Ou.out)).trans abF)
     have hB := HM.out.app (y := (k : Int)) hp ((Below.refl wr.heap.size wr).alloc (Nat.le_refl _) (.cells #[.int .i64 (k : Int)] 3)) (by rw [LX.out]; exact hgrow) (by rw [Jg.out]; simpa [rT] using hown') (by rw [LX.out]; exact qC)
     rw [Jg.out] at hB
     have WJ : (W'.setCell ⟨pg, p, none⟩ (.slice (some ⟨g', 0, none⟩) (pl.length + 1) cap')).heap[q]? = some (.cells #[.int .i64 x.lo, .int .i64 x.hi, .slice (some ⟨nb, fT, none⟩) x.nx.length cT] 36) := by
      rw [Below.heap_setCell _ _ _ _ YQ, hgrow.block q abD XC.out, heap_alloc_old _ _ hq3]
      exact yN.out
     have HB := acD hB
     have Ra := acD WJ
     clear hB WJ hc1 hf1 qC hgrow hown' t1 t2 nH Ou XC
     go_wp2_with fail
     go_roundw
     case rel =>
      refine ⟨j + 1, upd val p (.slice (some ⟨g', 0, none⟩) (pl.length + 1) cap'), by omega, by go_num, fun t ht => ?_, Ra.out, ?_⟩
      ·rw [HS.out] at ht
       rcases List.mem_append.1 ht with h | h
       ·exact tI.out t h
       ·simp at h; omega
      ·rw [HS.out, Da, Jg.out]
       exact HB.out
     case measure => simp [intOf]; omega
    ·obtain rfl : j = x.nx.length := by omega
     have dl : decide ((x.nx.length : Int) < (x.nx.length : Int)) = false := by simp
     rw [List.take_length] at tI HM
     have hq3 : q < wr.heap.size := (Array.getElem?_eq_some_iff.1 yN.out).1
     by_cases q8 : x.nx.length = 2
     ·obtain ⟨Ro, nb, fT, hs, rfl, hnb, x1⟩ := HI.out.at_ BW.out (j := 0) abo
      obtain ⟨s1', nb', VC, hs', hA, YT, x2⟩ := HI.out.at_ BW.out (j := 1) abo
      cases hA
      have hBs := BW.out.size
      have hnw : nb < wr.heap.size := by omega
      have d8 : ((x.nx.length : Int) == 2) = true := by simp; omega
      have e0 : x.nx.getD 0 0 = Ro := by simp [List.getD, hs]
      have e1 : x.nx.getD 1 0 = s1' := by simp [List.getD, hs']
      have i0 : (0 : Int) < (x.nx.length : Int) := by omega
      have i1 : (1 : Int) < (x.nx.length : Int) := by omega
      rw [Nat.add_zero] at x1
      by_cases q9 : Ro = s1'
      ·have d9 : (Ro == s1') = true := by simp [q9]
       have HQ := acD (ue.out (fun h => h.ne ⟨q8, by rw [e0, e1, q9]⟩))
       clear q9 e0 e1 q8 hs hs' q5
       go_upto_region 18 with fail
       refine az abp abp ?_
       repeat (go_big_quiet_step (fail))
       refine wpQuiet_nil ?_
       rintro _ ⟨y, rfl⟩
       go_wp2_with fail
       go_ret
       exact ⟨⟨false, rfl, by simp; intro h; obtain ⟨z, hz⟩ := h.ok; exact HQ.out z hz⟩, Ext.below BW.out BW.out.size y⟩
      ·have d9 : (Ro == s1') = false := by simp [q9]
       have NI := acD (show Nu G.length e x from ⟨uZ.out.1, uZ.out.2.1, uZ.out.2.2, tI.out, fun h => q9 (by rw [← e0, ← e1]; exact h.2)⟩)
       clear q9 e0 e1 q8 hs hs' q5
       go_upto_region 18 with fail
       refine az abp abp ?_
       repeat (go_big_quiet_step (fail))
       refine wpQuiet_nil ?_
       rintro _ ⟨y, rfl⟩
       go_wp2_with fail
       go_roundw
       case rel => exact ⟨k + 1, x.hi, val, by omega, by go_num, rfl, by rw [cq HX.out]; exact qp.out.snoc NI.out, by rw [← rH G k x HX.out]; exact HM.out.below y.h⟩
       case measure => simp [intOf]; omega
     ·have d8 : ((x.nx.length : Int) == 2) = false := beq_eq_false_iff_ne.2 abo
      have NI := acD (show Nu G.length e x from ⟨uZ.out.1, uZ.out.2.1, uZ.out.2.2, tI.out, fun h => q8 h.1⟩)
      clear q8 q5
      go_upto_region 18 with fail
      refine az abp abp ?_
      repeat (go_big_quiet_step (fail))
      refine wpQuiet_nil ?_
      rintro _ ⟨y, rfl⟩
      go_wp2_with fail
      go_roundw
      case rel => exact ⟨k + 1, x.hi, val, by omega, by go_num, rfl, by rw [cq HX.out]; exact qp.out.snoc NI.out, by rw [← rH G k x HX.out]; exact HM.out.below y.h⟩
      case measure => simp [intOf]; omega
  ·obtain rfl : k = G.length := by omega
   have dl : decide ((G.length : Int) < (G.length : Int)) = false := by simp
   rw [List.take_length] at qp
   have z1 : wr.cell? ⟨w.heap.size, 1, none⟩ = some (.slice PA P.length dV) := by rw [HM.out.aF.cell (p := ⟨w.heap.size, 1, none⟩) s0]; exact y1
   have HEF := acD (tT _ _ _ P wr HM.out.lls (Z4.out.below BW.out))
   go_wp2_with (go_at_call 60; refine HEF.out.mono ?_; rintro e w' ⟨rfl, hb5⟩)
   go_ret
   refine ⟨⟨_, rfl, ?_⟩, BW.out.trans (hb5.mono (by have := BW.out.size; omega))⟩
   rw [decide_eq_true_eq]
   constructor
   ·intro h
    exact ⟨fun e => Z0.out acg, ZZ.out, ⟨_, qp.out⟩, h⟩
   ·intro h
    exact h.prev
theorem O9 : (Tryz.prog.info? 96).map (fun i => (i.zero, i.size, i.bytes)) = some (some (.int .u32 0), 1, 4) := by kernel_rfl
abbrev Mj (l : List Int) : List Value := l.map (Value.int .u32)
def kN : ByteArray := { data := #[116, 97] }
structure IG (V wr : World) (ib : Nat) (cv ev : Value) (ws : List Int) : Prop where
 ib1 : ib < V.heap.size
 os : wr.os = V.os
 tape : wr.tape = V.tape
 output : wr.output = V.output
 sz : V.heap.size ≤ wr.heap.size
 blk : ∀ k, k < V.heap.size → k ≠ ib → wr.heap[k]? = V.heap[k]?
 im : wr.heap[ib]? = some (.cells #[cv, ev, .int .i64 0, .int .i64 0] 25 (0, 0))
 row : wr.ownsRow V.heap.size 96 1 cv ws.length (Mj ws)
theorem IG.below {V wr wr' : World} {ib : Nat} {cv ev : Value} {ws : List Int} (h : IG V wr ib cv ev ws) (hb : Below wr.heap.size wr wr') : IG V wr' ib cv ev ws :=
 ⟨h.ib1, hb.os.trans h.os, hb.tape.trans h.tape, hb.output.trans h.output, Nat.le_trans h.sz hb.size, fun k h1 h2 => (hb.block k (by have := h.sz; omega)).trans (h.blk k h1 h2), (hb.block _ (by have := h.sz; have := h.ib1; omega)).trans h.im, bk h.row hb⟩
theorem IG.base {V wr w : World} {ib : Nat} {cv ev : Value} {ws : List Int} (h : IG V wr ib cv ev ws) (hb : Below w.heap.size w V) (hi : w.heap.size ≤ ib) : Below w.heap.size w wr :=
 ⟨h.os.trans hb.os, h.tape.trans hb.tape, h.output.trans hb.output, Nat.le_trans hb.size h.sz, fun k hk => (h.blk k (by have := hb.size; omega) abo).trans (hb.block k hk)⟩
theorem IG.app {V wr w2 W' : World} {ib : Nat} {cv ev v' : Value} {ws : List Int} {x : Int} (h : IG V wr ib cv ev ws) (hb : Below wr.heap.size wr w2) (hg : w2.grownBy W' cv.ownBlock) (hown : W'.ownsRow V.heap.size 96 1 v' (ws.length + 1) (Mj (ws ++ [x]))) : IG V (W'.setCell ⟨ib, 0, none⟩ v') ib v' ev (ws ++ [x]) := by
 have G := grown_of hb hg
 have i1 := h.ib1
 have hsz := h.sz
 have DV := G.size
 have rl : ∀ q, cv.ownBlock = some q → V.heap.size ≤ q := fun q hq => (h.row.lt q hq).1
 have sm : ∀ k, k < V.heap.size → W'.heap[k]? = wr.heap[k]? := fun k hk => G.block k abo (fun e => by have := rl k e.symm; omega)
 refine ⟨i1, G.os.trans h.os, G.tape.trans h.tape, G.output.trans h.output, by simp; omega, fun k h1 h2 => ?_, ?_, ?_⟩
 ·rw [Below.heap_setCell _ _ _ _ h2]; exact (sm k h1).trans (h.blk k h1 h2)
 ·rw [heap_setCell_same W' ib 0 _ _ v' ((sm ib i1).trans h.im)]; rfl
 ·rw [show (ws ++ [x]).length = ws.length + 1 by simp]
  exact ownsRow_setCell_other hown (fun e => by have := (hown.lt ib e).1; omega) _
theorem Dd {w : World} {B : Nat} {v : Value} {ws : List Int} (h : w.ownsRow B 96 1 v ws.length (Mj ws)) (hl : ws.length ≤ 1000000) (hw : ∀ x ∈ ws, 0 ≤ x ∧ x < 4294967296) : Words w v ws.length (fun i => ws.getD i 0) := by
 refine ⟨hl, fun i hi => ?_, ?_⟩
 ·have : ws.getD i 0 = ws[i] := by simp [List.getD, List.getElem?_eq_getElem hi]
  rw [this]
  exact hw _ (List.getElem_mem hi)
 ·rcases h.2 with ⟨rfl, h0⟩ | ⟨g, cap, cur, rfl, _, hg, h1, h2, _, _⟩
  ·rw [h0]
   exact ⟨none, 0, rfl, Nat.le_refl _, by unfold maxLen; omega, fun h => by omega⟩
  ·refine ⟨_, cap, rfl, h1, h2, fun _ => ⟨g, 0, rfl, (Array.getElem?_eq_some_iff.1 hg).1, fun i hi => ?_⟩⟩
   rw [Nat.zero_add, h.cellAt i abo]
   simp [Mj, List.getD, List.getElem?_eq_getElem hi]
theorem Dw (c : Int → aZ) (st : Int) {D D' : List Int} (h : ∀ x, x ∈ D ↔ x ∈ D') (x : Int) : oh c st D x = oh c st D' x := by
 have : oh c st D x = true ↔ oh c st D' x = true := by
  rw [iZ, iZ]
  unfold tZ
  constructor
  ·rintro (e | ⟨a, ha, hm⟩)
   ·exact .inl e
   ·exact .inr ⟨a, (h a).1 ha, hm⟩
  ·rintro (e | ⟨a, ha, hm⟩)
   ·exact .inl e
   ·exact .inr ⟨a, (h a).2 ha, hm⟩
 cases h1 : oh c st D x <;> cases h2 : oh c st D' x <;> simp_all
theorem pL (c : Int → aZ) (st : Int) {D D' : List Int} (h : ∀ x, x ∈ D ↔ x ∈ D') : ∀ m, blk c st D m = blk c st D' m
 | 0 => rfl
 | m + 1 => by
  unfold blk
  rw [pL c st h m, Dw c st h]
  simp only [h]
theorem xW {α : Type} {f : α → List Value} (hf : ∀ x, (f x).length = 6) : ∀ (L : List α) (k j : Nat) (x : α), L[k]? = some x → j < 6 → (L.flatMap f)[k * 6 + j]? = (f x)[j]?
 | y :: L, 0, j, x, h, hj => by
  simp at h; subst h
  rw [List.flatMap_cons, Nat.zero_mul, Nat.zero_add, List.getElem?_append_left (by rw [hf]; exact hj)]
 | y :: L, k + 1, j, x, h, hj => by
  have h' : L[k]? = some x := by simpa using h
  rw [List.flatMap_cons, List.getElem?_append_right (by rw [hf]; omega), hf, show (k + 1) * 6 + j - 6 = k * 6 + j by omega]
  exact xW hf L k j x h' hj
theorem wN {W : World} (h : laidMet Tryz.prog [("ontime/isa.formats", Rows.laid_ontime_isa_formats)] W) : iU W := by
 have hv := tW h
 have hg : Tryz.prog.globalNamed "ontime/isa.formats" = some 0 := by kernel_rfl
 have hc : ∀ k, W.cell? ⟨0, k, none⟩ = gj.toArray[k]? := fun k => World.var?_cell hg hv k
 refine ⟨?_, fun k hk j v hv2 => ?_⟩
 ·have h0 : W.cell? ⟨0, 0, none⟩ = some (.string ⟨#[110, 111, 112]⟩) := by rw [hc 0]; kernel_rfl
  exact mL h0
 ·rw [hc]
  have hj : j < 6 := by
   have := (List.getElem?_eq_some_iff.1 hv2).1
   simpa [Fm.cells] using this
  have hf : Kj[k]? = some (fm k) := by
   unfold fm
   have : k < Kj.length := hk
   simp [List.getD, List.getElem?_eq_getElem this]
  have := xW (f := Fm.cells) (fun x => rfl) Kj k j (fm k) hf hj
  simp only [List.getElem?_toArray]
  unfold gj
  rw [this]
  exact hv2
noncomputable def o9 (os : Os) : World :=
 { World.holding Tryz.prog os ⟨#[], #[], []⟩ with heap := (World.holding Tryz.prog os ⟨#[], #[], []⟩).heap.modify 0 fun
   | .cells _ t frozen => .cells gj.toArray t frozen
   | o => o }
theorem mI (os : Os) (args : Array Value) : ((o9 os).forCall (fun _ _ => 0) ⟨#[], args, []⟩).memory.heap[0]? = some (.cells gj.toArray 141 (0, 0)) := by kernel_rfl
theorem GI (os : Os) (args : Array Value) : laidMet Tryz.prog [("ontime/isa.formats", Rows.laid_ontime_isa_formats)] ((o9 os).forCall (fun _ _ => 0) ⟨#[], args, []⟩).memory := by
 refine ⟨_, ⟨0, 141, gj.toArray, 8, [], [], by kernel_rfl, by kernel_rfl, by kernel_rfl, by kernel_rfl, rfl, rfl⟩, by decide +kernel, fun b off h => ?_⟩
 have hb : b = 0 := by
  have h' : MemPlace.cell b off ∈ (List.range 180).map (fun i => MemPlace.cell 0 (0 + i)) := by
   have e : (MemPlace.row ⟨0, 0, none⟩ gj.toArray.size ++ [] ++ [] : List MemPlace) = (List.range 180).map (fun i => MemPlace.cell 0 (0 + i)) := by decide +kernel
   rw [e] at h
   exact h
  obtain ⟨i, _, e⟩ := List.mem_map.1 h'
  cases e
  rfl
 subst hb
 refine ⟨⟨gj.toArray, 141, mI os args⟩, fun u v hc => ?_⟩
 simp only [World.cell?, mI os args] at hc
 exfalso
 have hm : Value.iface u v ∈ gj := List.mem_of_getElem? (by simpa using hc)
 unfold gj at hm
 obtain ⟨f, _, hf⟩ := List.mem_flatMap.1 hm
 simp [Fm.cells] at hf
theorem Be {α : Type} {P : Nat → α → Prop} (len : Nat) (h : ∀ i, i < len → ∃ x, P i x) : ∃ l : List α, l.length = len ∧ ∀ i x, l[i]? = some x → P i x := by
 induction len with
 | zero => exact ⟨[], rfl, fun i x hx => by simp at hx⟩
 | succ n ih =>
  obtain ⟨l, h1, h2⟩ := ih (fun i hi => h i abo)
  obtain ⟨x, hx⟩ := h n abo
  refine ⟨l ++ [x], by simp [h1], fun i y hy => ?_⟩
  by_cases hi : i < l.length
  ·rw [List.getElem?_append_left hi] at hy
   exact h2 i y hy
  ·rw [List.getElem?_append_right abo] at hy
   have : i - l.length = 0 := by
    rcases Nat.eq_zero_or_pos (i - l.length) with e | e
    ·exact e
    ·rw [List.getElem?_eq_none abA] at hy; cases hy
   rw [this] at hy
   simp at hy
   subst hy
   rw [show i = n by omega]
   exact hx
section
variable {H : Type} {enc : TypeId × Value → H} {P : Program} {w : World} {base : Nat} {spare : Nat → Bool} {held : Bool}
theorem mH {t e : TypeId} {fuel : Nat} {cs0 : List Value} {y0 : DataW H × List MemPlace} (ht : P.underlying t = some (.slice e)) (c : Nat) (hC : P.cellsOf e = c) (hc : 0 < c)
  (hf : DataW.trod enc P w base spare held fuel t cs0 = some y0) :
  ∃ v len, cs0 = [v] ∧ jY w w.heap.size v len c (fun i cs => ∃ n y, DataW.trod enc P w base spare held n e cs = some y) := by
 rcases Go.Deep.open_slice ht hf with ⟨hcs, _⟩ | ⟨a, len, cap, m, n, D, Pl, hcs, _, hl, hm, hmm, _, hi⟩
 ·exact ⟨.slice none 0 0, 0, hcs, none, 0, rfl, Nat.le_refl _, by unfold maxLen; omega, fun h => absurd h abo⟩
 ·refine ⟨.slice (some a) len cap, len, hcs, _, cap, rfl, hl, hm, fun h0 => ?_⟩
  have hlm : len ≤ m := by rw [hmm]; split <;> omega
  have cell : ∀ i, i < len → ∃ cs, (∃ n y, DataW.trod enc P w base spare held n e cs = some y) ∧ cs.length = c ∧ ∀ j, j < c → w.cell? ((a.add (i * c)).add j) = cs[j]? := by
   intro i hi'
   obtain ⟨cs, hcs, Pg⟩ := hi i abo
   rw [hC] at hcs
   obtain ⟨_, hl', hat⟩ := World.cells?_some hcs
   exact ⟨cs, ⟨n, _, Pg⟩, hl', hat⟩
  have hspot : a.spot = none ∧ a.block < w.heap.size := by
   obtain ⟨cs, _, hl', hat⟩ := cell 0 h0
   have h1 := hat 0 hc
   rw [List.getElem?_eq_getElem abo] at h1
   have e0 : ((a.add (0 * c)).add 0) = a := by simp [Addr.add]
   rw [e0] at h1
   exact ⟨World.cell?_spot h1, mL h1⟩
  obtain ⟨b, off, spot⟩ := a
  simp only at hspot
  obtain ⟨rfl, hb⟩ := hspot
  refine ⟨b, off, rfl, hb, fun i hi' => ?_⟩
  obtain ⟨cs, r, hl', hat⟩ := cell i hi'
  refine ⟨cs, r, hl', fun j hj => ?_⟩
  rw [← hat j hj]
  congr 1
  unfold Addr.add
  split <;> split <;> simp <;> omega
end
section
variable {H : Type} {enc : TypeId × Value → H} {w : World} {base : Nat} {spare : Nat → Bool} {held : Bool}
theorem yj : Tryz.prog.cellsOf 3 = 1 := by kernel_rfl
end
theorem MM : (Tryz.prog.info? 37).map (fun i => (i.zero, i.size, i.bytes)) = some (some (.agg #[.int .i64 0, .int .i64 0, .slice none 0 0]), 3, 40) := by kernel_rfl
def nu (G : List dL) (nv : Nat → Value) : List Value := (List.range G.length).flatMap fun i => [.int .i64 (G.getD i ⟨0, 0, []⟩).lo, .int .i64 (G.getD i ⟨0, 0, []⟩).hi, nv i]
theorem yt {G : List dL} {j : Nat} {x : dL} {nv : Nat → Value} {v : Value} (hx : G[j]? = some x) : nu (G.take (j + 1)) (upd nv j v) = nu (G.take j) nv ++ [.int .i64 x.lo, .int .i64 x.hi, v] := by
 have hlt := (List.getElem?_eq_some_iff.1 hx).1
 have hjl : (G.take j).length = j := by simp; omega
 unfold nu
 rw [cq hx, List.length_append, hjl, List.length_singleton, List.range_succ, List.flatMap_append]
 congr 1
 ·rw [List.flatMap_def, List.flatMap_def]
  congr 1
  apply List.map_congr_left
  intro i hi
  have hi' := List.mem_range.1 hi
  have h1 : i ≠ j := by omega
  have h2 : (G.take j ++ [x]).getD i ⟨0, 0, []⟩ = (G.take j).getD i ⟨0, 0, []⟩ := by
   simp only [List.getD]
   rw [List.getElem?_append_left abo]
  rw [h2]
  simp [upd, h1]
 ·have h2 : (G.take j ++ [x]).getD j ⟨0, 0, []⟩ = x := by
   simp only [List.getD]
   rw [List.getElem?_append_right abo, hjl]
   simp
  simp only [List.flatMap_cons, List.flatMap_nil, List.append_nil]
  rw [h2]
  simp [upd]
theorem JN {w : World} {G : List dL} {j : Nat} {x : dL} {nv : Nat → Value} {v : Value} (hx : G[j]? = some x) (h : ∀ i y, (G.take j)[i]? = some y → Ints w (nv i) y.nx) (hv : Ints w v x.nx) : ∀ i y, (G.take (j + 1))[i]? = some y → Ints w (upd nv j v i) y.nx := by
 intro i y hy
 have hlt := (List.getElem?_eq_some_iff.1 hx).1
 have hjl : (G.take j).length = j := by simp; omega
 rw [cq hx] at hy
 unfold upd
 by_cases e : i = j
 ·rw [if_pos e]
  rw [List.getElem?_append_right abo, hjl, e] at hy
  simp at hy
  subst hy
  exact hv
 ·rw [if_neg e]
  by_cases hi : i < j
  ·rw [List.getElem?_append_left abo] at hy
   exact h i y hy
  ·rw [List.getElem?_eq_none abA] at hy
   cases hy
theorem Ew {G : List dL} {nv : Nat → Value} {i : Nat} {x : dL} (hx : G[i]? = some x) {j : Nat} (hj : j < 3) : (nu G nv)[i * 3 + j]? = [.int .i64 x.lo, .int .i64 x.hi, nv i][j]? := by
 have hi := (List.getElem?_eq_some_iff.1 hx).1
 have e : G.getD i ⟨0, 0, []⟩ = x := by simp [List.getD, hx]
 have := si (f := fun i => [Value.int .i64 (G.getD i ⟨0, 0, []⟩).lo, .int .i64 (G.getD i ⟨0, 0, []⟩).hi, nv i]) (fun _ => rfl) G.length i j hi hj
 unfold nu
 rw [this, e]
theorem Gj {w w0 : World} {B : Nat} {e : TypeId} {v : Value} {G : List dL} {nv : Nat → Value} (h : w.ownsRow B e 3 v G.length (nu G nv)) (hI : ∀ i x, G[i]? = some x → Ints w (nv i) x.nx) : gh w v G := by
 rcases h.2 with ⟨rfl, h0⟩ | ⟨g, cap', cur, rfl, h1, h2, h3, h4, _, _⟩
 ·exact ⟨none, 0, by rw [h0], by omega, by unfold maxLen; omega, fun h => by omega⟩
 ·refine ⟨_, cap', rfl, h3, h4, fun _ => ⟨g, 0, rfl, (Array.getElem?_eq_some_iff.1 h2).1, fun i x hx => ?_⟩⟩
  have hi := (List.getElem?_eq_some_iff.1 hx).1
  have key : ∀ j, j < 3 → w.cell? ⟨g, i * 3 + j, none⟩ = [Value.int .i64 x.lo, .int .i64 x.hi, nv i][j]? := fun j hj => by
   rw [h.cellAt _ abo]
   exact Ew hx hj
  refine ⟨?_, ?_, nv i, ?_, hI i x hx⟩
  ·rw [Nat.zero_add]; exact key 0 abo
  ·rw [Nat.zero_add]; exact key 1 abo
  ·rw [Nat.zero_add]; exact key 2 abo
def JV (pc : Int) (x : dL) : Prop := x.lo ≤ pc ∧ pc < x.hi
instance (pc : Int) (x : dL) : Decidable (JV pc x) := by unfold JV; infer_instance
def ku (G : List dL) (pc : Int) : Option Nat := G.findIdx? (fun x => decide (JV pc x))
theorem Ae {G : List dL} {pc : Int} {j : Nat} {x : dL} (hx : G[j]? = some x) (hin : JV pc x) (hno : ∀ y ∈ G.take j, ¬ JV pc y) : ku G pc = some j := by
 unfold ku
 obtain ⟨hj, e⟩ := List.getElem?_eq_some_iff.1 hx
 rw [List.findIdx?_eq_some_iff_getElem]
 refine ⟨hj, by rw [e]; simpa using hin, fun i hi => ?_⟩
 have : G[i] ∈ G.take j := by
  rw [List.mem_iff_getElem?]
  exact ⟨i, by rw [List.getElem?_take, if_pos hi, List.getElem?_eq_getElem abo]⟩
 simpa using hno _ this
theorem Af {G : List dL} {pc : Int} (hno : ∀ y ∈ G, ¬ JV pc y) : ku G pc = none := by
 unfold ku
 rw [List.findIdx?_eq_none_iff]
 intro x hx
 simpa using hno x hx
theorem Ev (bv pv : Value) (G : List dL) (pc : Int) (w : World) (HG : gh w bv G) :
  Calls Tryz.prog 59 #[.agg #[bv, pv], .int .i64 pc] w fun e w' => e = .returned (.tuple #[.int .i64 (((ku G pc).getD 0 : Nat) : Int), .bool (ku G pc).isSome]) ∧ Below w.heap.size w w' := by
 obtain ⟨A, cap, rfl, hc1, hc2⟩ := HG.slice
 have Ox := acD HG
 clear HG
 obtain ⟨V0, gZ⟩ : ∃ V0, w.alloc (.cells #[.slice A G.length cap, pv] 30) = V0 := ⟨_, rfl⟩
 have b0 : Below w.heap.size w V0 := gZ ▸ (Below.refl _ _).alloc (Nat.le_refl _) _
 have s0 : w.heap.size < V0.heap.size := by rw [← gZ]; simp
 have k0 : V0.heap[w.heap.size]? = some (.cells #[.slice A G.length cap, pv] 30) := by rw [← gZ]; exact heap_alloc_new _ _
 have y0 : V0.cell? ⟨w.heap.size, 0, none⟩ = some (.slice A G.length cap) := by simp [World.cell?, k0]
 have B0 := acD b0
 clear k0 b0
 go_enter Tryz.func59, Tryz.ntmps59
 go_upto_region 2 with fail
 clear gZ
 go_loopw [6, 7, 11] (fun a6 a7 a11 wr => ∃ j : Nat, j ≤ G.length ∧ a11 = .int .i64 (j : Int) ∧ (∀ x ∈ G.take j, ¬ JV pc x) ∧ Below V0.heap.size V0 wr) (fun _ _ a11 _ => G.length - (intOf a11).toNat)
 case atStart => exact ⟨0, Nat.zero_le _, rfl, by simp, Below.refl _ _⟩
 case round =>
  obtain ⟨j, hj, rfl, hno, hb⟩ := hrel
  have ue := acD hno
  have HB := acD hb
  have BW := acD (B0.out.trans (hb.mono abo))
  have s1 := hb.size
  clear hno hb
  by_cases hlt : j < G.length
  ·obtain ⟨x, nv, b, off, hx, rfl, hbl, c0, c1, c2, hI⟩ := Ox.out.at_ BW.out hlt
   obtain ⟨NA, cT, rfl, hn1, hn2⟩ := hI.slice
   have HX := acD hx
   have dl : decide ((j : Int) < (G.length : Int)) = true := decide_eq_true abo
   clear hx hI
   by_cases q : JV pc x
   ·have d1 : decide (x.lo ≤ pc) = true := decide_eq_true q.1
    have d2 : decide (pc < x.hi) = true := decide_eq_true q.2
    have HQ := acD (Ae HX.out q ue.out)
    clear q
    go_wp2_with fail
    go_ret2
    refine ⟨?_, BW.out.alloc abo _⟩
    rw [HQ.out]; rfl
   ·have HQ := acD q
    by_cases q1 : x.lo ≤ pc
    ·have d1 : decide (x.lo ≤ pc) = true := decide_eq_true q1
     have d2 : decide (pc < x.hi) = false := decide_eq_false (fun h => q ⟨q1, h⟩)
     clear q q1
     go_wp2_with fail
     go_roundw
     case rel =>
      refine ⟨j + 1, by omega, by go_num, fun t ht => ?_, HB.out.alloc abo _⟩
      rw [cq HX.out] at ht
      rcases List.mem_append.1 ht with h | h
      ·exact ue.out t h
      ·simp at h; rw [h]; exact HQ.out
     case measure => simp [intOf]; omega
    ·have d1 : decide (x.lo ≤ pc) = false := decide_eq_false q1
     clear q q1
     go_wp2_with fail
     go_roundw
     case rel =>
      refine ⟨j + 1, by omega, by go_num, fun t ht => ?_, HB.out.alloc abo _⟩
      rw [cq HX.out] at ht
      rcases List.mem_append.1 ht with h | h
      ·exact ue.out t h
      ·simp at h; rw [h]; exact HQ.out
     case measure => simp [intOf]; omega
  ·obtain rfl : j = G.length := by omega
   have dl : decide ((G.length : Int) < (G.length : Int)) = false := by simp
   rw [List.take_length] at ue
   have HQ := acD (Af ue.out)
   go_wp2_with fail
   go_ret2
   refine ⟨?_, BW.out⟩
   rw [HQ.out]; rfl
def vI (L : List (Int × Int)) : List Value := L.flatMap fun p => [.int .i64 p.1, .int .i64 p.2]
theorem rG (L : List (Int × Int)) (a b : Int) : vI (L ++ [(a, b)]) = vI L ++ [.int .i64 a, .int .i64 b] := by simp [vI]
theorem zD : ∀ (L : List (Int × Int)) (i j : Nat) (p : Int × Int), L[i]? = some p → j < 2 → (vI L)[i * 2 + j]? = [Value.int .i64 p.1, .int .i64 p.2][j]?
 | y :: L, 0, j, p, h, hj => by
  simp at h; subst h
  have e : vI (y :: L) = [.int .i64 y.1, .int .i64 y.2] ++ vI L := by simp [vI]
  rw [e, Nat.zero_mul, Nat.zero_add, List.getElem?_append_left (by simpa using hj)]
 | y :: L, i + 1, j, p, h, hj => by
  have h' : L[i]? = some p := by simpa using h
  have e : vI (y :: L) = [.int .i64 y.1, .int .i64 y.2] ++ vI L := by simp [vI]
  rw [e, List.getElem?_append_right abA, show (i + 1) * 2 + j - [Value.int .i64 y.1, .int .i64 y.2].length = i * 2 + j by simp; omega]
  exact zD L i j p h' hj
def EK (w : World) (v : Value) (L : List (Int × Int)) : Prop :=
 ∃ A cap, v = .slice A L.length cap ∧ L.length ≤ cap ∧ cap ≤ 2 ^ 63 - 1 ∧ (0 < L.length → ∃ b off, A = some ⟨b, off, none⟩ ∧ b < w.heap.size ∧ ∀ i p, L[i]? = some p → w.cell? ⟨b, off + i * 2, none⟩ = some (.int .i64 p.1) ∧ w.cell? ⟨b, off + i * 2 + 1, none⟩ = some (.int .i64 p.2))
theorem EK.below {w w' : World} {v : Value} {L : List (Int × Int)} (h : EK w v L) (hb : Below w.heap.size w w') : EK w' v L := by
 obtain ⟨A, cap, h1, h2, h3, h4⟩ := h
 refine ⟨A, cap, h1, h2, h3, fun h0 => ?_⟩
 obtain ⟨b, off, ha, hlt, hc⟩ := h4 h0
 refine ⟨b, off, ha, by have := hb.size; omega, fun i p hp => ?_⟩
 obtain ⟨c0, c1⟩ := hc i p hp
 exact ⟨(hb.cell (p := ⟨b, _, none⟩) hlt).trans c0, (hb.cell (p := ⟨b, _, none⟩) hlt).trans c1⟩
theorem Ba {w : World} {B : Nat} {e : TypeId} {v : Value} {L : List (Int × Int)} (h : w.ownsRow B e 2 v L.length (vI L)) : EK w v L := by
 rcases h.2 with ⟨rfl, h0⟩ | ⟨g, cap', cur, rfl, h1, h2, h3, h4, _, _⟩
 ·exact ⟨none, 0, by rw [h0], by omega, by omega, fun h => by omega⟩
 ·unfold maxLen at h4
  refine ⟨_, cap', rfl, h3, h4, fun _ => ⟨g, 0, rfl, (Array.getElem?_eq_some_iff.1 h2).1, fun i p hp => ?_⟩⟩
  have hi := (List.getElem?_eq_some_iff.1 hp).1
  refine ⟨?_, ?_⟩
  ·rw [Nat.zero_add, h.cellAt _ abo, show i * 2 = i * 2 + 0 from rfl, zD L i 0 p hp abo]; rfl
  ·rw [Nat.zero_add, h.cellAt _ abo, zD L i 1 p hp abo]; rfl
theorem nt (w : World) (a b : Value) (t : TypeId) : ∀ j u, [a, b][j]? = some u → (w.alloc (.cells #[a, b] t)).cell? ((⟨w.heap.size, 0, none⟩ : Addr).add j) = some u := by
 intro j u h
 have e : (⟨w.heap.size, 0, none⟩ : Addr).add j = ⟨w.heap.size, j, none⟩ := by cases j <;> simp [Addr.add]
 rw [e]
 unfold World.cell?
 rw [heap_alloc_new]
 simpa using h
theorem infoP : (Tryz.prog.info? 89).map (fun i => (i.zero, i.size, i.bytes)) = some (some (.agg #[.int .i64 0, .int .i64 0]), 2, 16) := by kernel_rfl
structure js (w : World) (v : Value) (n : Nat) (cd : Nat → Int) : Prop where
 wd : ∀ i, i < n → 0 ≤ cd i ∧ cd i < 4294967296
 at_ : ∃ A cap, v = .slice A n cap ∧ n ≤ cap ∧ cap ≤ maxLen ∧ (0 < n → ∃ b off, A = some ⟨b, off, none⟩ ∧ b < w.heap.size ∧ ∀ i, i < n → w.cell? ⟨b, off + i, none⟩ = some (.int .u32 (cd i)))
theorem js.words {w : World} {v : Value} {n : Nat} {cd : Nat → Int} (h : js w v n cd) (hn : n ≤ 1000000) : Words w v n cd := ⟨hn, h.wd, h.at_⟩
theorem O0 {cs : List Value} (h : cs.length = 4) : ∃ c0 c1 c2 c3, cs = [c0, c1, c2, c3] := by
 match cs, h with
 | [c0, c1, c2, c3], _ => exact ⟨c0, c1, c2, c3, rfl⟩
theorem array4 {α : Type} {cs : Array α} (h : cs.size = 4) : ∃ c0 c1 c2 c3, cs = #[c0, c1, c2, c3] := by
 obtain ⟨l⟩ := cs
 match l, h with
 | [c0, c1, c2, c3], _ => exact ⟨c0, c1, c2, c3, rfl⟩
theorem u32_in {p : Int} (h : (Lit.int .u32 p).wf = true) : 0 ≤ p ∧ p < 4294967296 := by
 simp [Lit.wf] at h
 have e1 : IntKind.u32.min = 0 := by decide
 have e2 : IntKind.u32.max = 4294967295 := by decide
 omega
theorem Ic : Tryz.prog.cellsOf 9 = 1 := by kernel_rfl
theorem Au : Tryz.prog.cellsOf 22 = 1 := by kernel_rfl
theorem En : Tryz.prog.cellsOf 23 = 1 := by kernel_rfl
theorem Av : Tryz.prog.cellsOf 25 = 4 := by kernel_rfl
theorem trod_struct4 {H : Type} {enc : TypeId × Value → H} {P : Program} {w : World} {base : Nat} {spare : Nat → Bool} {held : Bool} {t : TypeId} {f0 f1 f2 f3 : Field} {fuel : Nat} {cs : List Value} {x : DataW H × List MemPlace} (ht : P.underlying t = some (.struct #[f0, f1, f2, f3])) (h : DataW.trod enc P w base spare held fuel t cs = some x) :
  ∃ y0 y1 y2 y3 n, DataW.trod enc P w base spare held n f0.type ((cs.drop f0.offset).take (P.cellsOf f0.type)) = some y0 ∧ DataW.trod enc P w base spare held n f1.type ((cs.drop f1.offset).take (P.cellsOf f1.type)) = some y1 ∧
   DataW.trod enc P w base spare held n f2.type ((cs.drop f2.offset).take (P.cellsOf f2.type)) = some y2 ∧ DataW.trod enc P w base spare held n f3.type ((cs.drop f3.offset).take (P.cellsOf f3.type)) = some y3 := by
 obtain ⟨xs, n, _, rfl, hl, hlen, hf⟩ := DataW.trod_struct ht h
 match xs, hlen with
 | [y0, y1, y2, y3], _ => exact ⟨y0, y1, y2, y3, n, by simpa using hf 0 f0 rfl, by simpa using hf 1 f1 rfl, by simpa using hf 2 f2 rfl, by simpa using hf 3 f3 rfl⟩
section
variable {H : Type} {enc : TypeId × Value → H} {w : World} {base : Nat} {spare : Nat → Bool} {held : Bool}
theorem Fz {fuel : Nat} {cs : List Value} {y : DataW H × List MemPlace} (h : DataW.trod enc Tryz.prog w base spare held fuel 22 cs = some y) : ∃ v n cd, cs = [v] ∧ js w v n cd := by
 obtain ⟨v, len, rfl, A, cap, rfl, h1, h2, hc⟩ := mH Tryz.underlying22 1 abp abo h
 obtain ⟨l, hl, hp⟩ := Be (P := fun i (x : Int) => (0 ≤ x ∧ x < 4294967296) ∧ (0 < len → ∃ b off, A = some ⟨b, off, none⟩ ∧ b < w.heap.size ∧ w.cell? ⟨b, off + i, none⟩ = some (.int .u32 x))) len (fun i hi => by
  obtain ⟨b, off, rfl, hb, hx⟩ := hc abo
  obtain ⟨cs, ⟨n, y, Pg⟩, _, hj⟩ := hx i hi
  obtain ⟨z, rfl, _, hw⟩ := DataW.trod_int Tryz.underlying96 Pg
  have := hj 0 abo
  exact ⟨z, u32_in hw, fun _ => ⟨b, off, rfl, hb, by simpa using this⟩⟩)
 subst hl
 have hg : ∀ i, i < l.length → l.getD i 0 = l[i]?.getD 0 := fun i hi => by simp [List.getD]
 refine ⟨_, l.length, fun i => l.getD i 0, rfl, fun i hi => ?_, A, cap, rfl, h1, h2, fun h0 => ?_⟩
 ·have e : l.getD i 0 = l[i] := by simp [List.getD, List.getElem?_eq_getElem hi]
  show 0 ≤ l.getD i 0 ∧ l.getD i 0 < 4294967296
  rw [e]
  exact (hp i _ (List.getElem?_eq_getElem hi)).1
 ·obtain ⟨b, off, rfl, hb, hx⟩ := hc h0
  refine ⟨b, off, rfl, hb, fun i hi => ?_⟩
  obtain ⟨_, h4⟩ := hp i _ (List.getElem?_eq_getElem hi)
  obtain ⟨b', off', e, _, h5⟩ := h4 h0
  cases e
  rw [h5]
  simp [List.getD, List.getElem?_eq_getElem hi]
theorem Jp {fuel : Nat} {cs : List Value} {y : DataW H × List MemPlace} (h : DataW.trod enc Tryz.prog w base spare held fuel 23 cs = some y) : ∃ v l, cs = [v] ∧ nD w v l := by
 obtain ⟨v, len, rfl, A, cap, rfl, h1, h2, hc⟩ := mH Tryz.underlying23 4 abp abo h
 obtain ⟨l, hl, hp⟩ := Be (P := fun i (x : nE) => x.nm.size ≤ maxLen ∧ (0 < len → ∃ b off, A = some ⟨b, off, none⟩ ∧ b < w.heap.size ∧ w.cell? ⟨b, off + i * 4, none⟩ = some (.string x.nm) ∧ w.cell? ⟨b, off + i * 4 + 1, none⟩ = some (.int .i64 x.st) ∧ w.cell? ⟨b, off + i * 4 + 2, none⟩ = some (.int .i64 x.en) ∧ w.cell? ⟨b, off + i * 4 + 3, none⟩ = some (.int .i64 x.da))) len (fun i hi => by
  obtain ⟨b, off, rfl, hb, hx⟩ := hc abo
  obtain ⟨cs, ⟨n, y, Pg⟩, hl, hj⟩ := hx i hi
  obtain ⟨y0, y1, y2, y3, n', g0, g1, g2, g3⟩ := trod_struct4 Tryz.underlying115 Pg
  obtain ⟨c0, c1, c2, c3, rfl⟩ := O0 hl
  simp only [yj, Ic, List.drop_zero, acL, acK, List.take_zero] at g0 g1 g2 g3
  obtain ⟨z0, e0, _, hz0⟩ := DataW.trod_string Tryz.underlying9 g0
  obtain ⟨z1, e1, _, _⟩ := DataW.trod_int Tryz.underlying3 g1
  obtain ⟨z2, e2, _, _⟩ := DataW.trod_int Tryz.underlying3 g2
  obtain ⟨z3, e3, _, _⟩ := DataW.trod_int Tryz.underlying3 g3
  simp at e0 e1 e2 e3
  subst e0 e1 e2 e3
  refine ⟨⟨z0, z1, z2, z3⟩, hz0, fun _ => ⟨b, off, rfl, hb, ?_, ?_, ?_, ?_⟩⟩
  ·simpa using hj 0 abo
  ·simpa [Nat.add_assoc] using hj 1 abo
  ·simpa [Nat.add_assoc] using hj 2 abo
  ·simpa [Nat.add_assoc] using hj 3 abo)
 subst hl
 refine ⟨_, l, rfl, fun e he => ?_, A, cap, rfl, h1, h2, fun h0 => ?_⟩
 ·obtain ⟨i, hi⟩ := List.mem_iff_getElem?.1 he
  exact (hp i e hi).1
 ·obtain ⟨b, off, rfl, hb, hx⟩ := hc h0
  refine ⟨b, off, rfl, hb, fun i x hi => ?_⟩
  obtain ⟨b', off', e, _, h5⟩ := (hp i x hi).2 h0
  cases e
  exact h5
theorem zG {r : Reach} {b0 : Nat} {v : Value} {d : DataW H} {p : List MemPlace} (hv : Value.okWide Tryz.prog w r b0 25 v) (h : DataW.Trod enc Tryz.prog w base spare held 25 v d p) :
  ∃ cv ev sh lk n cd aM, v = .agg #[cv, ev, .int .i64 sh, .int .i64 lk] ∧ js w cv n cd ∧ nD w ev aM := by
 obtain ⟨cs, rfl, hsz⟩ := okWide_struct Tryz.underlying25 hv
 obtain ⟨c0, c1, c2, c3, rfl⟩ := array4 (hsz.trans Av)
 obtain ⟨fuel, hf⟩ := h
 obtain ⟨y0, y1, y2, y3, n, g0, g1, g2, g3⟩ := trod_struct4 Tryz.underlying25 hf
 simp only [Value.cells, Au, En, yj, List.drop_zero, acL, acK, List.take_zero] at g0 g1 g2 g3
 obtain ⟨cv, m, cd, e0, hW⟩ := Fz g0
 obtain ⟨ev, aM, e1, hE⟩ := Jp g1
 obtain ⟨z2, e2, _, _⟩ := DataW.trod_int Tryz.underlying3 g2
 obtain ⟨z3, e3, _, _⟩ := DataW.trod_int Tryz.underlying3 g3
 simp at e0 e1 e2 e3
 subst e0 e1 e2 e3
 exact ⟨c0, c1, z2, z3, m, cd, aM, rfl, hW, hE⟩
end
def iL (n : Nat) (aM : List nE) : Int := if 300 < n ∨ 4 < aM.length then 1 else 0
theorem DY (cv ev : Value) (sh lk : Int) (n : Nat) (cd : Nat → Int) (aM : List nE) (w : World) (HW : js w cv n cd) (HE : nD w ev aM) :
  Calls Tryz.prog 22 #[.agg #[cv, ev, .int .i64 sh, .int .i64 lk]] w fun e w' => e = .returned (.int .i64 (iL n aM)) ∧ Below w.heap.size w w' := by
 obtain ⟨A, cap, rfl, h1, h2, _⟩ := HW.at_
 obtain ⟨EA, kE, rfl, h3, h4, _⟩ := HE.at_
 unfold maxLen at h2 h4
 go_enter Tryz.func22, Tryz.ntmps22
 by_cases q1 : 300 < n
 ·have d1 : decide ((300 : Int) < (n : Int)) = true := decide_eq_true abo
  have HQ := acD (show iL n aM = 1 by simp [iL, q1])
  clear q1
  go_wp2_with fail
  go_ret
  exact ⟨eu HQ.out.symm, (Below.refl _ _).alloc (Nat.le_refl _) _⟩
 have d1 : decide ((300 : Int) < (n : Int)) = false := decide_eq_false abo
 by_cases q2 : 4 < aM.length
 ·have d2 : decide ((4 : Int) < (aM.length : Int)) = true := decide_eq_true abo
  have HQ := acD (show iL n aM = 1 by simp [iL, q2])
  clear q1 q2
  go_wp2_with fail
  go_ret
  exact ⟨eu HQ.out.symm, (Below.refl _ _).alloc (Nat.le_refl _) _⟩
 have d2 : decide ((4 : Int) < (aM.length : Int)) = false := decide_eq_false abo
 have HQ := acD (show iL n aM = 0 by simp [iL, q1, q2])
 clear q1 q2
 go_wp2_with fail
 go_ret
 exact ⟨eu HQ.out.symm, (Below.refl _ _).alloc (Nat.le_refl _) _⟩
inductive GR (G : List dL) : Nat → Prop
 | start : GR G 0
 | step {b t : Nat} {x : dL} : GR G b → G[b]? = some x → (t : Int) ∈ x.nx → GR G t
abbrev RZ (n : Nat) (sn : Nat → Bool) : List Value := (List.range n).map fun i => .bool (sn i)
theorem Kq (n : Nat) (sn : Nat → Bool) {p : Nat} (hp : p < n) (b : Bool) : (RZ n sn).set p (.bool b) = RZ n (upd sn p b) := by
 apply List.ext_getElem?
 intro q
 rw [List.getElem?_set]
 simp only [RZ, List.length_map, List.length_range, List.getElem?_map]
 by_cases e : p = q
 ·subst e
  rw [if_pos rfl, if_pos hp, List.getElem?_range hp]
  simp [upd]
 ·rw [if_neg e]
  by_cases hq : q < n
  ·rw [List.getElem?_range hq]
   have : q ≠ p := fun h => e h.symm
   simp [upd, this]
  ·rw [List.getElem?_eq_none (by simpa using hq)]
   rfl
structure SM (w wr : World) (g n : Nat) (sn : Nat → Bool) : Prop where
 aF : Below w.heap.size w wr
 row : wr.ownsRow w.heap.size 4 1 (.slice (some ⟨g, 0, none⟩) n n) n (RZ n sn)
theorem SM.cells {w wr : World} {g n : Nat} {sn : Nat → Bool} (h : SM w wr g n sn) {i : Nat} (hi : i < n) : wr.cell? ⟨g, i, none⟩ = some (.bool (sn i)) ∧ wr.frozen? ⟨g, i, none⟩ = false :=
 ⟨by rw [h.row.cellAt _ abo, List.getElem?_map, List.getElem?_range hi]; rfl, h.row.frozenAt _⟩
theorem SM.set {w wr : World} {g n : Nat} {sn : Nat → Bool} (h : SM w wr g n sn) {i : Nat} (hi : i < n) (b : Bool) : SM w (wr.setCell ⟨g, i, none⟩ (.bool b)) g n (upd sn i b) :=
 ⟨h.aF.setCell (h.row.lt g rfl).1 _, by rw [← Kq n sn hi b]; exact (h.row.stored i (.bool b)).1⟩
structure RS (G : List dL) (sn : Nat → Bool) : Prop where
 zero : sn 0 = true
 sound : ∀ i, i < G.length → sn i = true → GR G i
theorem RS.add {G : List dL} {sn : Nat → Bool} (h : RS G sn) {b t : Nat} {x : dL} (hb : b < G.length) (hs : sn b = true) (hx : G[b]? = some x) (ht : (t : Int) ∈ x.nx) : RS G (upd sn t true) := by
 refine ⟨?_, fun i hi hs' => ?_⟩
 ·unfold upd; split; rfl; exact h.zero
 ·unfold upd at hs'
  split at hs'
  ·rename_i e; rw [e]; exact GR.step (h.sound b hb hs) hx ht
  ·exact h.sound i hi hs'
theorem AH {l : List Int} (h : l.Nodup) (x : Int) : (mF l x).Nodup := by
 unfold mF
 split
 ·exact h
 ·rename_i hx
  rw [List.nodup_append]
  exact ⟨h, by simp, fun a ha b hb => by simp at hb; subst hb; exact fun e => hx (e ▸ ha)⟩
theorem uF (L : List (Int × Int)) (S : List Int) : (tF L S).Nodup := by
 have : ∀ (S l : List Int), l.Nodup → (S.foldl (fun l s => mF l (idx L s : Int)) l).Nodup := by
  intro S
  induction S with
  | nil => intro l h; exact h
  | cons s S ih => intro l h; rw [List.foldl_cons]; exact ih _ (AH h _)
 exact this S [] aby
theorem Gw {l : List Int} {x y : Int} : y ∈ mF l x ↔ y ∈ l ∨ y = x := by
 unfold mF
 split
 ·rename_i h
  constructor
  ·exact .inl
  ·rintro (h1 | rfl)
   ·exact h1
   ·exact h
 ·simp
theorem Bd (L : List (Int × Int)) (S : List Int) (y : Int) : y ∈ tF L S ↔ ∃ s ∈ S, y = (idx L s : Int) := by
 have : ∀ (S l : List Int), y ∈ (S.foldl (fun l s => mF l (idx L s : Int)) l) ↔ y ∈ l ∨ ∃ s ∈ S, y = (idx L s : Int) := by
  intro S
  induction S with
  | nil => intro l; simp
  | cons s S ih =>
   intro l
   rw [List.foldl_cons, ih, Gw]
   simp [or_assoc]
 have h := this S []
 simpa [tF] using h
structure fN (c : Int → aZ) (st en : Int) (D : List Int) (L : List (Int × Int)) : Prop where
 b : Rl c st D (en - st).toNat L
 mem : ∀ a, a ∈ D ↔ pQ c st en a
 all : ∀ a ∈ D, ∀ t ∈ cz (c a) a, t ∈ D
 st0 : 0 ≤ st
 lt : st < en
theorem fN.of {c : Int → aZ} {st en : Int} {D : List Int} (h0 : 0 ≤ st) (h1 : st < en) (hR : fU c st en D [] (-1)) : fN c st en D (blk c st D (en - st).toNat) := by
 refine ⟨oB c st D _, hR.mem h1, fun a ha t ht => ?_, h0, h1⟩
 have hb : ¬ qq c st en a := by
  rcases hR.b with h | h
  ·exact h.2 a ha
  ·have := (hR.dr _ h.1).range _ _ _ h1
   omega
 have hin : st ≤ t ∧ t < en := Classical.byContradiction fun h => hb ⟨t, ht, h⟩
 rcases hR.cl a ha t ht hin.1 hin.2 with h | h
 ·exact h
 ·cases h
section
variable {c : Int → aZ} {st en : Int} {D : List Int} {L : List (Int × Int)}
theorem fN.range (h : fN c st en D L) {a : Int} (ha : a ∈ D) : st ≤ a ∧ a < en := ((h.mem a).1 ha).range _ _ _ h.lt
theorem fN.succ (h : fN c st en D L) {p : Int × Int} (hp : p ∈ L) {s : Int} (hs : s ∈ cz (c (p.2 - 1)) (p.2 - 1)) : s ∈ D ∧ ∃ q ∈ L, q.1 = s := by
 have hla := h.b.last p hp
 have JX := h.all _ hla s hs
 have hin := h.range JX
 refine ⟨JX, h.b.num s hin.1 acm JX ?_⟩
 by_cases hbr : fo (c (p.2 - 1)).op = true
 ·rw [iZ]
  refine .inr ⟨_, hla, ?_⟩
  unfold eB
  rw [if_pos hbr]
  exact hs
 ·have : s = p.2 := by
   unfold cz at hs
   unfold fo at hbr
   split at hs
   ·cases hs
   ·split at hs
    ·simp_all
    ·split at hs
     ·rename_i h; rcases h with h | h <;> simp [h] at hbr
     ·simp at hs; omega
  rw [this] at JX hin ⊢
  exact h.b.cl _ hp acm JX
theorem fN.next (h : fN c st en D L) {k : Nat} (hk : k < L.length) : ∀ t ∈ eA c L k, 0 ≤ t ∧ t < (L.length : Int) := by
 intro t ht
 unfold eA at ht
 obtain ⟨s, hs, rfl⟩ := (Bd _ _ _).1 ht
 have e1 : L.getD k (0, 0) = L[k] := by simp [List.getD, List.getElem?_eq_getElem hk]
 unfold iH at hs
 rw [e1] at hs
 obtain ⟨_, hq⟩ := h.succ (List.getElem_mem hk) hs
 have := (rJ hq).2.1
 omega
theorem jC (c : Int → aZ) (L : List (Int × Int)) {k : Nat} (hk : k < L.length) : (cJ c L)[k]? = some ⟨(L[k]).1, (L[k]).2, eA c L k⟩ := by
 unfold cJ
 rw [List.getElem?_map, List.getElem?_range hk]
 simp [List.getD, List.getElem?_eq_getElem hk]
theorem fL (c : Int → aZ) (L : List (Int × Int)) : (cJ c L).length = L.length := by simp [cJ]
theorem MA {n : Nat} {G : List dL} (h1 : ∀ (k : Nat) (x : dL), G[k]? = some x → x.lo < x.hi ∧ x.nx.length ≤ 2 ∧ (∀ t ∈ x.nx, 0 ≤ t ∧ t < (n : Int)) ∧ x.nx.Nodup) (h2 : ∀ x, G[0]? = some x → 0 ≤ x.lo) (h3 : ∀ (k : Nat) (x y : dL), G[k]? = some x → G[k + 1]? = some y → x.hi ≤ y.lo) : ∃ z, nU n 0 G z := by
 have key : ∀ m, m ≤ G.length → ∃ z, nU n 0 (G.take m) z ∧ (∀ x, G[m]? = some x → z ≤ x.lo) := by
  intro m
  induction m with
  | zero => intro _; exact ⟨0, rfl, h2⟩
  | succ m ih =>
   intro hm
   obtain ⟨z, hz, hl⟩ := ih abo
   have hx : G[m]? = some G[m] := List.getElem?_eq_getElem abo
   obtain ⟨a1, a2, a3, a4⟩ := h1 m _ hx
   refine ⟨G[m].hi, ?_, fun y hy => h3 m _ y hx hy⟩
   rw [cq hx]
   refine hz.snoc ⟨hl _ hx, a1, a2, a3, fun ⟨e1, e2⟩ => ?_⟩
   match gQ : G[m].nx, e1, e2, a4 with
   | [u, v], _, e2, a4 => simp at e2 a4; exact a4 e2
 obtain ⟨z, hz, _⟩ := key G.length (Nat.le_refl _)
 rw [List.take_length] at hz
 exact ⟨z, hz⟩
theorem Ar {nx : List Int} (h : nx.Nodup) (p k : Nat) : qf nx p k = if (p : Int) ∈ nx then [(k : Int)] else [] := by
 induction nx with
 | nil => rfl
 | cons x nx ih =>
  obtain ⟨h1, h2⟩ := List.nodup_cons.1 h
  have ih := ih h2
  unfold qf at ih ⊢
  by_cases e : x = (p : Int)
  ·subst e
   rw [if_pos aby]
   simp only [List.filter_cons, decide_true, if_true, List.map_cons]
   rw [ih, if_neg h1]
  ·have e' : (p : Int) ≠ x := fun h => e h.symm
   simp only [List.filter_cons, e, decide_false, Bool.false_eq_true, if_false]
   rw [ih]
   simp [e']
theorem Hs (c : Int → aZ) (L : List (Int × Int)) : (List.range (cJ c L).length).map (gA (cJ c L) (cJ c L).length []) = eG c L := by
 unfold eG
 rw [fL]
 apply List.map_congr_left
 intro p _
 unfold gA C8 kS
 have : qf [] p L.length = [] := rfl
 rw [this, List.append_nil]
 have key : ∀ m, m ≤ L.length → (List.range m).flatMap (fun b => qf ((cJ c L).getD b ⟨0, 0, []⟩).nx p b) = ((List.range m).filter (fun b => decide ((p : Int) ∈ eA c L b))).map (fun (b : Nat) => (b : Int)) := by
  intro m
  induction m with
  | zero => intro _; rfl
  | succ m ih =>
   intro hm
   rw [List.range_succ, List.flatMap_append, List.filter_append, List.map_append, ih abo]
   congr 1
   have e : (cJ c L).getD m ⟨0, 0, []⟩ = ⟨(L[m]).1, (L[m]).2, eA c L m⟩ := by simp [List.getD, jC c L (show m < L.length by omega)]
   simp only [List.flatMap_cons, List.flatMap_nil, List.append_nil, e]
   rw [Ar (show (eA c L m).Nodup from uF _ _)]
   by_cases hp : (p : Int) ∈ eA c L m
   ·rw [if_pos hp]; simp [hp]
   ·rw [if_neg hp]; simp [hp]
 exact key L.length (Nat.le_refl _)
theorem fN.valid (h : fN c st en D L) (hst : st ∈ D) : pP (cJ c L) (eG c L) := by
 have hn0 : L ≠ [] := h.b.ne hst acm
 refine ⟨fun e => hn0 ?_, by simp [eG, cJ], ?_, Hs c L⟩
 ·have := congrArg List.length e
  rw [fL] at this
  exact List.length_eq_zero_iff.1 this
 ·rw [fL]
  refine MA (fun k x hx => ?_) (fun x hx => ?_) (fun k x y hx hy => ?_)
  ·have hk : k < L.length := by have := (List.getElem?_eq_some_iff.1 hx).1; rwa [fL] at this
   rw [jC c L hk] at hx
   cases hx
   refine ⟨(h.b.lo _ (List.getElem_mem hk)).2.1, Nat.le_trans (vM _ _) (jt _ _), h.next hk, uF _ _⟩
  ·have hk : 0 < L.length := by have := (List.getElem?_eq_some_iff.1 hx).1; rwa [fL] at this
   rw [jC c L hk] at hx
   cases hx
   have := (h.b.lo _ (List.getElem_mem hk)).1
   have := h.st0
   simp only
   omega
  ·have hk : k + 1 < L.length := by have := (List.getElem?_eq_some_iff.1 hy).1; rwa [fL] at this
   rw [jC c L abo] at hx
   rw [jC c L hk] at hy
   cases hx
   cases hy
   exact List.pairwise_iff_getElem.1 h.b.vL k (k + 1) abo hk abo
end
section
variable {c : Int → aZ} {st en : Int} {D : List Int} {L : List (Int × Int)}
structure LU (c : Int → aZ) (st : Int) (D : List Int) (x : Int) : Prop where
 ne : x ≠ st
 before : x - 1 ∈ D
 br : fo (c (x - 1)).op = false
 halt : (c (x - 1)).op ≠ 1
 unlock : (c (x - 1)).op ≠ 29
 lock : (c x).op ≠ 28
theorem fN.inner (h : fN c st en D L) {x : Int} (hx : x ∈ D) (hl : oh c st D x = false) : LU c st D x := by
 have hnl : ¬ tZ c st D x := fun hh => by rw [(iZ c st D x).2 hh] at hl; cases hl
 have V5 : x ≠ st := fun e => hnl (.inl e)
 have key : ∃ a, a ∈ D ∧ x ∈ cz (c a) a := by
  have := (h.mem x).1 hx
  cases this with
  | start => exact absurd rfl V5
  | step h1 h2 h3 h4 => exact ⟨_, (h.mem _).2 h1, h2⟩
 obtain ⟨a, ha, hs⟩ := key
 have hbr : fo (c a).op = false := by
  rcases hb : fo (c a).op
  ·rfl
  ·exact absurd (.inr ⟨a, ha, by unfold eB; rw [if_pos hb]; exact hs⟩) hnl
 have YM : (c a).op ≠ 1 ∧ x = a + 1 := by
  unfold cz at hs
  unfold fo at hbr
  split at hs
  ·cases hs
  ·rename_i h1
   refine ⟨h1, ?_⟩
   split at hs
   ·rename_i h2; simp [h2] at hbr
   ·split at hs
    ·rename_i h2; rcases h2 with h2 | h2 <;> simp [h2] at hbr
    ·simpa using hs
 obtain ⟨h1, rfl⟩ := YM
 have e : a + 1 - 1 = a := by omega
 refine ⟨V5, by rw [e]; exact ha, by rw [e]; exact hbr, by rw [e]; exact h1, ?_, fun h28 => ?_⟩
 ·rw [e]
  intro h29
  exact hnl (.inr ⟨a, ha, by unfold eB; rw [if_neg (by simp [hbr]), if_neg abo, if_pos h29]; simp⟩)
 ·refine hnl (.inr ⟨a + 1, hx, ?_⟩)
  have hb2 : fo (c (a + 1)).op = false := by simp [fo, h28]
  unfold eB
  rw [if_neg (by simp [hb2]), if_pos h28]
  simp
theorem mo (hg : ∀ x ∈ D, oh c st D x = false → x ≠ st ∧ x - 1 ∈ D) : ∀ m : Nat, (∀ p ∈ blk c st D m, ∀ x, p.1 < x → x < p.2 → x ∈ D ∧ oh c st D x = false) ∧ (0 < m → st + (m : Int) - 1 ∈ D → ∃ M a, blk c st D m = M ++ [(a, st + (m : Int))])
 | 0 => ⟨by simp [blk], fun h => by omega⟩
 | m + 1 => by
  obtain ⟨i1, i2⟩ := mo hg m
  have e0 : st + ((m + 1 : Nat) : Int) - 1 = st + m := by omega
  have e1 : st + ((m + 1 : Nat) : Int) = st + m + 1 := by omega
  rw [e0, e1]
  unfold blk
  by_cases hD : st + (m : Int) ∈ D
  ·rw [if_pos hD]
   by_cases hl : oh c st D (st + m) = true
   ·rw [if_pos hl]
    refine ⟨fun p hp x h1 h2 => ?_, fun _ _ => ⟨_, _, rfl⟩⟩
    rcases List.mem_append.1 hp with hp | hp
    ·exact i1 p hp x h1 h2
    ·simp at hp; subst hp; simp only at h1 h2; omega
   ·have hl' : oh c st D (st + m) = false := by simpa using hl
    rw [if_neg hl]
    obtain ⟨hn, hb⟩ := hg _ hD hl'
    have hm : 0 < m := by
     rcases Nat.eq_zero_or_pos m with e | e
     ·subst e; simp at hn
     ·exact e
    obtain ⟨M, a, hM⟩ := i2 hm hb
    rw [hM, iy]
    refine ⟨fun p hp x h1 h2 => ?_, fun _ _ => ⟨_, _, rfl⟩⟩
    rcases List.mem_append.1 hp with hp | hp
    ·exact i1 p (by rw [hM]; simp [hp]) x h1 h2
    ·simp at hp; subst hp
     simp only at h1 h2
     by_cases ex : x = st + m
     ·rw [ex]; exact ⟨hD, hl'⟩
     ·exact i1 (a, st + m) (by rw [hM]; simp) x h1 abQ
  ·rw [if_neg hD]
   exact ⟨i1, fun _ h => absurd h hD⟩
theorem qO {a t : Int} (hbr : fo (c a).op = false) (hs : t ∈ cz (c a) a) : t = a + 1 ∧ (c a).op ≠ 1 := by
 unfold cz at hs
 unfold fo at hbr
 split at hs
 ·cases hs
 ·rename_i h1
  refine ⟨?_, h1⟩
  split at hs
  ·rename_i h2; simp [h2] at hbr
  ·split at hs
   ·rename_i h2; rcases h2 with h2 | h2 <;> simp [h2] at hbr
   ·simpa using hs
theorem uV (hg : ∀ x ∈ D, oh c st D x = false → x ≠ st ∧ x - 1 ∈ D) : ∀ m : Nat, ∀ a ∈ D, st ≤ a → a < st + (m : Int) → ∃ p ∈ blk c st D m, p.1 ≤ a ∧ a < p.2
 | 0, a, _, h1, h2 => by omega
 | m + 1, a, ha, h1, h2 => by
  have ih := uV hg m
  unfold blk
  by_cases hD : st + (m : Int) ∈ D
  ·rw [if_pos hD]
   by_cases hl : oh c st D (st + m) = true
   ·rw [if_pos hl]
    by_cases e : a = st + m
    ·exact ⟨(st + m, st + m + 1), by simp, by simp only; omega, by simp only; omega⟩
    ·obtain ⟨p, hp, q⟩ := ih a ha h1 abo
     exact ⟨p, by simp [hp], q⟩
   ·have hl' : oh c st D (st + m) = false := by simpa using hl
    rw [if_neg hl]
    obtain ⟨hn, hb⟩ := hg _ hD hl'
    have hm : 0 < m := by
     rcases Nat.eq_zero_or_pos m with e | e
     ·subst e; simp at hn
     ·exact e
    obtain ⟨M, a', hM⟩ := (mo hg m).2 hm hb
    have hlo := (oB c st D m).lo (a', st + m) (by rw [hM]; simp)
    rw [hM, iy]
    by_cases e : a = st + m
    ·exact ⟨(a', st + m + 1), by simp, by simp only at hlo ⊢; omega, by simp only; omega⟩
    ·obtain ⟨p, hp, q1, q2⟩ := ih a ha h1 abo
     rw [hM] at hp
     rcases List.mem_append.1 hp with hp | hp
     ·exact ⟨p, by simp [hp], q1, q2⟩
     ·simp at hp; subst hp
      exact ⟨(a', st + m + 1), by simp, q1, by simp only at q2 ⊢; omega⟩
  ·rw [if_neg hD]
   by_cases e : a = st + m
   ·rw [e] at ha; exact absurd ha hD
   ·exact ih a ha h1 abo
theorem fN.Tp (h : fN c st en D (blk c st D (en - st).toNat)) {p : Int × Int} (hp : p ∈ blk c st D (en - st).toNat) {x : Int} (h1 : p.1 < x) (h2 : x < p.2) : x ∈ D ∧ oh c st D x = false :=
 (mo (c := c) (st := st) (D := D) (fun x hx hl => ⟨(h.inner hx hl).ne, (h.inner hx hl).before⟩) (en - st).toNat).1 p hp x h1 h2
theorem fN.cover (h : fN c st en D (blk c st D (en - st).toNat)) {a : Int} (ha : a ∈ D) : ∃ p ∈ blk c st D (en - st).toNat, p.1 ≤ a ∧ a < p.2 := by
 have hr := h.range ha
 exact uV (c := c) (st := st) (D := D) (fun x hx hl => ⟨(h.inner hx hl).ne, (h.inner hx hl).before⟩) _ a ha hr.1 abo
theorem fN.bH (h : fN c st en D (blk c st D (en - st).toNat)) {p : Int × Int} (hp : p ∈ blk c st D (en - st).toNat) {x : Int} (h1 : p.1 < x) (h2 : x < p.2) : x ∈ D ∧ LU c st D x := by
 obtain ⟨a, b⟩ := (mo (c := c) (st := st) (D := D) (fun x hx hl => ⟨(h.inner hx hl).ne, (h.inner hx hl).before⟩) (en - st).toNat).1 p hp x h1 h2
 exact ⟨a, h.inner a b⟩
theorem fN.uniq (h : fN c st en D L) {i j : Nat} (hi : i < L.length) (hj : j < L.length) (e : (L[i]).1 = (L[j]).1) : i = j := by
 rcases Nat.lt_trichotomy i j with hlt | rfl | hlt
 ·have := List.pairwise_iff_getElem.1 h.b.vL i j hi hj hlt
  have := (h.b.lo _ (List.getElem_mem hi)).2.1
  omega
 ·rfl
 ·have := List.pairwise_iff_getElem.1 h.b.vL j i hj hi hlt
  have := (h.b.lo _ (List.getElem_mem hj)).2.1
  omega
theorem MN (h : fN c st en D L) {i : Nat} (hi : i < L.length) : idx L (L[i]).1 = i := by
 obtain ⟨_, h2, h3⟩ := rJ (L := L) (x := (L[i]).1) ⟨L[i], List.getElem_mem hi, rfl⟩
 have e : L.getD (idx L (L[i]).1) (0, 0) = L[idx L (L[i]).1] := by simp [List.getD, List.getElem?_eq_getElem h2]
 rw [e] at h3
 exact h.uniq h2 hi h3
theorem fN.first (h : fN c st en D L) (hst : st ∈ D) (h0 : 0 < L.length) : (L[0]).1 = st := by
 obtain ⟨q, hq, e⟩ := h.b.num st (Int.le_refl _) acm hst (zM c st D)
 obtain ⟨j, hj, ej⟩ := List.getElem_of_mem hq
 rcases Nat.eq_zero_or_pos j with e0 | e0
 ·subst e0; rw [ej]; exact e
 ·have := List.pairwise_iff_getElem.1 h.b.vL 0 j h0 hj e0
  have := (h.b.lo _ (List.getElem_mem h0))
  rw [ej] at *
  omega
end
theorem fN.reached {c : Int → aZ} {st en : Int} {D : List Int} {L : List (Int × Int)} (hL : blk c st D (en - st).toNat = L) (h : fN c st en D L) (hst : st ∈ D) : ∀ i, i < (cJ c L).length → GR (cJ c L) i := by
 have h' : fN c st en D (blk c st D (en - st).toNat) := by rw [hL]; exact h
 have hn0 : 0 < L.length := List.length_pos_iff.2 (h.b.ne hst acm)
 have key : ∀ a, pQ c st en a → ∀ i (hi : i < L.length), (L[i]).1 ≤ a → a < (L[i]).2 → GR (cJ c L) i := by
  intro a ha
  induction ha with
  | start =>
   intro i hi h1 h2
   have l0 := h.first hst hn0
   have li := h.b.lo _ (List.getElem_mem hi)
   have : i = 0 := h.uniq hi hn0 abo
   subst this
   exact GR.start
  | @step a t h1 h2 h3 h4 ih =>
   intro i hi hl hu
   have Oe := (h.mem a).2 h1
   by_cases M4 : t = (L[i]).1
   ·-- the block of a
    obtain ⟨k, hk, hka, hkb⟩ : ∃ (k : Nat) (hk : k < L.length), (L[k]).1 ≤ a ∧ a < (L[k]).2 := by
     obtain ⟨p, hp, q1, q2⟩ := h'.cover Oe
     rw [hL] at hp
     obtain ⟨k, hk, ek⟩ := List.getElem_of_mem hp
     exact ⟨k, hk, by rw [ek]; exact q1, by rw [ek]; exact q2⟩
    have hg := ih k hk hka hkb
    by_cases fV : a = (L[k]).2 - 1
    ·refine GR.step hg (jC c L hk) ?_
     simp only
     unfold eA
     rw [Bd]
     refine ⟨t, ?_, by rw [M4, MN h hi]⟩
     unfold iH
     have e1 : L.getD k (0, 0) = L[k] := by simp [List.getD, List.getElem?_eq_getElem hk]
     rw [e1, ← fV]
     exact h2
    ·exfalso
     have hin := h'.bH (p := L[k]) (by rw [hL]; exact List.getElem_mem hk) (x := a + 1) abo abo
     have hb := hin.2.br
     rw [show a + 1 - 1 = a by omega] at hb
     have ht := (qO hb h2).1
     rcases Nat.lt_trichotomy i k with hlt | rfl | hlt
     ·have := List.pairwise_iff_getElem.1 h.b.vL i k hi hk hlt
      have := (h.b.lo _ (List.getElem_mem hi)).2.1
      omega
     ·omega
     ·have := List.pairwise_iff_getElem.1 h.b.vL k i hk hi hlt
      omega
   ·obtain ⟨YY, Pu⟩ := h'.Tp (p := L[i]) (by rw [hL]; exact List.getElem_mem hi) (x := t) abo hu
    have hbr : fo (c a).op = false := by
     rcases hb : fo (c a).op
     ·rfl
     ·have : oh c st D t = true := (iZ c st D t).2 (.inr ⟨a, Oe, by unfold eB; rw [if_pos hb]; exact h2⟩)
      rw [this] at Pu; cases Pu
    have ht := (qO hbr h2).1
    exact ih i hi abo abo
 intro i hi
 rw [fL] at hi
 have YV := h.b.lead _ (List.getElem_mem hi)
 have hlo := h.b.lo _ (List.getElem_mem hi)
 exact key _ ((h.mem _).1 YV.1) i hi (Int.le_refl _) hlo.2.1
section
variable {c c' : Int → aZ} {st en : Int}
theorem uw (hlt : st < en) (h : ∀ a, st ≤ a → a < en → c a = c' a) {a : Int} (ha : pQ c st en a) : pQ c' st en a := by
 induction ha with
 | start => exact .start
 | step h1 h2 h3 h4 ih =>
  have hr := h1.range _ _ _ hlt
  exact .step ih (by rw [← h _ hr.1 hr.2]; exact h2) h3 h4
theorem JE (hlt : st < en) (h : ∀ a, st ≤ a → a < en → c a = c' a) (a : Int) : pQ c st en a ↔ pQ c' st en a :=
 ⟨uw hlt h, uw hlt (fun a h1 h2 => (h a h1 h2).symm)⟩
theorem AD (h : ∀ a, st ≤ a → a < en → c a = c' a) {a : Int} (h1 : st ≤ a) (h2 : a < en) : qq c st en a ↔ qq c' st en a := by
 unfold qq
 rw [h a h1 h2]
theorem fU.same {D D' : List Int} {bad Qj : Int} (h0 : 0 ≤ st) (hlt : st < en) (h : ∀ a, st ≤ a → a < en → c a = c' a) (hR : fU c st en D [] bad) (I9 : fU c' st en D' [] Qj) : (∀ x, x ∈ D ↔ x ∈ D') ∧ bad = Qj := by
 have hm : ∀ x, x ∈ D ↔ x ∈ D' := fun x => by rw [hR.mem hlt, I9.mem hlt, JE hlt h]
 have hb : ∀ x, x ∈ D → (qq c st en x ↔ qq c' st en x) := fun x hx => by
  have := (hR.dr x hx).range _ _ _ hlt
  exact AD h this.1 this.2
 refine ⟨hm, ?_⟩
 rcases hR.b with ⟨e, h1⟩ | ⟨e, h1, h2⟩ <;> rcases I9.b with ⟨e', h1'⟩ | ⟨e', h1', h2'⟩
 ·rw [e, e']
 ·exact absurd ((hb _ ((hm _).2 e')).2 h1') (h1 _ ((hm _).2 e'))
 ·exact absurd ((hb _ e).1 h1) (h1' _ ((hm _).1 e))
 ·have a1 := h2 _ ((hm _).2 e') ((hb _ ((hm _).2 e')).2 h1')
  have a2 := h2' _ ((hm _).1 e) ((hb _ e).1 h1)
  omega
theorem GH {D : List Int} (h : ∀ a ∈ D, c a = c' a) (x : Int) : oh c st D x = oh c' st D x := by
 unfold oh
 congr 1
 apply Bool.eq_iff_iff.2
 simp only [List.any_eq_true, decide_eq_true_eq]
 constructor
 ·rintro ⟨a, ha, hx⟩; exact ⟨a, ha, by rw [← h a ha]; exact hx⟩
 ·rintro ⟨a, ha, hx⟩; exact ⟨a, ha, by rw [h a ha]; exact hx⟩
theorem yo {D : List Int} (h : ∀ a ∈ D, c a = c' a) : ∀ m, blk c st D m = blk c' st D m
 | 0 => rfl
 | m + 1 => by
  unfold blk
  rw [yo h m, GH h]
theorem Ij {D D' : List Int} (hm : ∀ x, x ∈ D ↔ x ∈ D') (h : ∀ a ∈ D, c a = c' a) (m : Nat) : blk c st D m = blk c' st D' m := by
 rw [yo h m, pL c' st hm m]
theorem pY {L : List (Int × Int)} (h : ∀ p ∈ L, c (p.2 - 1) = c' (p.2 - 1)) {k : Nat} (hk : k < L.length) : eA c L k = eA c' L k := by
 unfold eA iH
 have e : L.getD k (0, 0) = L[k] := by simp [List.getD, List.getElem?_eq_getElem hk]
 rw [e, h _ (List.getElem_mem hk)]
theorem z6 {L : List (Int × Int)} (h : ∀ p ∈ L, c (p.2 - 1) = c' (p.2 - 1)) : cJ c L = cJ c' L := by
 unfold cJ
 apply List.map_congr_left
 intro k hk
 rw [pY h (List.mem_range.1 hk)]
theorem zZ {L : List (Int × Int)} (h : ∀ p ∈ L, c (p.2 - 1) = c' (p.2 - 1)) : eG c L = eG c' L := by
 unfold eG
 apply List.map_congr_left
 intro p hp
 unfold kS
 congr 1
 apply List.filter_congr
 intro b hb
 rw [pY h (List.mem_range.1 hb)]
end
structure Sg where
 G : List dL
 P : List (List Int)
 at_ : Int
 er : Int
inductive Out (c : Int → aZ) (st en : Int) : Sg → Prop
 | bad (D : List Int) (bad : Int) (h0 : 0 ≤ bad) (h : fU c st en D [] bad) : Out c st en ⟨[], [], bad, 10⟩
 | ok (D : List Int) (h : fU c st en D [] (-1)) : Out c st en ⟨cJ c (blk c st D (en - st).toNat), eG c (blk c st D (en - st).toNat), -1, 0⟩
theorem Out.same {c c' : Int → aZ} {st en : Int} {r r' : Sg} (h0 : 0 ≤ st) (hlt : st < en) (hc : ∀ a, st ≤ a → a < en → c a = c' a) (h : Out c st en r) (h' : Out c' st en r') : r = r' := by
 have J9 : ∀ (D D' : List Int) (b b' : Int), fU c st en D [] b → fU c' st en D' [] b' → (∀ x, x ∈ D ↔ x ∈ D') ∧ b = b' := fun D D' b b' h1 h2 => fU.same h0 hlt hc h1 h2
 cases h with
 | bad D b hb hR =>
  cases h' with
  | bad D' b' hb' I9 => rw [(J9 _ _ _ _ hR I9).2]
  | ok D' I9 => have := (J9 _ _ _ _ hR I9).2; omega
 | ok D hR =>
  cases h' with
  | bad D' b' hb' I9 => have := (J9 _ _ _ _ hR I9).2; omega
  | ok D' I9 =>
   obtain ⟨hm, _⟩ := J9 _ _ _ _ hR I9
   have hD : ∀ a ∈ D, c a = c' a := fun a ha => by
    have := (hR.dr a ha).range _ _ _ hlt
    exact hc a this.1 this.2
   rw [← Ij hm hD]
   have hL : ∀ p ∈ blk c st D (en - st).toNat, c (p.2 - 1) = c' (p.2 - 1) := fun p hp => hD _ ((oB c st D _).last p hp)
   rw [z6 hL, zZ hL]
theorem Er (cv ev : Value) (sh lk : Int) (n : Nat) (cd : Nat → Int) (aM : List nE) (k : Nat) (e : nE) (w : World) (T : iU w) (HW : Words w cv n cd) (HE : nD w ev aM) (hg : jf n cd aM sh lk) (he : aM[k]? = some e) :
  Calls Tryz.prog 19 #[.agg #[cv, ev, .int .i64 sh, .int .i64 lk], .int .i64 (k : Int)] w fun x w' => ∃ (r : Sg) (bv pv : Value), Out (aA cd) e.st e.en r ∧ x = .returned (.tuple #[.agg #[bv, pv], .int .i64 r.at_, .int .i64 r.er]) ∧ gh w' bv r.G ∧ tY w' pv r.P ∧ Below w.heap.size w w' := by
 have hk := (List.getElem?_eq_some_iff.1 he).1
 refine (Es cv ev sh lk n cd aM k w T HW HE).mono fun x w' h => ?_
 rcases h with ⟨h, _⟩ | ⟨_, h, _⟩ | ⟨_, k', en, D, bad, hk', he', hb, hR, hx, hbl⟩ | ⟨_, k', en, D, L, bv, pv, hk', he', hR, hL, hx, h1, h2, hbl⟩
 ·exact absurd hg h
 ·omega
 ·obtain rfl : k = k' := by omega
  rw [he] at he'
  cases he'
  exact ⟨_, _, _, .bad D bad hb hR, hx, ⟨none, 0, rfl, Nat.le_refl _, by unfold maxLen; omega, fun h => by simp at h⟩, ⟨none, 0, rfl, Nat.le_refl _, by unfold maxLen; omega, fun h => by simp at h⟩, hbl⟩
 ·obtain rfl : k = k' := by omega
  rw [he] at he'
  cases he'
  subst hL
  exact ⟨_, bv, pv, .ok D hR, hx, h1, h2, hbl⟩
end
end Go.Proofs.YtebklpnkcicpjaaGreatDoor
