/-
 What is proved here: what Build returns for an image that the linker accepts, told as one result that the instructions of the range determine.
-/
import Derived.Test.YtebklpnkcicpjaaDoorFbCb
import Derived.Test.YtebklpnkcicpjaaDoorFbCc
import Derived.Test.YtebklpnkcicpjaaDoorFbT
import Derived.ChangeSame
import Derived.ChangeVars
import Derived.JoinedOf
import Derived.RowKit
import Derived.Deep.Strs
namespace Go.Proofs.YtebklpnkcicpjaaDoor
open Go.RowKit
set_option linter.unusedVariables false
set_option linter.unusedSimpArgs false

structure OkB (n : Nat) (e : Int) (x : Blk) : Prop where
 lo : e ≤ x.lo
 hi : x.lo < x.hi
 two : x.nx.length ≤ 2
 nx : ∀ t ∈ x.nx, 0 ≤ t ∧ t < n
 ne : ¬ (x.nx.length = 2 ∧ x.nx.getD 0 0 = x.nx.getD 1 0)
def okL (n : Nat) : Int → List Blk → Int → Prop
 | a, [], z => a = z
 | a, x :: xs, z => OkB n a x ∧ okL n x.hi xs z
theorem okL.append {n : Nat} {l2 : List Blk} : ∀ {l1 : List Blk} {a z : Int}, okL n a (l1 ++ l2) z ↔ ∃ m, okL n a l1 m ∧ okL n m l2 z
 | [], a, z => ⟨fun h => ⟨a, rfl, h⟩, fun ⟨m, h1, h2⟩ => by cases h1; exact h2⟩
 | e :: l1, a, z => by
  constructor
  ·rintro ⟨h1, h3⟩
   obtain ⟨m, h4, h5⟩ := okL.append.1 h3
   exact ⟨m, ⟨h1, h4⟩, h5⟩
  ·rintro ⟨m, ⟨h1, h3⟩, h4⟩
   exact ⟨h1, okL.append.2 ⟨m, h3, h4⟩⟩
theorem okL.det {n : Nat} : ∀ {l : List Blk} {a z z' : Int}, okL n a l z → okL n a l z' → z = z'
 | [], a, z, z', h, h' => by cases h; exact h'
 | e :: l, a, z, z', h, h' => okL.det h.2 h'.2
theorem okL.snoc {n : Nat} {l : List Blk} {x : Blk} {a m : Int} (h : okL n a l m) (h1 : OkB n m x) : okL n a (l ++ [x]) x.hi := okL.append.2 ⟨m, h, h1, rfl⟩
theorem okL.no {n : Nat} {G : List Blk} {k : Nat} {x : Blk} {m : Int} (hx : G[k]? = some x) (h : okL n 0 (G.take k) m) (hno : ¬ OkB n m x) : ∀ z, ¬ okL n 0 G z := by
 intro z hz
 have hk : k < G.length := (List.getElem?_eq_some_iff.1 hx).1
 have e1 : G = G.take k ++ (x :: G.drop (k + 1)) := by
  have := List.take_append_drop k G
  rw [List.drop_eq_getElem_cons hk] at this
  have e2 : G[k] = x := by rw [List.getElem?_eq_getElem hk] at hx; exact Option.some.inj hx
  rw [e2] at this
  exact this.symm
 rw [e1] at hz
 obtain ⟨m', h1, h2⟩ := okL.append.1 hz
 have := okL.det h h1
 subst this
 exact hno h2.1
structure ValidG (G : List Blk) (P : List (List Int)) : Prop where
 ne : G ≠ []
 len : P.length = G.length
 ok : ∃ z, okL G.length 0 G z
 prev : (List.range G.length).map (prvAt G G.length []) = P

theorem Blks.slice {w : World} {v : Value} {G : List Blk} (h : Blks w v G) : ∃ A cap, v = .slice A G.length cap ∧ G.length ≤ cap ∧ cap ≤ 2 ^ 63 - 1 := by
 obtain ⟨A, cap, h1, h2, h3, _⟩ := h
 unfold maxLen at h3
 exact ⟨A, cap, h1, h2, h3⟩
theorem Blks.at_ {w wr : World} {A : Option Addr} {cap : Nat} {G : List Blk} (h : Blks w (.slice A G.length cap) G) (hb : Below w.heap.size w wr) {j : Nat} (hj : j < G.length) :
  ∃ x nv b off, G[j]? = some x ∧ A = some ⟨b, off, none⟩ ∧ b < w.heap.size ∧ wr.cell? ⟨b, off + j * 3, none⟩ = some (.int .i64 x.lo) ∧ wr.cell? ⟨b, off + j * 3 + 1, none⟩ = some (.int .i64 x.hi) ∧ wr.cell? ⟨b, off + j * 3 + 2, none⟩ = some nv ∧ Ints w nv x.nx := by
 obtain ⟨A', cap', hv, _, _, h4⟩ := h
 cases hv
 obtain ⟨b, off, rfl, hlt, hc⟩ := h4 (by omega)
 obtain ⟨c0, c1, nv, c2, c3⟩ := hc j _ (List.getElem?_eq_getElem hj)
 exact ⟨G[j], nv, b, off, List.getElem?_eq_getElem hj, rfl, hlt, (hb.cell (p := ⟨b, _, none⟩) hlt).trans c0, (hb.cell (p := ⟨b, _, none⟩) hlt).trans c1, (hb.cell (p := ⟨b, _, none⟩) hlt).trans c2, c3⟩
theorem Ints.slice {w : World} {v : Value} {l : List Int} (h : Ints w v l) : ∃ A cap, v = .slice A l.length cap ∧ l.length ≤ cap ∧ cap ≤ 2 ^ 63 - 1 := by
 obtain ⟨A, cap, h1, h2, h3, _⟩ := h
 unfold maxLen at h3
 exact ⟨A, cap, h1, h2, h3⟩
theorem Ints.at_ {w wr : World} {A : Option Addr} {cap : Nat} {l : List Int} (h : Ints w (.slice A l.length cap) l) (hb : Below w.heap.size w wr) {j : Nat} (hj : j < l.length) :
  ∃ s b off, l[j]? = some s ∧ A = some ⟨b, off, none⟩ ∧ b < w.heap.size ∧ wr.cell? ⟨b, off + j, none⟩ = some (.int .i64 s) := by
 obtain ⟨A', cap', hv, _, _, h4⟩ := h
 cases hv
 obtain ⟨b, off, rfl, hlt, hc⟩ := h4 (by omega)
 refine ⟨l[j], b, off, List.getElem?_eq_getElem hj, rfl, hlt, ?_⟩
 rw [hb.cell (p := ⟨b, _, none⟩) hlt, hc j hj]
 simp [List.getD, List.getElem?_eq_getElem hj]
theorem own_box {w : World} {q B s n : Nat} {cs : Array Value} {t e : TypeId} {fr : Nat × Nat} {v : Value} {xs : List Value} (hq : w.heap[q]? = some (.cells cs t fr)) (h : w.ownsRow B e s v n xs) (hne : t ≠ e) : some q ≠ v.ownBlock := by
 intro e1
 rcases h.2 with ⟨rfl, _⟩ | ⟨g, cap, cur, rfl, _, hg, _⟩
 ·cases e1
 ·simp [Value.ownBlock] at e1
  subst e1
  rw [hq] at hg
  cases hg
  exact hne rfl

set_option maxHeartbeats 4000000 in
set_option maxRecDepth 20000 in
theorem valid_any' (bv pv : Value) (G : List Blk) (P : List (List Int)) (w : World) (HG : Blks w bv G) (HP : Lls w pv P) (hn : G.length ≤ 5000) (hnx : ∀ x ∈ G, x.nx.length ≤ 5000) :
  Calls Tryd.prog 41 #[.agg #[bv, pv]] w fun e w' => (∃ r : Bool, e = .returned (.bool r) ∧ (r = true ↔ ValidG G P)) ∧ Below w.heap.size w w' := by
 obtain ⟨A, cap, rfl, hc1, hc2⟩ := HG.slice
 obtain ⟨PA, pcap, rfl, hp1, hp2⟩ := HP.slice
 have HGH := Lib.hid HG
 have HPH := Lib.hid HP
 have HNX := Lib.hid hnx
 clear HG HP hnx
 obtain ⟨V0, hV0⟩ : ∃ V0, w.alloc (.cells #[.slice A G.length cap, .slice PA P.length pcap] 48) = V0 := ⟨_, rfl⟩
 have b0 : Below w.heap.size w V0 := hV0 ▸ (Below.refl _ _).alloc (Nat.le_refl _) _
 have s0 : w.heap.size < V0.heap.size := by rw [← hV0]; simp
 have k0 : V0.heap[w.heap.size]? = some (.cells #[.slice A G.length cap, .slice PA P.length pcap] 48) := by rw [← hV0]; exact heap_alloc_new _ _
 have y0 : V0.cell? ⟨w.heap.size, 0, none⟩ = some (.slice A G.length cap) := by simp [World.cell?, k0]
 have y1 : V0.cell? ⟨w.heap.size, 1, none⟩ = some (.slice PA P.length pcap) := by simp [World.cell?, k0]
 have K0 := Lib.hid k0
 have B0 := Lib.hid b0
 clear k0 b0
 go_enter Tryd.func41, Tryd.ntmps41
 by_cases q1 : G.length = 0
 ·have d1 : ((G.length : Int) == 0) = true := by simp [q1]
  have HQ := Lib.hid q1
  clear q1
  go_wp2_with fail
  go_ret
  exact ⟨⟨false, rfl, by simp; intro h; exact h.ne (List.length_eq_zero_iff.1 HQ.out)⟩, B0.out⟩
 have d1 : ((G.length : Int) == 0) = false := beq_eq_false_iff_ne.2 (by omega)
 by_cases q2 : P.length = G.length
 case neg =>
  have d2 : ((P.length : Int) != (G.length : Int)) = true := by simp; omega
  have HQ := Lib.hid q2
  clear q2
  go_wp2_with fail
  go_ret
  exact ⟨⟨false, rfl, by simp; intro h; exact HQ.out h.len⟩, B0.out⟩
 have d2 : ((P.length : Int) != (G.length : Int)) = false := by simp; omega
 have HQ1 := Lib.hid q1
 have HQ2 := Lib.hid q2
 have hn0 : 0 < G.length := by omega
 clear q1 q2
 obtain ⟨i2, hi2, hs0, hs1, hs2⟩ := info_parts infoS
 obtain ⟨U1, lm, rowP, gr1⟩ := run_make_full (P := Tryd.prog) V0 V0.heap.size 46 62 i2 (.slice none 0 0) 1 Tryd.underlying46 hi2 hs0 hs1 .i64 .i64 G.length (by rw [hs2]; omega) (by unfold maxLen; omega) (Nat.le_refl _)
 rw [Nat.mul_one, show (Value.slice none 0 0).cells = #[Value.slice none 0 0] from rfl, toList_madeCells_one] at rowP
 have HPM := Lib.hid (PM.made gr1 (Below.refl _ _) rowP)
 have u0 : U1.cell? ⟨w.heap.size, 0, none⟩ = some (.slice A G.length cap) := by rw [HPM.out.bel.cell (p := ⟨w.heap.size, 0, none⟩) s0]; exact y0
 clear rowP gr1
 go_upto_region 6 with fail
 obtain ⟨pg, hpg⟩ : ∃ pg, V0.heap.size = pg := ⟨_, rfl⟩
 rw [hpg] at HPM ⊢
 clear hV0 lm u0 d1 d2 hpg
 rw [← prvAt_zero G] at HPM
 go_loopw [4, 5, 6, 8, 29] (fun a4 a5 a6 a8 a29 wr => ∃ (k : Nat) (e : Int) (val : Nat → Value), k ≤ G.length ∧ a29 = .int .i64 (k : Int) ∧ a4 = .int .i64 e ∧ okL G.length 0 (G.take k) e ∧ PM V0 wr pg G.length val (prvAt G k [])) (fun _ _ _ _ a29 _ => G.length - (intOf a29).toNat)
 case atStart => exact ⟨0, 0, _, Nat.zero_le _, rfl, rfl, rfl, HPM.out⟩
 case round =>
  obtain ⟨k, e, val, hk, rfl, rfl, hok, hPM⟩ := hrel
  clear HPM
  have HOK := Lib.hid hok
  have HM := Lib.hid hPM
  have BW := Lib.hid (B0.out.trans (hPM.bel.mono (by omega)))
  have sB := hPM.bel.size
  clear hok hPM
  by_cases hlt : k < G.length
  ·obtain ⟨x, nv, b, off, hx, rfl, hbl, c0, c1, c2, hI⟩ := HGH.out.at_ BW.out hlt
   obtain ⟨NA, ncap, rfl, hn1, hn2⟩ := hI.slice
   have HI := Lib.hid hI
   have HX := Lib.hid hx
   have HXM := Lib.hid (List.mem_of_getElem? hx)
   have hxl := HNX.out x HXM.out
   have HNO := Lib.hid (show ¬ OkB G.length e x → ∀ z, ¬ okL G.length 0 G z from fun h => okL.no hx HOK.out h)
   have dl : decide ((k : Int) < (G.length : Int)) = true := by simpa using hlt
   clear hx hI
   by_cases q3 : e ≤ x.lo
   case neg =>
    have d3 : decide (x.lo < e) = true := by simp; omega
    have HQ := Lib.hid (HNO.out (fun h => q3 h.lo))
    clear q3
    go_wp2_with fail
    go_ret
    exact ⟨⟨false, rfl, by simp; intro h; obtain ⟨z, hz⟩ := h.ok; exact HQ.out z hz⟩, BW.out.alloc (by omega) _⟩
   have d3 : decide (x.lo < e) = false := by simp; omega
   by_cases q4 : x.lo < x.hi
   case neg =>
    have d4 : decide (x.hi ≤ x.lo) = true := by simp; omega
    have HQ := Lib.hid (HNO.out (fun h => q4 h.hi))
    clear q4 q3
    go_wp2_with fail
    go_ret
    exact ⟨⟨false, rfl, by simp; intro h; obtain ⟨z, hz⟩ := h.ok; exact HQ.out z hz⟩, BW.out.alloc (by omega) _⟩
   have d4 : decide (x.hi ≤ x.lo) = false := by simp; omega
   by_cases q5 : x.nx.length ≤ 2
   case neg =>
    have d5 : decide ((2 : Int) < (x.nx.length : Int)) = true := by simp; omega
    have HQ := Lib.hid (HNO.out (fun h => q5 h.two))
    clear q5 q4 q3
    go_wp2_with fail
    go_ret
    exact ⟨⟨false, rfl, by simp; intro h; obtain ⟨z, hz⟩ := h.ok; exact HQ.out z hz⟩, BW.out.alloc (by omega) _⟩
   have d5 : decide ((2 : Int) < (x.nx.length : Int)) = false := by simp; omega
   go_upto_region 12 with fail
   obtain ⟨X, hX⟩ : ∃ X, wr.alloc (.cells #[.int .i64 x.lo, .int .i64 x.hi, .slice NA x.nx.length ncap] 64) = X := ⟨_, rfl⟩
   have kX : X.heap[wr.heap.size]? = some (.cells #[.int .i64 x.lo, .int .i64 x.hi, .slice NA x.nx.length ncap] 64) := hX ▸ heap_alloc_new _ _
   have HMX := Lib.hid (hX ▸ HM.out.below ((Below.refl _ _).alloc (Nat.le_refl _) _))
   have sX : wr.heap.size < X.heap.size := by rw [← hX]; simp
   rw [hX]
   obtain ⟨q, hq⟩ : ∃ q, wr.heap.size = q := ⟨_, rfl⟩
   rw [hq] at kX sX ⊢
   have KX := Lib.hid kX
   have HQ345 := Lib.hid (And.intro q3 (And.intro q4 q5))
   clear kX hX c0 c1 c2 d3 d4 d5 dl q3 q4 HM BW hq
   obtain ⟨iI, hiI, hI0, hI1, hI2⟩ := info_parts infoI
   obtain ⟨wo, rfl⟩ : ∃ wo : World, wo = wr := ⟨_, rfl⟩
   go_loopw [8, 56] (fun a8 a56 wr => ∃ (j : Nat) (val : Nat → Value), j ≤ x.nx.length ∧ a56 = .int .i64 (j : Int) ∧ (∀ t ∈ x.nx.take j, 0 ≤ t ∧ t < (G.length : Int)) ∧ wr.heap[q]? = some (.cells #[.int .i64 x.lo, .int .i64 x.hi, .slice NA x.nx.length ncap] 64) ∧ PM V0 wr pg G.length val (prvAt G k (x.nx.take j))) (fun _ a56 _ => x.nx.length - (intOf a56).toNat)
   case atStart => exact ⟨0, val, Nat.zero_le _, rfl, by simp, KX.out, HMX.out⟩
   case round =>
    clear HMX KX val
    obtain ⟨j, val, hj, rfl, hin, hbx, hPM⟩ := hrel
    have HIN := Lib.hid hin
    have HBX := Lib.hid hbx
    have HM := Lib.hid hPM
    have BW := Lib.hid (B0.out.trans (hPM.bel.mono (by omega)))
    have sB2 := hPM.bel.size
    have hrg := hPM.rg
    have z0 : wr.cell? ⟨w.heap.size, 0, none⟩ = some (.slice (some ⟨b, off, none⟩) G.length cap) := by rw [hPM.bel.cell (p := ⟨w.heap.size, 0, none⟩) s0]; exact y0
    have v2 : wr.cell? ⟨q, 2, none⟩ = some (.slice NA x.nx.length ncap) := by simp [World.cell?, hbx]
    clear hin hbx hPM
    by_cases hjl : j < x.nx.length
    ·obtain ⟨s, nb, noff, hs, rfl, hnb, x1⟩ := HI.out.at_ BW.out hjl
     have HS := Lib.hid (take_snoc hs)
     have HSM := Lib.hid (List.mem_of_getElem? hs)
     have dl : decide ((j : Int) < (x.nx.length : Int)) = true := by simpa using hjl
     clear hs
     by_cases q6 : 0 ≤ s
     case neg =>
      have d6 : decide (s < 0) = true := decide_eq_true (by omega)
      have HQ := Lib.hid (HNO.out (fun h => q6 (h.nx s HSM.out).1))
      clear q6
      go_wp2_with fail
      go_ret
      exact ⟨⟨false, rfl, by simp; intro h; obtain ⟨z, hz⟩ := h.ok; exact HQ.out z hz⟩, BW.out⟩
     have d6 : decide (s < 0) = false := decide_eq_false (by omega)
     by_cases q7 : s < (G.length : Int)
     case neg =>
      have d7 : decide ((G.length : Int) ≤ s) = true := decide_eq_true (by omega)
      have HQ := Lib.hid (HNO.out (fun h => q7 (h.nx s HSM.out).2))
      clear q7 q6
      go_wp2_with fail
      go_ret
      exact ⟨⟨false, rfl, by simp; intro h; obtain ⟨z, hz⟩ := h.ok; exact HQ.out z hz⟩, BW.out⟩
     have d7 : decide ((G.length : Int) ≤ s) = false := decide_eq_false (by omega)
     obtain ⟨p, rfl⟩ : ∃ p : Nat, s = (p : Int) := ⟨s.toNat, by omega⟩
     have hp : p < G.length := by omega
     obtain ⟨t1, t2⟩ := HM.out.cells hp
     have hop := HM.out.own p hp
     obtain ⟨pl, hpl⟩ : ∃ pl, prvAt G k (x.nx.take j) p = pl := ⟨_, rfl⟩
     have hpll : pl.length ≤ 30000000 := by
      rw [← hpl]
      have := prvAt_len G HNX.out k (by omega) (x.nx.take j) p
      have h2 : (x.nx.take j).length ≤ 2 := by simp; omega
      omega
     rw [hpl] at hop
     obtain ⟨pA, pcap2, hvp⟩ : ∃ pA pcap2, val p = .slice pA pl.length pcap2 := by
      rcases hop.2 with ⟨h, h'⟩ | ⟨g, cap', cur, h, _⟩
      ·exact ⟨_, _, by rw [h, h']⟩
      ·exact ⟨_, _, h⟩
     have HVP := Lib.hid hvp
     have HPL := Lib.hid hpl
     have HNp := Lib.hid (show some pg ≠ Value.ownBlock (.slice pA pl.length pcap2) from fun e' => by
      rw [← hvp] at e'
      exact own_ne hop HM.out.prow (by decide) pg e'.symm rfl)
     have HNq := Lib.hid (show some q ≠ Value.ownBlock (.slice pA pl.length pcap2) from fun e' => own_box HBX.out hop (by decide) (by rw [hvp]; exact e'))
     have hqp : q ≠ pg := fun e' => own_box HBX.out HM.out.prow (by decide) (by rw [e']; rfl)
     rw [hvp] at hop t1
     have HOP := Lib.hid hop
     have hq3 : q < wr.heap.size := (Array.getElem?_eq_some_iff.1 HBX.out).1
     have hpgs := hrg.2
     clear hop hvp hpl q6 q7
     go_upto_region 17 with (at_builtin; refine wpList_append_own_at _ rfl (.tmp 74) (.tmp 76) 62 rfl V0.heap.size 3 iI (.int .i64 0) 1 8 Tryd.underlying62 hiI hI0 hI1 hI2 rfl (by decide) (.slice pA pl.length pcap2) _ _ rfl (HOP.out.alloc _) ⟨wr.heap.size, 0, none⟩ 1 1 [.int .i64 (k : Int)] rfl rfl (cell_one_new _ _ _) (by simp [Value.oneCell']) (by unfold maxLen; omega) (by omega) (by rw [World.size_alloc]; omega) ?_; intro v' W' hown' hgrow _ hob; obtain ⟨g', cap', rfl⟩ := ownsRow_succ hown'; have hc1 := hgrow.cell (a := ⟨pg, p, none⟩) (v := .slice pA pl.length pcap2) (by simp [go_sem, *]) HNp.out; have hf1 : W'.frozen? ⟨pg, p, none⟩ = false := (World.frozen?_of_block (hgrow.block pg (by simp; omega) HNp.out)).trans (by simp [go_sem, *]))
     have hB := HM.out.app (y := (k : Int)) hp ((Below.refl wr.heap.size wr).alloc (Nat.le_refl _) (.cells #[.int .i64 (k : Int)] 3)) (by rw [HVP.out]; exact hgrow) (by rw [HPL.out]; simpa [ivs] using hown') (by rw [HVP.out]; exact hob)
     rw [HPL.out] at hB
     have hBq : (W'.setCell ⟨pg, p, none⟩ (.slice (some ⟨g', 0, none⟩) (pl.length + 1) cap')).heap[q]? = some (.cells #[.int .i64 x.lo, .int .i64 x.hi, .slice (some ⟨nb, noff, none⟩) x.nx.length ncap] 64) := by
      rw [Below.heap_setCell _ _ _ _ hqp, hgrow.block q (by rw [World.size_alloc]; omega) HNq.out, heap_alloc_old _ _ hq3]
      exact HBX.out
     have HB := Lib.hid hB
     have HBQ := Lib.hid hBq
     clear hB hBq hc1 hf1 hob hgrow hown' t1 t2 HOP HNp HNq
     go_wp2_with fail
     go_roundw
     case rel =>
      refine ⟨j + 1, upd val p (.slice (some ⟨g', 0, none⟩) (pl.length + 1) cap'), by omega, by go_num, fun t ht => ?_, HBQ.out, ?_⟩
      ·rw [HS.out] at ht
       rcases List.mem_append.1 ht with h | h
       ·exact HIN.out t h
       ·simp at h; omega
      ·rw [HS.out, prvAt_add, HPL.out]
       exact HB.out
     case measure => simp [intOf]; omega
    ·obtain rfl : j = x.nx.length := by omega
     have dl : decide ((x.nx.length : Int) < (x.nx.length : Int)) = false := by simp
     rw [List.take_length] at HIN HM
     have hq3 : q < wr.heap.size := (Array.getElem?_eq_some_iff.1 HBX.out).1
     by_cases q8 : x.nx.length = 2
     ·obtain ⟨s0', nb, noff, hs, rfl, hnb, x1⟩ := HI.out.at_ BW.out (j := 0) (by omega)
      obtain ⟨s1', nb', noff', hs', hA, hnb', x2⟩ := HI.out.at_ BW.out (j := 1) (by omega)
      cases hA
      have hBs := BW.out.size
      have hnw : nb < wr.heap.size := by omega
      have d8 : ((x.nx.length : Int) == 2) = true := by simp; omega
      have e0 : x.nx.getD 0 0 = s0' := by simp [List.getD, hs]
      have e1 : x.nx.getD 1 0 = s1' := by simp [List.getD, hs']
      have i0 : (0 : Int) < (x.nx.length : Int) := by omega
      have i1 : (1 : Int) < (x.nx.length : Int) := by omega
      rw [Nat.add_zero] at x1
      by_cases q9 : s0' = s1'
      ·have d9 : (s0' == s1') = true := by simp [q9]
       have HQ := Lib.hid (HNO.out (fun h => h.ne ⟨q8, by rw [e0, e1, q9]⟩))
       clear q9 e0 e1 q8 hs hs' q5
       go_upto_region 18 with fail
       refine wp_region_ext (by kernel_rfl) (by kernel_rfl) ?_
       repeat (go_big_quiet_step (fail))
       refine wpQuiet_nil ?_
       rintro _ ⟨y, rfl⟩
       go_wp2_with fail
       go_ret
       exact ⟨⟨false, rfl, by simp; intro h; obtain ⟨z, hz⟩ := h.ok; exact HQ.out z hz⟩, Ext.below BW.out BW.out.size y⟩
      ·have d9 : (s0' == s1') = false := by simp [q9]
       have HOKB := Lib.hid (show OkB G.length e x from ⟨HQ345.out.1, HQ345.out.2.1, HQ345.out.2.2, HIN.out, fun h => q9 (by rw [← e0, ← e1]; exact h.2)⟩)
       clear q9 e0 e1 q8 hs hs' q5
       go_upto_region 18 with fail
       refine wp_region_ext (by kernel_rfl) (by kernel_rfl) ?_
       repeat (go_big_quiet_step (fail))
       refine wpQuiet_nil ?_
       rintro _ ⟨y, rfl⟩
       go_wp2_with fail
       go_roundw
       case rel => exact ⟨k + 1, x.hi, val, by omega, by go_num, rfl, by rw [take_snoc HX.out]; exact HOK.out.snoc HOKB.out, by rw [← prvAt_step G k x HX.out]; exact HM.out.below y.h⟩
       case measure => simp [intOf]; omega
     ·have d8 : ((x.nx.length : Int) == 2) = false := beq_eq_false_iff_ne.2 (by omega)
      have HOKB := Lib.hid (show OkB G.length e x from ⟨HQ345.out.1, HQ345.out.2.1, HQ345.out.2.2, HIN.out, fun h => q8 h.1⟩)
      clear q8 q5
      go_upto_region 18 with fail
      refine wp_region_ext (by kernel_rfl) (by kernel_rfl) ?_
      repeat (go_big_quiet_step (fail))
      refine wpQuiet_nil ?_
      rintro _ ⟨y, rfl⟩
      go_wp2_with fail
      go_roundw
      case rel => exact ⟨k + 1, x.hi, val, by omega, by go_num, rfl, by rw [take_snoc HX.out]; exact HOK.out.snoc HOKB.out, by rw [← prvAt_step G k x HX.out]; exact HM.out.below y.h⟩
      case measure => simp [intOf]; omega
  ·obtain rfl : k = G.length := by omega
   have dl : decide ((G.length : Int) < (G.length : Int)) = false := by simp
   rw [List.take_length] at HOK
   have z1 : wr.cell? ⟨w.heap.size, 1, none⟩ = some (.slice PA P.length pcap) := by rw [HM.out.bel.cell (p := ⟨w.heap.size, 1, none⟩) s0]; exact y1
   have HEF := Lib.hid (equalFunc_any _ _ _ P wr HM.out.lls (HPH.out.below BW.out))
   go_wp2_with (go_at_call 60; refine HEF.out.mono ?_; rintro e w' ⟨rfl, hb5⟩)
   go_ret
   refine ⟨⟨_, rfl, ?_⟩, BW.out.trans (hb5.mono (by have := BW.out.size; omega))⟩
   rw [decide_eq_true_eq]
   constructor
   ·intro h
    exact ⟨fun e => HQ1.out (by rw [e]; rfl), HQ2.out, ⟨_, HOK.out⟩, h⟩
   ·intro h
    exact h.prev

end Go.Proofs.YtebklpnkcicpjaaDoor

namespace Go.Proofs.YtebklpnkcicpjaaDoor
open Go.RowKit
set_option linter.unusedVariables false
set_option linter.unusedSimpArgs false

theorem infoW : (Tryd.prog.info? 67).map (fun i => (i.zero, i.size, i.bytes)) = some (some (.int .u32 0), 1, 4) := by kernel_rfl
abbrev uvs (l : List Int) : List Value := l.map (Value.int .u32)
def taName : ByteArray := { data := #[116, 97] }
structure IG (V wr : World) (ib : Nat) (cv ev : Value) (ws : List Int) : Prop where
 ib1 : ib < V.heap.size
 os : wr.os = V.os
 tape : wr.tape = V.tape
 output : wr.output = V.output
 sz : V.heap.size ≤ wr.heap.size
 blk : ∀ k, k < V.heap.size → k ≠ ib → wr.heap[k]? = V.heap[k]?
 im : wr.heap[ib]? = some (.cells #[cv, ev, .int .i64 0, .int .i64 0] 38 (0, 0))
 row : wr.ownsRow V.heap.size 67 1 cv ws.length (uvs ws)
theorem IG.below {V wr wr' : World} {ib : Nat} {cv ev : Value} {ws : List Int} (h : IG V wr ib cv ev ws) (hb : Below wr.heap.size wr wr') : IG V wr' ib cv ev ws :=
 ⟨h.ib1, hb.os.trans h.os, hb.tape.trans h.tape, hb.output.trans h.output, Nat.le_trans h.sz hb.size, fun k h1 h2 => (hb.block k (by have := h.sz; omega)).trans (h.blk k h1 h2), (hb.block _ (by have := h.sz; have := h.ib1; omega)).trans h.im, ownsRow_below h.row hb⟩
theorem IG.base {V wr w : World} {ib : Nat} {cv ev : Value} {ws : List Int} (h : IG V wr ib cv ev ws) (hb : Below w.heap.size w V) (hi : w.heap.size ≤ ib) : Below w.heap.size w wr :=
 ⟨h.os.trans hb.os, h.tape.trans hb.tape, h.output.trans hb.output, Nat.le_trans hb.size h.sz, fun k hk => (h.blk k (by have := hb.size; omega) (by omega)).trans (hb.block k hk)⟩
theorem IG.app {V wr w2 W' : World} {ib : Nat} {cv ev v' : Value} {ws : List Int} {x : Int} (h : IG V wr ib cv ev ws) (hb : Below wr.heap.size wr w2) (hg : w2.grownBy W' cv.ownBlock) (hown : W'.ownsRow V.heap.size 67 1 v' (ws.length + 1) (uvs (ws ++ [x]))) : IG V (W'.setCell ⟨ib, 0, none⟩ v') ib v' ev (ws ++ [x]) := by
 have G := grown_of hb hg
 have i1 := h.ib1
 have hsz := h.sz
 have hgs := G.size
 have rl : ∀ q, cv.ownBlock = some q → V.heap.size ≤ q := fun q hq => (h.row.lt q hq).1
 have sm : ∀ k, k < V.heap.size → W'.heap[k]? = wr.heap[k]? := fun k hk => G.block k (by omega) (fun e => by have := rl k e.symm; omega)
 refine ⟨i1, G.os.trans h.os, G.tape.trans h.tape, G.output.trans h.output, by simp; omega, fun k h1 h2 => ?_, ?_, ?_⟩
 ·rw [Below.heap_setCell _ _ _ _ h2]; exact (sm k h1).trans (h.blk k h1 h2)
 ·rw [heap_setCell_same W' ib 0 _ _ v' ((sm ib i1).trans h.im)]; rfl
 ·rw [show (ws ++ [x]).length = ws.length + 1 by simp]
  exact ownsRow_setCell_other hown (fun e => by have := (hown.lt ib e).1; omega) _

end Go.Proofs.YtebklpnkcicpjaaDoor

namespace Go.Proofs.YtebklpnkcicpjaaDoor
open Go.RowKit
set_option linter.unusedVariables false
set_option linter.unusedSimpArgs false

theorem own_words {w : World} {B : Nat} {v : Value} {ws : List Int} (h : w.ownsRow B 67 1 v ws.length (uvs ws)) (hl : ws.length ≤ 1000000) (hw : ∀ x ∈ ws, 0 ≤ x ∧ x < 4294967296) : Words w v ws.length (fun i => ws.getD i 0) := by
 refine ⟨hl, fun i hi => ?_, ?_⟩
 ·have : ws.getD i 0 = ws[i] := by simp [List.getD, List.getElem?_eq_getElem hi]
  rw [this]
  exact hw _ (List.getElem_mem hi)
 ·rcases h.2 with ⟨rfl, h0⟩ | ⟨g, cap, cur, rfl, _, hg, h1, h2, _, _⟩
  ·rw [h0]
   exact ⟨none, 0, rfl, Nat.le_refl _, by unfold maxLen; omega, fun h => by omega⟩
  ·refine ⟨_, cap, rfl, h1, h2, fun _ => ⟨g, 0, rfl, (Array.getElem?_eq_some_iff.1 hg).1, fun i hi => ?_⟩⟩
   rw [Nat.zero_add, h.cellAt i (by omega)]
   simp [uvs, List.getD, List.getElem?_eq_getElem hi]

theorem ldB_congr (c : Int → Ins) (st : Int) {D D' : List Int} (h : ∀ x, x ∈ D ↔ x ∈ D') (x : Int) : ldB c st D x = ldB c st D' x := by
 have : ldB c st D x = true ↔ ldB c st D' x = true := by
  rw [ldB_iff, ldB_iff]
  unfold Lead
  constructor
  ·rintro (e | ⟨a, ha, hm⟩)
   ·exact .inl e
   ·exact .inr ⟨a, (h a).1 ha, hm⟩
  ·rintro (e | ⟨a, ha, hm⟩)
   ·exact .inl e
   ·exact .inr ⟨a, (h a).2 ha, hm⟩
 cases h1 : ldB c st D x <;> cases h2 : ldB c st D' x <;> simp_all
theorem blk_congr (c : Int → Ins) (st : Int) {D D' : List Int} (h : ∀ x, x ∈ D ↔ x ∈ D') : ∀ m, blk c st D m = blk c st D' m
 | 0 => rfl
 | m + 1 => by
  unfold blk
  rw [blk_congr c st h m, ldB_congr c st h]
  simp only [h]

end Go.Proofs.YtebklpnkcicpjaaDoor

namespace Go.Proofs.YtebklpnkcicpjaaDoor
open Go.ChangeShapes Go.WideShapes Go.ChangeAt Go.RowKit
set_option linter.unusedVariables false
set_option linter.unusedSimpArgs false

theorem flat6_at {α : Type} {f : α → List Value} (hf : ∀ x, (f x).length = 6) : ∀ (L : List α) (k j : Nat) (x : α), L[k]? = some x → j < 6 → (L.flatMap f)[k * 6 + j]? = (f x)[j]?
 | y :: L, 0, j, x, h, hj => by
  simp at h; subst h
  rw [List.flatMap_cons, Nat.zero_mul, Nat.zero_add, List.getElem?_append_left (by rw [hf]; exact hj)]
 | y :: L, k + 1, j, x, h, hj => by
  have h' : L[k]? = some x := by simpa using h
  rw [List.flatMap_cons, List.getElem?_append_right (by rw [hf]; omega), hf, show (k + 1) * 6 + j - 6 = k * 6 + j by omega]
  exact flat6_at hf L k j x h' hj
theorem tab_of_laid {W : World} (h : laidMet Tryd.prog [("ontime/isa.formats", Rows.laid_ontime_isa_formats)] W) : Tab W := by
 have hv := cells_of_laid h
 have hg : Tryd.prog.globalNamed "ontime/isa.formats" = some 0 := by kernel_rfl
 have hc : ∀ k, W.cell? ⟨0, k, none⟩ = fmCells.toArray[k]? := fun k => World.var?_cell hg hv k
 refine ⟨?_, fun k hk j v hv2 => ?_⟩
 ·have h0 : W.cell? ⟨0, 0, none⟩ = some (.string ⟨#[110, 111, 112]⟩) := by rw [hc 0]; kernel_rfl
  exact block_of_cell h0
 ·rw [hc]
  have hj : j < 6 := by
   have := (List.getElem?_eq_some_iff.1 hv2).1
   simpa [Fm.cells] using this
  have hf : fms[k]? = some (fm k) := by
   unfold fm
   have : k < fms.length := hk
   simp [List.getD, List.getElem?_eq_getElem this]
  have := flat6_at (f := Fm.cells) (fun x => rfl) fms k j (fm k) hf hj
  simp only [List.getElem?_toArray]
  unfold fmCells
  rw [this]
  exact hv2

noncomputable def laidWorld (os : Os) : World :=
 { World.holding Tryd.prog os ⟨#[], #[], []⟩ with heap := (World.holding Tryd.prog os ⟨#[], #[], []⟩).heap.modify 0 fun
   | .cells _ t frozen => .cells fmCells.toArray t frozen
   | o => o }
theorem laidWorld_row (os : Os) (args : Array Value) : ((laidWorld os).forCall (fun _ _ => 0) ⟨#[], args, []⟩).memory.heap[0]? = some (.cells fmCells.toArray 94 (0, 0)) := by kernel_rfl
set_option maxRecDepth 100000 in
theorem laid_met (os : Os) (args : Array Value) : laidMet Tryd.prog [("ontime/isa.formats", Rows.laid_ontime_isa_formats)] ((laidWorld os).forCall (fun _ _ => 0) ⟨#[], args, []⟩).memory := by
 refine ⟨_, ⟨0, 94, fmCells.toArray, 8, [], [], by kernel_rfl, by kernel_rfl, by kernel_rfl, by kernel_rfl, rfl, rfl⟩, by decide +kernel, fun b off h => ?_⟩
 have hb : b = 0 := by
  have h' : MemPlace.cell b off ∈ (List.range 180).map (fun i => MemPlace.cell 0 (0 + i)) := by
   have e : (MemPlace.row ⟨0, 0, none⟩ fmCells.toArray.size ++ [] ++ [] : List MemPlace) = (List.range 180).map (fun i => MemPlace.cell 0 (0 + i)) := by decide +kernel
   rw [e] at h
   exact h
  obtain ⟨i, _, e⟩ := List.mem_map.1 h'
  cases e
  rfl
 subst hb
 refine ⟨⟨fmCells.toArray, 94, laidWorld_row os args⟩, fun u v hc => ?_⟩
 simp only [World.cell?, laidWorld_row os args] at hc
 exfalso
 have hm : Value.iface u v ∈ fmCells := List.mem_of_getElem? (by simpa using hc)
 unfold fmCells at hm
 obtain ⟨f, _, hf⟩ := List.mem_flatMap.1 hm
 simp [Fm.cells] at hf

end Go.Proofs.YtebklpnkcicpjaaDoor

namespace Go.Proofs.YtebklpnkcicpjaaDoor
open Go.ChangeShapes Go.WideShapes Go.ChangeAt Go.RowKit
set_option linter.unusedVariables false
set_option linter.unusedSimpArgs false

theorem list_of {α : Type} {P : Nat → α → Prop} (len : Nat) (h : ∀ i, i < len → ∃ x, P i x) : ∃ l : List α, l.length = len ∧ ∀ i x, l[i]? = some x → P i x := by
 induction len with
 | zero => exact ⟨[], rfl, fun i x hx => by simp at hx⟩
 | succ n ih =>
  obtain ⟨l, h1, h2⟩ := ih (fun i hi => h i (by omega))
  obtain ⟨x, hx⟩ := h n (by omega)
  refine ⟨l ++ [x], by simp [h1], fun i y hy => ?_⟩
  by_cases hi : i < l.length
  ·rw [List.getElem?_append_left hi] at hy
   exact h2 i y hy
  ·rw [List.getElem?_append_right (by omega)] at hy
   have : i - l.length = 0 := by
    rcases Nat.eq_zero_or_pos (i - l.length) with e | e
    ·exact e
    ·rw [List.getElem?_eq_none (by simp; omega)] at hy; cases hy
   rw [this] at hy
   simp at hy
   subst hy
   rw [show i = n by omega]
   exact hx
section
variable {H : Type} {enc : TypeId × Value → H} {P : Program} {w : World} {base : Nat} {spare : Nat → Bool} {held : Bool}
theorem open_slice_tr {t e : TypeId} {fuel : Nat} {cs0 : List Value} {y0 : DataW H × List MemPlace} (ht : P.underlying t = some (.slice e)) (c : Nat) (hC : P.cellsOf e = c) (hc : 0 < c)
  (hf : DataW.trod enc P w base spare held fuel t cs0 = some y0) :
  ∃ v len, cs0 = [v] ∧ ReadsAs w w.heap.size v len c (fun i cs => ∃ n y, DataW.trod enc P w base spare held n e cs = some y) := by
 rcases Go.Deep.open_slice ht hf with ⟨hcs, _⟩ | ⟨a, len, cap, m, n, D, Pl, hcs, _, hl, hm, hmm, _, hi⟩
 ·exact ⟨.slice none 0 0, 0, hcs, none, 0, rfl, Nat.le_refl _, by unfold maxLen; omega, fun h => absurd h (by omega)⟩
 ·refine ⟨.slice (some a) len cap, len, hcs, _, cap, rfl, hl, hm, fun h0 => ?_⟩
  have hlm : len ≤ m := by rw [hmm]; split <;> omega
  have cell : ∀ i, i < len → ∃ cs, (∃ n y, DataW.trod enc P w base spare held n e cs = some y) ∧ cs.length = c ∧ ∀ j, j < c → w.cell? ((a.add (i * c)).add j) = cs[j]? := by
   intro i hi'
   obtain ⟨cs, hcs, htr⟩ := hi i (by omega)
   rw [hC] at hcs
   obtain ⟨_, hl', hat⟩ := World.cells?_some hcs
   exact ⟨cs, ⟨n, _, htr⟩, hl', hat⟩
  have hspot : a.spot = none ∧ a.block < w.heap.size := by
   obtain ⟨cs, _, hl', hat⟩ := cell 0 h0
   have h1 := hat 0 hc
   rw [List.getElem?_eq_getElem (by omega)] at h1
   have e0 : ((a.add (0 * c)).add 0) = a := by simp [Addr.add]
   rw [e0] at h1
   exact ⟨World.cell?_spot h1, block_of_cell h1⟩
  obtain ⟨b, off, spot⟩ := a
  simp only at hspot
  obtain ⟨rfl, hb⟩ := hspot
  refine ⟨b, off, rfl, hb, fun i hi' => ?_⟩
  obtain ⟨cs, r, hl', hat⟩ := cell i hi'
  refine ⟨cs, r, hl', fun j hj => ?_⟩
  rw [← hat j hj]
  congr 1
  unfold Addr.add
  split <;> split <;> simp <;> omega
end
section
variable {H : Type} {enc : TypeId × Value → H} {w : World} {base : Nat} {spare : Nat → Bool} {held : Bool}
theorem cellsInt : Tryd.prog.cellsOf 3 = 1 := by kernel_rfl
end

end Go.Proofs.YtebklpnkcicpjaaDoor

namespace Go.Proofs.YtebklpnkcicpjaaDoor
open Go.RowKit
set_option linter.unusedVariables false
set_option linter.unusedSimpArgs false

end Go.Proofs.YtebklpnkcicpjaaDoor

namespace Go.Proofs.YtebklpnkcicpjaaDoor
open Go.RowKit
set_option linter.unusedVariables false
set_option linter.unusedSimpArgs false

def inB (pc : Int) (x : Blk) : Prop := x.lo ≤ pc ∧ pc < x.hi
instance (pc : Int) (x : Blk) : Decidable (inB pc x) := by unfold inB; infer_instance
def findB (G : List Blk) (pc : Int) : Option Nat := G.findIdx? (fun x => decide (inB pc x))
theorem findB_some {G : List Blk} {pc : Int} {j : Nat} {x : Blk} (hx : G[j]? = some x) (hin : inB pc x) (hno : ∀ y ∈ G.take j, ¬ inB pc y) : findB G pc = some j := by
 unfold findB
 obtain ⟨hj, e⟩ := List.getElem?_eq_some_iff.1 hx
 rw [List.findIdx?_eq_some_iff_getElem]
 refine ⟨hj, by rw [e]; simpa using hin, fun i hi => ?_⟩
 have : G[i] ∈ G.take j := by
  rw [List.mem_iff_getElem?]
  exact ⟨i, by rw [List.getElem?_take, if_pos hi, List.getElem?_eq_getElem (by omega)]⟩
 simpa using hno _ this
theorem findB_none {G : List Blk} {pc : Int} (hno : ∀ y ∈ G, ¬ inB pc y) : findB G pc = none := by
 unfold findB
 rw [List.findIdx?_eq_none_iff]
 intro x hx
 simpa using hno x hx

set_option maxHeartbeats 1000000 in
theorem block_any (bv pv : Value) (G : List Blk) (pc : Int) (w : World) (HG : Blks w bv G) :
  Calls Tryd.prog 18 #[.agg #[bv, pv], .int .i64 pc] w fun e w' => e = .returned (.tuple #[.int .i64 (((findB G pc).getD 0 : Nat) : Int), .bool (findB G pc).isSome]) ∧ Below w.heap.size w w' := by
 obtain ⟨A, cap, rfl, hc1, hc2⟩ := HG.slice
 have HGH := Lib.hid HG
 clear HG
 obtain ⟨V0, hV0⟩ : ∃ V0, w.alloc (.cells #[.slice A G.length cap, pv] 48) = V0 := ⟨_, rfl⟩
 have b0 : Below w.heap.size w V0 := hV0 ▸ (Below.refl _ _).alloc (Nat.le_refl _) _
 have s0 : w.heap.size < V0.heap.size := by rw [← hV0]; simp
 have k0 : V0.heap[w.heap.size]? = some (.cells #[.slice A G.length cap, pv] 48) := by rw [← hV0]; exact heap_alloc_new _ _
 have y0 : V0.cell? ⟨w.heap.size, 0, none⟩ = some (.slice A G.length cap) := by simp [World.cell?, k0]
 have B0 := Lib.hid b0
 clear k0 b0
 go_enter Tryd.func18, Tryd.ntmps18
 go_upto_region 2 with fail
 clear hV0
 go_loopw [6, 7, 11] (fun a6 a7 a11 wr => ∃ j : Nat, j ≤ G.length ∧ a11 = .int .i64 (j : Int) ∧ (∀ x ∈ G.take j, ¬ inB pc x) ∧ Below V0.heap.size V0 wr) (fun _ _ a11 _ => G.length - (intOf a11).toNat)
 case atStart => exact ⟨0, Nat.zero_le _, rfl, by simp, Below.refl _ _⟩
 case round =>
  obtain ⟨j, hj, rfl, hno, hb⟩ := hrel
  have HNO := Lib.hid hno
  have HB := Lib.hid hb
  have BW := Lib.hid (B0.out.trans (hb.mono (by omega)))
  have s1 := hb.size
  clear hno hb
  by_cases hlt : j < G.length
  ·obtain ⟨x, nv, b, off, hx, rfl, hbl, c0, c1, c2, hI⟩ := HGH.out.at_ BW.out hlt
   obtain ⟨NA, ncap, rfl, hn1, hn2⟩ := hI.slice
   have HX := Lib.hid hx
   have dl : decide ((j : Int) < (G.length : Int)) = true := decide_eq_true (by omega)
   clear hx hI
   by_cases q : inB pc x
   ·have d1 : decide (x.lo ≤ pc) = true := decide_eq_true q.1
    have d2 : decide (pc < x.hi) = true := decide_eq_true q.2
    have HQ := Lib.hid (findB_some HX.out q HNO.out)
    clear q
    go_wp2_with fail
    go_ret2
    refine ⟨?_, BW.out.alloc (by omega) _⟩
    rw [HQ.out]; rfl
   ·have HQ := Lib.hid q
    by_cases q1 : x.lo ≤ pc
    ·have d1 : decide (x.lo ≤ pc) = true := decide_eq_true q1
     have d2 : decide (pc < x.hi) = false := decide_eq_false (fun h => q ⟨q1, h⟩)
     clear q q1
     go_wp2_with fail
     go_roundw
     case rel =>
      refine ⟨j + 1, by omega, by go_num, fun t ht => ?_, HB.out.alloc (by omega) _⟩
      rw [take_snoc HX.out] at ht
      rcases List.mem_append.1 ht with h | h
      ·exact HNO.out t h
      ·simp at h; rw [h]; exact HQ.out
     case measure => simp [intOf]; omega
    ·have d1 : decide (x.lo ≤ pc) = false := decide_eq_false q1
     clear q q1
     go_wp2_with fail
     go_roundw
     case rel =>
      refine ⟨j + 1, by omega, by go_num, fun t ht => ?_, HB.out.alloc (by omega) _⟩
      rw [take_snoc HX.out] at ht
      rcases List.mem_append.1 ht with h | h
      ·exact HNO.out t h
      ·simp at h; rw [h]; exact HQ.out
     case measure => simp [intOf]; omega
  ·obtain rfl : j = G.length := by omega
   have dl : decide ((G.length : Int) < (G.length : Int)) = false := by simp
   rw [List.take_length] at HNO
   have HQ := Lib.hid (findB_none HNO.out)
   go_wp2_with fail
   go_ret2
   refine ⟨?_, BW.out⟩
   rw [HQ.out]; rfl

end Go.Proofs.YtebklpnkcicpjaaDoor

namespace Go.Proofs.YtebklpnkcicpjaaDoor
open Go.RowKit
set_option linter.unusedVariables false
set_option linter.unusedSimpArgs false

def pvs (L : List (Int × Int)) : List Value := L.flatMap fun p => [.int .i64 p.1, .int .i64 p.2]
theorem pvs_snoc (L : List (Int × Int)) (a b : Int) : pvs (L ++ [(a, b)]) = pvs L ++ [.int .i64 a, .int .i64 b] := by simp [pvs]
theorem pvs_at : ∀ (L : List (Int × Int)) (i j : Nat) (p : Int × Int), L[i]? = some p → j < 2 → (pvs L)[i * 2 + j]? = [Value.int .i64 p.1, .int .i64 p.2][j]?
 | y :: L, 0, j, p, h, hj => by
  simp at h; subst h
  have e : pvs (y :: L) = [.int .i64 y.1, .int .i64 y.2] ++ pvs L := by simp [pvs]
  rw [e, Nat.zero_mul, Nat.zero_add, List.getElem?_append_left (by simpa using hj)]
 | y :: L, i + 1, j, p, h, hj => by
  have h' : L[i]? = some p := by simpa using h
  have e : pvs (y :: L) = [.int .i64 y.1, .int .i64 y.2] ++ pvs L := by simp [pvs]
  rw [e, List.getElem?_append_right (by simp; omega), show (i + 1) * 2 + j - [Value.int .i64 y.1, .int .i64 y.2].length = i * 2 + j by simp; omega]
  exact pvs_at L i j p h' hj
def Prs (w : World) (v : Value) (L : List (Int × Int)) : Prop :=
 ∃ A cap, v = .slice A L.length cap ∧ L.length ≤ cap ∧ cap ≤ 2 ^ 63 - 1 ∧ (0 < L.length → ∃ b off, A = some ⟨b, off, none⟩ ∧ b < w.heap.size ∧ ∀ i p, L[i]? = some p → w.cell? ⟨b, off + i * 2, none⟩ = some (.int .i64 p.1) ∧ w.cell? ⟨b, off + i * 2 + 1, none⟩ = some (.int .i64 p.2))
theorem Prs.below {w w' : World} {v : Value} {L : List (Int × Int)} (h : Prs w v L) (hb : Below w.heap.size w w') : Prs w' v L := by
 obtain ⟨A, cap, h1, h2, h3, h4⟩ := h
 refine ⟨A, cap, h1, h2, h3, fun h0 => ?_⟩
 obtain ⟨b, off, ha, hlt, hc⟩ := h4 h0
 refine ⟨b, off, ha, by have := hb.size; omega, fun i p hp => ?_⟩
 obtain ⟨c0, c1⟩ := hc i p hp
 exact ⟨(hb.cell (p := ⟨b, _, none⟩) hlt).trans c0, (hb.cell (p := ⟨b, _, none⟩) hlt).trans c1⟩
theorem own_prs {w : World} {B : Nat} {e : TypeId} {v : Value} {L : List (Int × Int)} (h : w.ownsRow B e 2 v L.length (pvs L)) : Prs w v L := by
 rcases h.2 with ⟨rfl, h0⟩ | ⟨g, cap', cur, rfl, h1, h2, h3, h4, _, _⟩
 ·exact ⟨none, 0, by rw [h0], by omega, by omega, fun h => by omega⟩
 ·unfold maxLen at h4
  refine ⟨_, cap', rfl, h3, h4, fun _ => ⟨g, 0, rfl, (Array.getElem?_eq_some_iff.1 h2).1, fun i p hp => ?_⟩⟩
  have hi := (List.getElem?_eq_some_iff.1 hp).1
  refine ⟨?_, ?_⟩
  ·rw [Nat.zero_add, h.cellAt _ (by omega), show i * 2 = i * 2 + 0 from rfl, pvs_at L i 0 p hp (by omega)]; rfl
  ·rw [Nat.zero_add, h.cellAt _ (by omega), pvs_at L i 1 p hp (by omega)]; rfl
theorem cells_new2 (w : World) (a b : Value) (t : TypeId) : ∀ j u, [a, b][j]? = some u → (w.alloc (.cells #[a, b] t)).cell? ((⟨w.heap.size, 0, none⟩ : Addr).add j) = some u := by
 intro j u h
 have e : (⟨w.heap.size, 0, none⟩ : Addr).add j = ⟨w.heap.size, j, none⟩ := by cases j <;> simp [Addr.add]
 rw [e]
 unfold World.cell?
 rw [heap_alloc_new]
 simpa using h
theorem infoP : (Tryd.prog.info? 72).map (fun i => (i.zero, i.size, i.bytes)) = some (some (.agg #[.int .i64 0, .int .i64 0]), 2, 16) := by kernel_rfl

end Go.Proofs.YtebklpnkcicpjaaDoor

namespace Go.Proofs.YtebklpnkcicpjaaDoor
open Go.ChangeShapes Go.WideShapes Go.ChangeAt Go.RowKit
set_option linter.unusedVariables false
set_option linter.unusedSimpArgs false

structure WordsN (w : World) (v : Value) (n : Nat) (cd : Nat → Int) : Prop where
 wd : ∀ i, i < n → 0 ≤ cd i ∧ cd i < 4294967296
 at_ : ∃ A cap, v = .slice A n cap ∧ n ≤ cap ∧ cap ≤ maxLen ∧ (0 < n → ∃ b off, A = some ⟨b, off, none⟩ ∧ b < w.heap.size ∧ ∀ i, i < n → w.cell? ⟨b, off + i, none⟩ = some (.int .u32 (cd i)))
theorem WordsN.words {w : World} {v : Value} {n : Nat} {cd : Nat → Int} (h : WordsN w v n cd) (hn : n ≤ 1000000) : Words w v n cd := ⟨hn, h.wd, h.at_⟩
theorem list4 {cs : List Value} (h : cs.length = 4) : ∃ c0 c1 c2 c3, cs = [c0, c1, c2, c3] := by
 match cs, h with
 | [c0, c1, c2, c3], _ => exact ⟨c0, c1, c2, c3, rfl⟩
theorem array4 {α : Type} {cs : Array α} (h : cs.size = 4) : ∃ c0 c1 c2 c3, cs = #[c0, c1, c2, c3] := by
 obtain ⟨l⟩ := cs
 match l, h with
 | [c0, c1, c2, c3], _ => exact ⟨c0, c1, c2, c3, rfl⟩
theorem u32_in {p : Int} (h : (Lit.int .u32 p).wf = true) : 0 ≤ p ∧ p < 4294967296 := by
 simp [Lit.wf] at h
 have e1 : IntKind.u32.min = 0 := by decide
 have e2 : IntKind.u32.max = 4294967295 := by decide
 omega
theorem cellsStr : Tryd.prog.cellsOf 9 = 1 := by kernel_rfl
theorem cellsWords : Tryd.prog.cellsOf 35 = 1 := by kernel_rfl
theorem cellsEnts : Tryd.prog.cellsOf 36 = 1 := by kernel_rfl
theorem cellsImage : Tryd.prog.cellsOf 38 = 4 := by kernel_rfl
theorem trod_struct4 {H : Type} {enc : TypeId × Value → H} {P : Program} {w : World} {base : Nat} {spare : Nat → Bool} {held : Bool} {t : TypeId} {f0 f1 f2 f3 : Field} {fuel : Nat} {cs : List Value} {x : DataW H × List MemPlace} (ht : P.underlying t = some (.struct #[f0, f1, f2, f3])) (h : DataW.trod enc P w base spare held fuel t cs = some x) :
  ∃ y0 y1 y2 y3 n, DataW.trod enc P w base spare held n f0.type ((cs.drop f0.offset).take (P.cellsOf f0.type)) = some y0 ∧ DataW.trod enc P w base spare held n f1.type ((cs.drop f1.offset).take (P.cellsOf f1.type)) = some y1 ∧
   DataW.trod enc P w base spare held n f2.type ((cs.drop f2.offset).take (P.cellsOf f2.type)) = some y2 ∧ DataW.trod enc P w base spare held n f3.type ((cs.drop f3.offset).take (P.cellsOf f3.type)) = some y3 := by
 obtain ⟨xs, n, _, rfl, hl, hlen, hf⟩ := DataW.trod_struct ht h
 match xs, hlen with
 | [y0, y1, y2, y3], _ => exact ⟨y0, y1, y2, y3, n, by simpa using hf 0 f0 rfl, by simpa using hf 1 f1 rfl, by simpa using hf 2 f2 rfl, by simpa using hf 3 f3 rfl⟩
section
variable {H : Type} {enc : TypeId × Value → H} {w : World} {base : Nat} {spare : Nat → Bool} {held : Bool}
theorem tr_words {fuel : Nat} {cs : List Value} {y : DataW H × List MemPlace} (h : DataW.trod enc Tryd.prog w base spare held fuel 35 cs = some y) : ∃ v n cd, cs = [v] ∧ WordsN w v n cd := by
 obtain ⟨v, len, rfl, A, cap, rfl, h1, h2, hc⟩ := open_slice_tr Tryd.underlying35 1 (by kernel_rfl) (by omega) h
 obtain ⟨l, hl, hp⟩ := list_of (P := fun i (x : Int) => (0 ≤ x ∧ x < 4294967296) ∧ (0 < len → ∃ b off, A = some ⟨b, off, none⟩ ∧ b < w.heap.size ∧ w.cell? ⟨b, off + i, none⟩ = some (.int .u32 x))) len (fun i hi => by
  obtain ⟨b, off, rfl, hb, hx⟩ := hc (by omega)
  obtain ⟨cs, ⟨n, y, htr⟩, _, hj⟩ := hx i hi
  obtain ⟨z, rfl, _, hw⟩ := DataW.trod_int Tryd.underlying67 htr
  have := hj 0 (by omega)
  exact ⟨z, u32_in hw, fun _ => ⟨b, off, rfl, hb, by simpa using this⟩⟩)
 subst hl
 have hg : ∀ i, i < l.length → l.getD i 0 = l[i]?.getD 0 := fun i hi => by simp [List.getD]
 refine ⟨_, l.length, fun i => l.getD i 0, rfl, fun i hi => ?_, A, cap, rfl, h1, h2, fun h0 => ?_⟩
 ·have e : l.getD i 0 = l[i] := by simp [List.getD, List.getElem?_eq_getElem hi]
  show 0 ≤ l.getD i 0 ∧ l.getD i 0 < 4294967296
  rw [e]
  exact (hp i _ (List.getElem?_eq_getElem hi)).1
 ·obtain ⟨b, off, rfl, hb, hx⟩ := hc h0
  refine ⟨b, off, rfl, hb, fun i hi => ?_⟩
  obtain ⟨_, h4⟩ := hp i _ (List.getElem?_eq_getElem hi)
  obtain ⟨b', off', e, _, h5⟩ := h4 h0
  cases e
  rw [h5]
  simp [List.getD, List.getElem?_eq_getElem hi]
theorem tr_ents {fuel : Nat} {cs : List Value} {y : DataW H × List MemPlace} (h : DataW.trod enc Tryd.prog w base spare held fuel 36 cs = some y) : ∃ v l, cs = [v] ∧ Ents w v l := by
 obtain ⟨v, len, rfl, A, cap, rfl, h1, h2, hc⟩ := open_slice_tr Tryd.underlying36 4 (by kernel_rfl) (by omega) h
 obtain ⟨l, hl, hp⟩ := list_of (P := fun i (x : Ent) => x.nm.size ≤ maxLen ∧ (0 < len → ∃ b off, A = some ⟨b, off, none⟩ ∧ b < w.heap.size ∧ w.cell? ⟨b, off + i * 4, none⟩ = some (.string x.nm) ∧ w.cell? ⟨b, off + i * 4 + 1, none⟩ = some (.int .i64 x.st) ∧ w.cell? ⟨b, off + i * 4 + 2, none⟩ = some (.int .i64 x.en) ∧ w.cell? ⟨b, off + i * 4 + 3, none⟩ = some (.int .i64 x.da))) len (fun i hi => by
  obtain ⟨b, off, rfl, hb, hx⟩ := hc (by omega)
  obtain ⟨cs, ⟨n, y, htr⟩, hl, hj⟩ := hx i hi
  obtain ⟨y0, y1, y2, y3, n', g0, g1, g2, g3⟩ := trod_struct4 Tryd.underlying102 htr
  obtain ⟨c0, c1, c2, c3, rfl⟩ := list4 hl
  simp only [cellsInt, cellsStr, List.drop_zero, List.drop_succ_cons, List.take_succ_cons, List.take_zero] at g0 g1 g2 g3
  obtain ⟨z0, e0, _, hz0⟩ := DataW.trod_string Tryd.underlying9 g0
  obtain ⟨z1, e1, _, _⟩ := DataW.trod_int Tryd.underlying3 g1
  obtain ⟨z2, e2, _, _⟩ := DataW.trod_int Tryd.underlying3 g2
  obtain ⟨z3, e3, _, _⟩ := DataW.trod_int Tryd.underlying3 g3
  simp at e0 e1 e2 e3
  subst e0 e1 e2 e3
  refine ⟨⟨z0, z1, z2, z3⟩, hz0, fun _ => ⟨b, off, rfl, hb, ?_, ?_, ?_, ?_⟩⟩
  ·simpa using hj 0 (by omega)
  ·simpa [Nat.add_assoc] using hj 1 (by omega)
  ·simpa [Nat.add_assoc] using hj 2 (by omega)
  ·simpa [Nat.add_assoc] using hj 3 (by omega))
 subst hl
 refine ⟨_, l, rfl, fun e he => ?_, A, cap, rfl, h1, h2, fun h0 => ?_⟩
 ·obtain ⟨i, hi⟩ := List.mem_iff_getElem?.1 he
  exact (hp i e hi).1
 ·obtain ⟨b, off, rfl, hb, hx⟩ := hc h0
  refine ⟨b, off, rfl, hb, fun i x hi => ?_⟩
  obtain ⟨b', off', e, _, h5⟩ := (hp i x hi).2 h0
  cases e
  exact h5
set_option maxRecDepth 100000 in
theorem open_image {r : Reach} {b0 : Nat} {v : Value} {d : DataW H} {p : List MemPlace} (hv : Value.okWide Tryd.prog w r b0 38 v) (h : DataW.Trod enc Tryd.prog w base spare held 38 v d p) :
  ∃ cv ev sh lk n cd ents, v = .agg #[cv, ev, .int .i64 sh, .int .i64 lk] ∧ WordsN w cv n cd ∧ Ents w ev ents := by
 obtain ⟨cs, rfl, hsz⟩ := okWide_struct Tryd.underlying38 hv
 obtain ⟨c0, c1, c2, c3, rfl⟩ := array4 (hsz.trans cellsImage)
 obtain ⟨fuel, hf⟩ := h
 obtain ⟨y0, y1, y2, y3, n, g0, g1, g2, g3⟩ := trod_struct4 Tryd.underlying38 hf
 simp only [Value.cells, cellsWords, cellsEnts, cellsInt, List.drop_zero, List.drop_succ_cons, List.take_succ_cons, List.take_zero] at g0 g1 g2 g3
 obtain ⟨cv, m, cd, e0, hW⟩ := tr_words g0
 obtain ⟨ev, ents, e1, hE⟩ := tr_ents g1
 obtain ⟨z2, e2, _, _⟩ := DataW.trod_int Tryd.underlying3 g2
 obtain ⟨z3, e3, _, _⟩ := DataW.trod_int Tryd.underlying3 g3
 simp at e0 e1 e2 e3
 subst e0 e1 e2 e3
 exact ⟨c0, c1, z2, z3, m, cd, ents, rfl, hW, hE⟩
end

def greatI (n : Nat) (ents : List Ent) : Int := if 300 < n ∨ 4 < ents.length then 1 else 0
set_option maxHeartbeats 1000000 in
theorem great_any (cv ev : Value) (sh lk : Int) (n : Nat) (cd : Nat → Int) (ents : List Ent) (w : World) (HW : WordsN w cv n cd) (HE : Ents w ev ents) :
  Calls Tryd.prog 40 #[.agg #[cv, ev, .int .i64 sh, .int .i64 lk]] w fun e w' => e = .returned (.int .i64 (greatI n ents)) ∧ Below w.heap.size w w' := by
 obtain ⟨A, cap, rfl, h1, h2, _⟩ := HW.at_
 obtain ⟨EA, ecap, rfl, h3, h4, _⟩ := HE.at_
 unfold maxLen at h2 h4
 go_enter Tryd.func40, Tryd.ntmps40
 by_cases q1 : 300 < n
 ·have d1 : decide ((300 : Int) < (n : Int)) = true := decide_eq_true (by omega)
  have HQ := Lib.hid (show greatI n ents = 1 by simp [greatI, q1])
  clear q1
  go_wp2_with fail
  go_ret
  exact ⟨ret_int HQ.out.symm, (Below.refl _ _).alloc (Nat.le_refl _) _⟩
 have d1 : decide ((300 : Int) < (n : Int)) = false := decide_eq_false (by omega)
 by_cases q2 : 4 < ents.length
 ·have d2 : decide ((4 : Int) < (ents.length : Int)) = true := decide_eq_true (by omega)
  have HQ := Lib.hid (show greatI n ents = 1 by simp [greatI, q2])
  clear q1 q2
  go_wp2_with fail
  go_ret
  exact ⟨ret_int HQ.out.symm, (Below.refl _ _).alloc (Nat.le_refl _) _⟩
 have d2 : decide ((4 : Int) < (ents.length : Int)) = false := decide_eq_false (by omega)
 have HQ := Lib.hid (show greatI n ents = 0 by simp [greatI, q1, q2])
 clear q1 q2
 go_wp2_with fail
 go_ret
 exact ⟨ret_int HQ.out.symm, (Below.refl _ _).alloc (Nat.le_refl _) _⟩

end Go.Proofs.YtebklpnkcicpjaaDoor

namespace Go.Proofs.YtebklpnkcicpjaaDoor
open Go.RowKit
set_option linter.unusedVariables false
set_option linter.unusedSimpArgs false

end Go.Proofs.YtebklpnkcicpjaaDoor

namespace Go.Proofs.YtebklpnkcicpjaaDoor
open Go.RowKit
set_option linter.unusedVariables false
set_option linter.unusedSimpArgs false

end Go.Proofs.YtebklpnkcicpjaaDoor

namespace Go.Proofs.YtebklpnkcicpjaaDoor
open Go.RowKit
set_option linter.unusedVariables false
set_option linter.unusedSimpArgs false

inductive GR (G : List Blk) : Nat → Prop
 | start : GR G 0
 | step {b t : Nat} {x : Blk} : GR G b → G[b]? = some x → (t : Int) ∈ x.nx → GR G t
abbrev bvs (n : Nat) (sn : Nat → Bool) : List Value := (List.range n).map fun i => .bool (sn i)
theorem bvs_set (n : Nat) (sn : Nat → Bool) {p : Nat} (hp : p < n) (b : Bool) : (bvs n sn).set p (.bool b) = bvs n (upd sn p b) := by
 apply List.ext_getElem?
 intro q
 rw [List.getElem?_set]
 simp only [bvs, List.length_map, List.length_range, List.getElem?_map]
 by_cases e : p = q
 ·subst e
  rw [if_pos rfl, if_pos hp, List.getElem?_range hp]
  simp [upd]
 ·rw [if_neg e]
  by_cases hq : q < n
  ·rw [List.getElem?_range hq]
   have : q ≠ p := fun h => e h.symm
   simp [upd, this]
  ·rw [List.getElem?_eq_none (by simpa using hq)]
   rfl
structure SM (w wr : World) (g n : Nat) (sn : Nat → Bool) : Prop where
 bel : Below w.heap.size w wr
 row : wr.ownsRow w.heap.size 4 1 (.slice (some ⟨g, 0, none⟩) n n) n (bvs n sn)
theorem SM.cells {w wr : World} {g n : Nat} {sn : Nat → Bool} (h : SM w wr g n sn) {i : Nat} (hi : i < n) : wr.cell? ⟨g, i, none⟩ = some (.bool (sn i)) ∧ wr.frozen? ⟨g, i, none⟩ = false :=
 ⟨by rw [h.row.cellAt _ (by omega), List.getElem?_map, List.getElem?_range hi]; rfl, h.row.frozenAt _⟩
theorem SM.set {w wr : World} {g n : Nat} {sn : Nat → Bool} (h : SM w wr g n sn) {i : Nat} (hi : i < n) (b : Bool) : SM w (wr.setCell ⟨g, i, none⟩ (.bool b)) g n (upd sn i b) :=
 ⟨h.bel.setCell (h.row.lt g rfl).1 _, by rw [← bvs_set n sn hi b]; exact (h.row.stored i (.bool b)).1⟩
structure RS (G : List Blk) (sn : Nat → Bool) : Prop where
 zero : sn 0 = true
 sound : ∀ i, i < G.length → sn i = true → GR G i
theorem RS.add {G : List Blk} {sn : Nat → Bool} (h : RS G sn) {b t : Nat} {x : Blk} (hb : b < G.length) (hs : sn b = true) (hx : G[b]? = some x) (ht : (t : Int) ∈ x.nx) : RS G (upd sn t true) := by
 refine ⟨?_, fun i hi hs' => ?_⟩
 ·unfold upd; split; rfl; exact h.zero
 ·unfold upd at hs'
  split at hs'
  ·rename_i e; rw [e]; exact GR.step (h.sound b hb hs) hx ht
  ·exact h.sound i hi hs'
end Go.Proofs.YtebklpnkcicpjaaDoor

namespace Go.Proofs.YtebklpnkcicpjaaDoor
open Go.RowKit
set_option linter.unusedVariables false
set_option linter.unusedSimpArgs false

theorem addN_nodup {l : List Int} (h : l.Nodup) (x : Int) : (addN l x).Nodup := by
 unfold addN
 split
 ·exact h
 ·rename_i hx
  rw [List.nodup_append]
  exact ⟨h, by simp, fun a ha b hb => by simp at hb; subst hb; exact fun e => hx (e ▸ ha)⟩
theorem nxl_nodup (L : List (Int × Int)) (S : List Int) : (nxl L S).Nodup := by
 have : ∀ (S l : List Int), l.Nodup → (S.foldl (fun l s => addN l (idx L s : Int)) l).Nodup := by
  intro S
  induction S with
  | nil => intro l h; exact h
  | cons s S ih => intro l h; rw [List.foldl_cons]; exact ih _ (addN_nodup h _)
 exact this S [] (by simp)
theorem mem_addN {l : List Int} {x y : Int} : y ∈ addN l x ↔ y ∈ l ∨ y = x := by
 unfold addN
 split
 ·rename_i h
  constructor
  ·exact .inl
  ·rintro (h1 | rfl)
   ·exact h1
   ·exact h
 ·simp
theorem mem_nxl (L : List (Int × Int)) (S : List Int) (y : Int) : y ∈ nxl L S ↔ ∃ s ∈ S, y = (idx L s : Int) := by
 have : ∀ (S l : List Int), y ∈ (S.foldl (fun l s => addN l (idx L s : Int)) l) ↔ y ∈ l ∨ ∃ s ∈ S, y = (idx L s : Int) := by
  intro S
  induction S with
  | nil => intro l; simp
  | cons s S ih =>
   intro l
   rw [List.foldl_cons, ih, mem_addN]
   simp [or_assoc]
 have h := this S []
 simpa [nxl] using h

structure GInv (c : Int → Ins) (st en : Int) (D : List Int) (L : List (Int × Int)) : Prop where
 b : BInv c st D (en - st).toNat L
 mem : ∀ a, a ∈ D ↔ Rch c st en a
 all : ∀ a ∈ D, ∀ t ∈ succI (c a) a, t ∈ D
 st0 : 0 ≤ st
 lt : st < en
theorem GInv.of {c : Int → Ins} {st en : Int} {D : List Int} (h0 : 0 ≤ st) (h1 : st < en) (hR : RInv c st en D [] (-1)) : GInv c st en D (blk c st D (en - st).toNat) := by
 refine ⟨blk_inv c st D _, hR.mem h1, fun a ha t ht => ?_, h0, h1⟩
 have hb : ¬ Bads c st en a := by
  rcases hR.b with h | h
  ·exact h.2 a ha
  ·have := (hR.dr _ h.1).range _ _ _ h1
   omega
 have hin : st ≤ t ∧ t < en := Classical.byContradiction fun h => hb ⟨t, ht, h⟩
 rcases hR.cl a ha t ht hin.1 hin.2 with h | h
 ·exact h
 ·cases h
section
variable {c : Int → Ins} {st en : Int} {D : List Int} {L : List (Int × Int)}
theorem GInv.range (h : GInv c st en D L) {a : Int} (ha : a ∈ D) : st ≤ a ∧ a < en := ((h.mem a).1 ha).range _ _ _ h.lt
theorem GInv.succ (h : GInv c st en D L) {p : Int × Int} (hp : p ∈ L) {s : Int} (hs : s ∈ succI (c (p.2 - 1)) (p.2 - 1)) : s ∈ D ∧ ∃ q ∈ L, q.1 = s := by
 have hla := h.b.last p hp
 have hsD := h.all _ hla s hs
 have hin := h.range hsD
 refine ⟨hsD, h.b.num s hin.1 (by have := h.lt; omega) hsD ?_⟩
 by_cases hbr : isBr (c (p.2 - 1)).op = true
 ·rw [ldB_iff]
  refine .inr ⟨_, hla, ?_⟩
  unfold marksI
  rw [if_pos hbr]
  exact hs
 ·have : s = p.2 := by
   unfold succI at hs
   unfold isBr at hbr
   split at hs
   ·cases hs
   ·split at hs
    ·simp_all
    ·split at hs
     ·rename_i h; rcases h with h | h <;> simp [h] at hbr
     ·simp at hs; omega
  rw [this] at hsD hin ⊢
  exact h.b.cl _ hp (by have := h.lt; omega) hsD
theorem GInv.next (h : GInv c st en D L) {k : Nat} (hk : k < L.length) : ∀ t ∈ nextOf c L k, 0 ≤ t ∧ t < (L.length : Int) := by
 intro t ht
 unfold nextOf at ht
 obtain ⟨s, hs, rfl⟩ := (mem_nxl _ _ _).1 ht
 have e1 : L.getD k (0, 0) = L[k] := by simp [List.getD, List.getElem?_eq_getElem hk]
 unfold lastI at hs
 rw [e1] at hs
 obtain ⟨_, hq⟩ := h.succ (List.getElem_mem hk) hs
 have := (nmb_some hq).2.1
 omega
theorem gBlks_at (c : Int → Ins) (L : List (Int × Int)) {k : Nat} (hk : k < L.length) : (gBlks c L)[k]? = some ⟨(L[k]).1, (L[k]).2, nextOf c L k⟩ := by
 unfold gBlks
 rw [List.getElem?_map, List.getElem?_range hk]
 simp [List.getD, List.getElem?_eq_getElem hk]
theorem gBlks_len (c : Int → Ins) (L : List (Int × Int)) : (gBlks c L).length = L.length := by simp [gBlks]
theorem okL_of {n : Nat} {G : List Blk} (h1 : ∀ (k : Nat) (x : Blk), G[k]? = some x → x.lo < x.hi ∧ x.nx.length ≤ 2 ∧ (∀ t ∈ x.nx, 0 ≤ t ∧ t < (n : Int)) ∧ x.nx.Nodup) (h2 : ∀ x, G[0]? = some x → 0 ≤ x.lo) (h3 : ∀ (k : Nat) (x y : Blk), G[k]? = some x → G[k + 1]? = some y → x.hi ≤ y.lo) : ∃ z, okL n 0 G z := by
 have key : ∀ m, m ≤ G.length → ∃ z, okL n 0 (G.take m) z ∧ (∀ x, G[m]? = some x → z ≤ x.lo) := by
  intro m
  induction m with
  | zero => intro _; exact ⟨0, rfl, h2⟩
  | succ m ih =>
   intro hm
   obtain ⟨z, hz, hl⟩ := ih (by omega)
   have hx : G[m]? = some G[m] := List.getElem?_eq_getElem (by omega)
   obtain ⟨a1, a2, a3, a4⟩ := h1 m _ hx
   refine ⟨G[m].hi, ?_, fun y hy => h3 m _ y hx hy⟩
   rw [take_snoc hx]
   refine hz.snoc ⟨hl _ hx, a1, a2, a3, fun ⟨e1, e2⟩ => ?_⟩
   match hnx : G[m].nx, e1, e2, a4 with
   | [u, v], _, e2, a4 => simp at e2 a4; exact a4 e2
 obtain ⟨z, hz, _⟩ := key G.length (Nat.le_refl _)
 rw [List.take_length] at hz
 exact ⟨z, hz⟩
theorem cntP_nodup {nx : List Int} (h : nx.Nodup) (p k : Nat) : cntP nx p k = if (p : Int) ∈ nx then [(k : Int)] else [] := by
 induction nx with
 | nil => rfl
 | cons x nx ih =>
  obtain ⟨h1, h2⟩ := List.nodup_cons.1 h
  have ih := ih h2
  unfold cntP at ih ⊢
  by_cases e : x = (p : Int)
  ·subst e
   rw [if_pos (by simp)]
   simp only [List.filter_cons, decide_true, if_true, List.map_cons]
   rw [ih, if_neg h1]
  ·have e' : (p : Int) ≠ x := fun h => e h.symm
   simp only [List.filter_cons, e, decide_false, Bool.false_eq_true, if_false]
   rw [ih]
   simp [e']
theorem gPrev_eq (c : Int → Ins) (L : List (Int × Int)) : (List.range (gBlks c L).length).map (prvAt (gBlks c L) (gBlks c L).length []) = gPrev c L := by
 unfold gPrev
 rw [gBlks_len]
 apply List.map_congr_left
 intro p _
 unfold prvAt prvs prevOf
 have : cntP [] p L.length = [] := rfl
 rw [this, List.append_nil]
 have key : ∀ m, m ≤ L.length → (List.range m).flatMap (fun b => cntP ((gBlks c L).getD b ⟨0, 0, []⟩).nx p b) = ((List.range m).filter (fun b => decide ((p : Int) ∈ nextOf c L b))).map (fun (b : Nat) => (b : Int)) := by
  intro m
  induction m with
  | zero => intro _; rfl
  | succ m ih =>
   intro hm
   rw [List.range_succ, List.flatMap_append, List.filter_append, List.map_append, ih (by omega)]
   congr 1
   have e : (gBlks c L).getD m ⟨0, 0, []⟩ = ⟨(L[m]).1, (L[m]).2, nextOf c L m⟩ := by simp [List.getD, gBlks_at c L (show m < L.length by omega)]
   simp only [List.flatMap_cons, List.flatMap_nil, List.append_nil, e]
   rw [cntP_nodup (show (nextOf c L m).Nodup from nxl_nodup _ _)]
   by_cases hp : (p : Int) ∈ nextOf c L m
   ·rw [if_pos hp]; simp [hp]
   ·rw [if_neg hp]; simp [hp]
 exact key L.length (Nat.le_refl _)
theorem GInv.valid (h : GInv c st en D L) (hst : st ∈ D) : ValidG (gBlks c L) (gPrev c L) := by
 have hn0 : L ≠ [] := h.b.ne hst (by have := h.lt; omega)
 refine ⟨fun e => hn0 ?_, by simp [gPrev, gBlks], ?_, gPrev_eq c L⟩
 ·have := congrArg List.length e
  rw [gBlks_len] at this
  exact List.length_eq_zero_iff.1 this
 ·rw [gBlks_len]
  refine okL_of (fun k x hx => ?_) (fun x hx => ?_) (fun k x y hx hy => ?_)
  ·have hk : k < L.length := by have := (List.getElem?_eq_some_iff.1 hx).1; rwa [gBlks_len] at this
   rw [gBlks_at c L hk] at hx
   cases hx
   refine ⟨(h.b.lo _ (List.getElem_mem hk)).2.1, Nat.le_trans (nxl_len _ _) (succI_len _ _), h.next hk, nxl_nodup _ _⟩
  ·have hk : 0 < L.length := by have := (List.getElem?_eq_some_iff.1 hx).1; rwa [gBlks_len] at this
   rw [gBlks_at c L hk] at hx
   cases hx
   have := (h.b.lo _ (List.getElem_mem hk)).1
   have := h.st0
   simp only
   omega
  ·have hk : k + 1 < L.length := by have := (List.getElem?_eq_some_iff.1 hy).1; rwa [gBlks_len] at this
   rw [gBlks_at c L (by omega)] at hx
   rw [gBlks_at c L hk] at hy
   cases hx
   cases hy
   exact List.pairwise_iff_getElem.1 h.b.ordd k (k + 1) (by omega) hk (by omega)
end

end Go.Proofs.YtebklpnkcicpjaaDoor

namespace Go.Proofs.YtebklpnkcicpjaaDoor
open Go.RowKit
set_option linter.unusedVariables false
set_option linter.unusedSimpArgs false

section
variable {c : Int → Ins} {st en : Int} {D : List Int} {L : List (Int × Int)}
structure Inner (c : Int → Ins) (st : Int) (D : List Int) (x : Int) : Prop where
 ne : x ≠ st
 before : x - 1 ∈ D
 br : isBr (c (x - 1)).op = false
 halt : (c (x - 1)).op ≠ 1
 unlock : (c (x - 1)).op ≠ 29
 lock : (c x).op ≠ 28
theorem GInv.inner (h : GInv c st en D L) {x : Int} (hx : x ∈ D) (hl : ldB c st D x = false) : Inner c st D x := by
 have hnl : ¬ Lead c st D x := fun hh => by rw [(ldB_iff c st D x).2 hh] at hl; cases hl
 have hns : x ≠ st := fun e => hnl (.inl e)
 have key : ∃ a, a ∈ D ∧ x ∈ succI (c a) a := by
  have := (h.mem x).1 hx
  cases this with
  | start => exact absurd rfl hns
  | step h1 h2 h3 h4 => exact ⟨_, (h.mem _).2 h1, h2⟩
 obtain ⟨a, ha, hs⟩ := key
 have hbr : isBr (c a).op = false := by
  rcases hb : isBr (c a).op
  ·rfl
  ·exact absurd (.inr ⟨a, ha, by unfold marksI; rw [if_pos hb]; exact hs⟩) hnl
 have hsa : (c a).op ≠ 1 ∧ x = a + 1 := by
  unfold succI at hs
  unfold isBr at hbr
  split at hs
  ·cases hs
  ·rename_i h1
   refine ⟨h1, ?_⟩
   split at hs
   ·rename_i h2; simp [h2] at hbr
   ·split at hs
    ·rename_i h2; rcases h2 with h2 | h2 <;> simp [h2] at hbr
    ·simpa using hs
 obtain ⟨h1, rfl⟩ := hsa
 have e : a + 1 - 1 = a := by omega
 refine ⟨hns, by rw [e]; exact ha, by rw [e]; exact hbr, by rw [e]; exact h1, ?_, fun h28 => ?_⟩
 ·rw [e]
  intro h29
  exact hnl (.inr ⟨a, ha, by unfold marksI; rw [if_neg (by simp [hbr]), if_neg (by omega), if_pos h29]; simp⟩)
 ·refine hnl (.inr ⟨a + 1, hx, ?_⟩)
  have hb2 : isBr (c (a + 1)).op = false := by simp [isBr, h28]
  unfold marksI
  rw [if_neg (by simp [hb2]), if_pos h28]
  simp
theorem blk_inner (hg : ∀ x ∈ D, ldB c st D x = false → x ≠ st ∧ x - 1 ∈ D) : ∀ m : Nat, (∀ p ∈ blk c st D m, ∀ x, p.1 < x → x < p.2 → x ∈ D ∧ ldB c st D x = false) ∧ (0 < m → st + (m : Int) - 1 ∈ D → ∃ M a, blk c st D m = M ++ [(a, st + (m : Int))])
 | 0 => ⟨by simp [blk], fun h => by omega⟩
 | m + 1 => by
  obtain ⟨i1, i2⟩ := blk_inner hg m
  have e0 : st + ((m + 1 : Nat) : Int) - 1 = st + m := by omega
  have e1 : st + ((m + 1 : Nat) : Int) = st + m + 1 := by omega
  rw [e0, e1]
  unfold blk
  by_cases hD : st + (m : Int) ∈ D
  ·rw [if_pos hD]
   by_cases hl : ldB c st D (st + m) = true
   ·rw [if_pos hl]
    refine ⟨fun p hp x h1 h2 => ?_, fun _ _ => ⟨_, _, rfl⟩⟩
    rcases List.mem_append.1 hp with hp | hp
    ·exact i1 p hp x h1 h2
    ·simp at hp; subst hp; simp only at h1 h2; omega
   ·have hl' : ldB c st D (st + m) = false := by simpa using hl
    rw [if_neg hl]
    obtain ⟨hn, hb⟩ := hg _ hD hl'
    have hm : 0 < m := by
     rcases Nat.eq_zero_or_pos m with e | e
     ·subst e; simp at hn
     ·exact e
    obtain ⟨M, a, hM⟩ := i2 hm hb
    rw [hM, setTo_snoc]
    refine ⟨fun p hp x h1 h2 => ?_, fun _ _ => ⟨_, _, rfl⟩⟩
    rcases List.mem_append.1 hp with hp | hp
    ·exact i1 p (by rw [hM]; simp [hp]) x h1 h2
    ·simp at hp; subst hp
     simp only at h1 h2
     by_cases ex : x = st + m
     ·rw [ex]; exact ⟨hD, hl'⟩
     ·exact i1 (a, st + m) (by rw [hM]; simp) x h1 (by simp only; omega)
  ·rw [if_neg hD]
   exact ⟨i1, fun _ h => absurd h hD⟩
theorem succ_plain {a t : Int} (hbr : isBr (c a).op = false) (hs : t ∈ succI (c a) a) : t = a + 1 ∧ (c a).op ≠ 1 := by
 unfold succI at hs
 unfold isBr at hbr
 split at hs
 ·cases hs
 ·rename_i h1
  refine ⟨?_, h1⟩
  split at hs
  ·rename_i h2; simp [h2] at hbr
  ·split at hs
   ·rename_i h2; rcases h2 with h2 | h2 <;> simp [h2] at hbr
   ·simpa using hs
theorem blk_cover (hg : ∀ x ∈ D, ldB c st D x = false → x ≠ st ∧ x - 1 ∈ D) : ∀ m : Nat, ∀ a ∈ D, st ≤ a → a < st + (m : Int) → ∃ p ∈ blk c st D m, p.1 ≤ a ∧ a < p.2
 | 0, a, _, h1, h2 => by omega
 | m + 1, a, ha, h1, h2 => by
  have ih := blk_cover hg m
  unfold blk
  by_cases hD : st + (m : Int) ∈ D
  ·rw [if_pos hD]
   by_cases hl : ldB c st D (st + m) = true
   ·rw [if_pos hl]
    by_cases e : a = st + m
    ·exact ⟨(st + m, st + m + 1), by simp, by simp only; omega, by simp only; omega⟩
    ·obtain ⟨p, hp, q⟩ := ih a ha h1 (by omega)
     exact ⟨p, by simp [hp], q⟩
   ·have hl' : ldB c st D (st + m) = false := by simpa using hl
    rw [if_neg hl]
    obtain ⟨hn, hb⟩ := hg _ hD hl'
    have hm : 0 < m := by
     rcases Nat.eq_zero_or_pos m with e | e
     ·subst e; simp at hn
     ·exact e
    obtain ⟨M, a', hM⟩ := (blk_inner hg m).2 hm hb
    have hlo := (blk_inv c st D m).lo (a', st + m) (by rw [hM]; simp)
    rw [hM, setTo_snoc]
    by_cases e : a = st + m
    ·exact ⟨(a', st + m + 1), by simp, by simp only at hlo ⊢; omega, by simp only; omega⟩
    ·obtain ⟨p, hp, q1, q2⟩ := ih a ha h1 (by omega)
     rw [hM] at hp
     rcases List.mem_append.1 hp with hp | hp
     ·exact ⟨p, by simp [hp], q1, q2⟩
     ·simp at hp; subst hp
      exact ⟨(a', st + m + 1), by simp, q1, by simp only at q2 ⊢; omega⟩
  ·rw [if_neg hD]
   by_cases e : a = st + m
   ·rw [e] at ha; exact absurd ha hD
   ·exact ih a ha h1 (by omega)
theorem GInv.inn0 (h : GInv c st en D (blk c st D (en - st).toNat)) {p : Int × Int} (hp : p ∈ blk c st D (en - st).toNat) {x : Int} (h1 : p.1 < x) (h2 : x < p.2) : x ∈ D ∧ ldB c st D x = false :=
 (blk_inner (c := c) (st := st) (D := D) (fun x hx hl => ⟨(h.inner hx hl).ne, (h.inner hx hl).before⟩) (en - st).toNat).1 p hp x h1 h2
theorem GInv.cover (h : GInv c st en D (blk c st D (en - st).toNat)) {a : Int} (ha : a ∈ D) : ∃ p ∈ blk c st D (en - st).toNat, p.1 ≤ a ∧ a < p.2 := by
 have hr := h.range ha
 exact blk_cover (c := c) (st := st) (D := D) (fun x hx hl => ⟨(h.inner hx hl).ne, (h.inner hx hl).before⟩) _ a ha hr.1 (by omega)
theorem GInv.inn (h : GInv c st en D (blk c st D (en - st).toNat)) {p : Int × Int} (hp : p ∈ blk c st D (en - st).toNat) {x : Int} (h1 : p.1 < x) (h2 : x < p.2) : x ∈ D ∧ Inner c st D x := by
 obtain ⟨a, b⟩ := (blk_inner (c := c) (st := st) (D := D) (fun x hx hl => ⟨(h.inner hx hl).ne, (h.inner hx hl).before⟩) (en - st).toNat).1 p hp x h1 h2
 exact ⟨a, h.inner a b⟩
theorem GInv.uniq (h : GInv c st en D L) {i j : Nat} (hi : i < L.length) (hj : j < L.length) (e : (L[i]).1 = (L[j]).1) : i = j := by
 rcases Nat.lt_trichotomy i j with hlt | rfl | hlt
 ·have := List.pairwise_iff_getElem.1 h.b.ordd i j hi hj hlt
  have := (h.b.lo _ (List.getElem_mem hi)).2.1
  omega
 ·rfl
 ·have := List.pairwise_iff_getElem.1 h.b.ordd j i hj hi hlt
  have := (h.b.lo _ (List.getElem_mem hj)).2.1
  omega
theorem idx_of (h : GInv c st en D L) {i : Nat} (hi : i < L.length) : idx L (L[i]).1 = i := by
 obtain ⟨_, h2, h3⟩ := nmb_some (L := L) (x := (L[i]).1) ⟨L[i], List.getElem_mem hi, rfl⟩
 have e : L.getD (idx L (L[i]).1) (0, 0) = L[idx L (L[i]).1] := by simp [List.getD, List.getElem?_eq_getElem h2]
 rw [e] at h3
 exact h.uniq h2 hi h3
theorem GInv.first (h : GInv c st en D L) (hst : st ∈ D) (h0 : 0 < L.length) : (L[0]).1 = st := by
 obtain ⟨q, hq, e⟩ := h.b.num st (Int.le_refl _) (by have := h.lt; omega) hst (ldB_st c st D)
 obtain ⟨j, hj, ej⟩ := List.getElem_of_mem hq
 rcases Nat.eq_zero_or_pos j with e0 | e0
 ·subst e0; rw [ej]; exact e
 ·have := List.pairwise_iff_getElem.1 h.b.ordd 0 j h0 hj e0
  have := (h.b.lo _ (List.getElem_mem h0))
  rw [ej] at *
  omega
end

theorem GInv.reached {c : Int → Ins} {st en : Int} {D : List Int} {L : List (Int × Int)} (hL : blk c st D (en - st).toNat = L) (h : GInv c st en D L) (hst : st ∈ D) : ∀ i, i < (gBlks c L).length → GR (gBlks c L) i := by
 have h' : GInv c st en D (blk c st D (en - st).toNat) := by rw [hL]; exact h
 have hn0 : 0 < L.length := List.length_pos_iff.2 (h.b.ne hst (by have := h.lt; omega))
 have key : ∀ a, Rch c st en a → ∀ i (hi : i < L.length), (L[i]).1 ≤ a → a < (L[i]).2 → GR (gBlks c L) i := by
  intro a ha
  induction ha with
  | start =>
   intro i hi h1 h2
   have l0 := h.first hst hn0
   have li := h.b.lo _ (List.getElem_mem hi)
   have : i = 0 := h.uniq hi hn0 (by omega)
   subst this
   exact GR.start
  | @step a t h1 h2 h3 h4 ih =>
   intro i hi hl hu
   have haD := (h.mem a).2 h1
   by_cases hfirst : t = (L[i]).1
   ·-- the block of a
    obtain ⟨k, hk, hka, hkb⟩ : ∃ (k : Nat) (hk : k < L.length), (L[k]).1 ≤ a ∧ a < (L[k]).2 := by
     obtain ⟨p, hp, q1, q2⟩ := h'.cover haD
     rw [hL] at hp
     obtain ⟨k, hk, ek⟩ := List.getElem_of_mem hp
     exact ⟨k, hk, by rw [ek]; exact q1, by rw [ek]; exact q2⟩
    have hg := ih k hk hka hkb
    by_cases hlast : a = (L[k]).2 - 1
    ·refine GR.step hg (gBlks_at c L hk) ?_
     simp only
     unfold nextOf
     rw [mem_nxl]
     refine ⟨t, ?_, by rw [hfirst, idx_of h hi]⟩
     unfold lastI
     have e1 : L.getD k (0, 0) = L[k] := by simp [List.getD, List.getElem?_eq_getElem hk]
     rw [e1, ← hlast]
     exact h2
    ·exfalso
     have hin := h'.inn (p := L[k]) (by rw [hL]; exact List.getElem_mem hk) (x := a + 1) (by omega) (by omega)
     have hb := hin.2.br
     rw [show a + 1 - 1 = a by omega] at hb
     have ht := (succ_plain hb h2).1
     rcases Nat.lt_trichotomy i k with hlt | rfl | hlt
     ·have := List.pairwise_iff_getElem.1 h.b.ordd i k hi hk hlt
      have := (h.b.lo _ (List.getElem_mem hi)).2.1
      omega
     ·omega
     ·have := List.pairwise_iff_getElem.1 h.b.ordd k i hk hi hlt
      omega
   ·obtain ⟨hin1, hin2⟩ := h'.inn0 (p := L[i]) (by rw [hL]; exact List.getElem_mem hi) (x := t) (by omega) hu
    have hbr : isBr (c a).op = false := by
     rcases hb : isBr (c a).op
     ·rfl
     ·have : ldB c st D t = true := (ldB_iff c st D t).2 (.inr ⟨a, haD, by unfold marksI; rw [if_pos hb]; exact h2⟩)
      rw [this] at hin2; cases hin2
    have ht := (succ_plain hbr h2).1
    exact ih i hi (by omega) (by omega)
 intro i hi
 rw [gBlks_len] at hi
 have hld := h.b.lead _ (List.getElem_mem hi)
 have hlo := h.b.lo _ (List.getElem_mem hi)
 exact key _ ((h.mem _).1 hld.1) i hi (Int.le_refl _) hlo.2.1

end Go.Proofs.YtebklpnkcicpjaaDoor

namespace Go.Proofs.YtebklpnkcicpjaaDoor
open Go.RowKit
set_option linter.unusedVariables false
set_option linter.unusedSimpArgs false

section
variable {c c' : Int → Ins} {st en : Int}
theorem rch_congr (hlt : st < en) (h : ∀ a, st ≤ a → a < en → c a = c' a) {a : Int} (ha : Rch c st en a) : Rch c' st en a := by
 induction ha with
 | start => exact .start
 | step h1 h2 h3 h4 ih =>
  have hr := h1.range _ _ _ hlt
  exact .step ih (by rw [← h _ hr.1 hr.2]; exact h2) h3 h4
theorem rch_iff (hlt : st < en) (h : ∀ a, st ≤ a → a < en → c a = c' a) (a : Int) : Rch c st en a ↔ Rch c' st en a :=
 ⟨rch_congr hlt h, rch_congr hlt (fun a h1 h2 => (h a h1 h2).symm)⟩
theorem bads_congr (h : ∀ a, st ≤ a → a < en → c a = c' a) {a : Int} (h1 : st ≤ a) (h2 : a < en) : Bads c st en a ↔ Bads c' st en a := by
 unfold Bads
 rw [h a h1 h2]
theorem RInv.same {D D' : List Int} {bad bad' : Int} (h0 : 0 ≤ st) (hlt : st < en) (h : ∀ a, st ≤ a → a < en → c a = c' a) (hR : RInv c st en D [] bad) (hR' : RInv c' st en D' [] bad') : (∀ x, x ∈ D ↔ x ∈ D') ∧ bad = bad' := by
 have hm : ∀ x, x ∈ D ↔ x ∈ D' := fun x => by rw [hR.mem hlt, hR'.mem hlt, rch_iff hlt h]
 have hb : ∀ x, x ∈ D → (Bads c st en x ↔ Bads c' st en x) := fun x hx => by
  have := (hR.dr x hx).range _ _ _ hlt
  exact bads_congr h this.1 this.2
 refine ⟨hm, ?_⟩
 rcases hR.b with ⟨e, h1⟩ | ⟨e, h1, h2⟩ <;> rcases hR'.b with ⟨e', h1'⟩ | ⟨e', h1', h2'⟩
 ·rw [e, e']
 ·exact absurd ((hb _ ((hm _).2 e')).2 h1') (h1 _ ((hm _).2 e'))
 ·exact absurd ((hb _ e).1 h1) (h1' _ ((hm _).1 e))
 ·have a1 := h2 _ ((hm _).2 e') ((hb _ ((hm _).2 e')).2 h1')
  have a2 := h2' _ ((hm _).1 e) ((hb _ e).1 h1)
  omega
theorem ldB_code {D : List Int} (h : ∀ a ∈ D, c a = c' a) (x : Int) : ldB c st D x = ldB c' st D x := by
 unfold ldB
 congr 1
 apply Bool.eq_iff_iff.2
 simp only [List.any_eq_true, decide_eq_true_eq]
 constructor
 ·rintro ⟨a, ha, hx⟩; exact ⟨a, ha, by rw [← h a ha]; exact hx⟩
 ·rintro ⟨a, ha, hx⟩; exact ⟨a, ha, by rw [h a ha]; exact hx⟩
theorem blk_code {D : List Int} (h : ∀ a ∈ D, c a = c' a) : ∀ m, blk c st D m = blk c' st D m
 | 0 => rfl
 | m + 1 => by
  unfold blk
  rw [blk_code h m, ldB_code h]
theorem blk_same {D D' : List Int} (hm : ∀ x, x ∈ D ↔ x ∈ D') (h : ∀ a ∈ D, c a = c' a) (m : Nat) : blk c st D m = blk c' st D' m := by
 rw [blk_code h m, blk_congr c' st hm m]
theorem nextOf_code {L : List (Int × Int)} (h : ∀ p ∈ L, c (p.2 - 1) = c' (p.2 - 1)) {k : Nat} (hk : k < L.length) : nextOf c L k = nextOf c' L k := by
 unfold nextOf lastI
 have e : L.getD k (0, 0) = L[k] := by simp [List.getD, List.getElem?_eq_getElem hk]
 rw [e, h _ (List.getElem_mem hk)]
theorem gBlks_code {L : List (Int × Int)} (h : ∀ p ∈ L, c (p.2 - 1) = c' (p.2 - 1)) : gBlks c L = gBlks c' L := by
 unfold gBlks
 apply List.map_congr_left
 intro k hk
 rw [nextOf_code h (List.mem_range.1 hk)]
theorem gPrev_code {L : List (Int × Int)} (h : ∀ p ∈ L, c (p.2 - 1) = c' (p.2 - 1)) : gPrev c L = gPrev c' L := by
 unfold gPrev
 apply List.map_congr_left
 intro p hp
 unfold prevOf
 congr 1
 apply List.filter_congr
 intro b hb
 rw [nextOf_code h (List.mem_range.1 hb)]
end

end Go.Proofs.YtebklpnkcicpjaaDoor

namespace Go.Proofs.YtebklpnkcicpjaaDoor
open Go.RowKit
set_option linter.unusedVariables false
set_option linter.unusedSimpArgs false

structure Res where
 G : List Blk
 P : List (List Int)
 at_ : Int
 er : Int
inductive Out (c : Int → Ins) (st en : Int) : Res → Prop
 | bad (D : List Int) (bad : Int) (h0 : 0 ≤ bad) (h : RInv c st en D [] bad) : Out c st en ⟨[], [], bad, 10⟩
 | ok (D : List Int) (h : RInv c st en D [] (-1)) : Out c st en ⟨gBlks c (blk c st D (en - st).toNat), gPrev c (blk c st D (en - st).toNat), -1, 0⟩
theorem Out.same {c c' : Int → Ins} {st en : Int} {r r' : Res} (h0 : 0 ≤ st) (hlt : st < en) (hc : ∀ a, st ≤ a → a < en → c a = c' a) (h : Out c st en r) (h' : Out c' st en r') : r = r' := by
 have hbad : ∀ (D D' : List Int) (b b' : Int), RInv c st en D [] b → RInv c' st en D' [] b' → (∀ x, x ∈ D ↔ x ∈ D') ∧ b = b' := fun D D' b b' h1 h2 => RInv.same h0 hlt hc h1 h2
 cases h with
 | bad D b hb hR =>
  cases h' with
  | bad D' b' hb' hR' => rw [(hbad _ _ _ _ hR hR').2]
  | ok D' hR' => have := (hbad _ _ _ _ hR hR').2; omega
 | ok D hR =>
  cases h' with
  | bad D' b' hb' hR' => have := (hbad _ _ _ _ hR hR').2; omega
  | ok D' hR' =>
   obtain ⟨hm, _⟩ := hbad _ _ _ _ hR hR'
   have hD : ∀ a ∈ D, c a = c' a := fun a ha => by
    have := (hR.dr a ha).range _ _ _ hlt
    exact hc a this.1 this.2
   rw [← blk_same hm hD]
   have hL : ∀ p ∈ blk c st D (en - st).toNat, c (p.2 - 1) = c' (p.2 - 1) := fun p hp => hD _ ((blk_inv c st D _).last p hp)
   rw [gBlks_code hL, gPrev_code hL]
theorem build_out (cv ev : Value) (sh lk : Int) (n : Nat) (cd : Nat → Int) (ents : List Ent) (k : Nat) (e : Ent) (w : World) (T : Tab w) (HW : Words w cv n cd) (HE : Ents w ev ents) (hg : GoodI n cd ents sh lk) (he : ents[k]? = some e) :
  Calls Tryd.prog 30 #[.agg #[cv, ev, .int .i64 sh, .int .i64 lk], .int .i64 (k : Int)] w fun x w' => ∃ (r : Res) (bv pv : Value), Out (insAt cd) e.st e.en r ∧ x = .returned (.tuple #[.agg #[bv, pv], .int .i64 r.at_, .int .i64 r.er]) ∧ Blks w' bv r.G ∧ Lls w' pv r.P ∧ Below w.heap.size w w' := by
 have hk := (List.getElem?_eq_some_iff.1 he).1
 refine (build_any cv ev sh lk n cd ents k w T HW HE).mono fun x w' h => ?_
 rcases h with ⟨h, _⟩ | ⟨_, h, _⟩ | ⟨_, k', en, D, bad, hk', he', hb, hR, hx, hbl⟩ | ⟨_, k', en, D, L, bv, pv, hk', he', hR, hL, hx, h1, h2, hbl⟩
 ·exact absurd hg h
 ·omega
 ·obtain rfl : k = k' := by omega
  rw [he] at he'
  cases he'
  exact ⟨_, _, _, .bad D bad hb hR, hx, ⟨none, 0, rfl, Nat.le_refl _, by unfold maxLen; omega, fun h => by simp at h⟩, ⟨none, 0, rfl, Nat.le_refl _, by unfold maxLen; omega, fun h => by simp at h⟩, hbl⟩
 ·obtain rfl : k = k' := by omega
  rw [he] at he'
  cases he'
  subst hL
  exact ⟨_, bv, pv, .ok D hR, hx, h1, h2, hbl⟩

end Go.Proofs.YtebklpnkcicpjaaDoor


