/-
  What is proved here: what cfg.Valid returns.
-/
import Derived.Test.YtfceodpdipniaaaDoorCgPM
namespace Go.Proofs.YtfceodpdipniaaaDoor
open Go.RowKit
set_option linter.unusedVariables false
set_option linter.unusedSimpArgs false

structure OkB (n : Nat) (e : Int) (x : Blk) : Prop where
  lo : e ≤ x.lo
  hi : x.lo < x.hi
  two : x.nx.length ≤ 2
  nx : ∀ t ∈ x.nx, 0 ≤ t ∧ t < n
  ne : ¬ (x.nx.length = 2 ∧ x.nx.getD 0 0 = x.nx.getD 1 0)
def okL (n : Nat) : Int → List Blk → Int → Prop
  | a, [], z => a = z
  | a, x :: xs, z => OkB n a x ∧ okL n x.hi xs z
theorem okL.append {n : Nat} {l2 : List Blk} : ∀ {l1 : List Blk} {a z : Int}, okL n a (l1 ++ l2) z ↔ ∃ m, okL n a l1 m ∧ okL n m l2 z
  | [], a, z => ⟨fun h => ⟨a, rfl, h⟩, fun ⟨m, h1, h2⟩ => by cases h1; exact h2⟩
  | e :: l1, a, z => by
    constructor
    · rintro ⟨h1, h3⟩
      obtain ⟨m, h4, h5⟩ := okL.append.1 h3
      exact ⟨m, ⟨h1, h4⟩, h5⟩
    · rintro ⟨m, ⟨h1, h3⟩, h4⟩
      exact ⟨h1, okL.append.2 ⟨m, h3, h4⟩⟩
theorem okL.det {n : Nat} : ∀ {l : List Blk} {a z z' : Int}, okL n a l z → okL n a l z' → z = z'
  | [], a, z, z', h, h' => by cases h; exact h'
  | e :: l, a, z, z', h, h' => okL.det h.2 h'.2
theorem okL.snoc {n : Nat} {l : List Blk} {x : Blk} {a m : Int} (h : okL n a l m) (h1 : OkB n m x) : okL n a (l ++ [x]) x.hi := okL.append.2 ⟨m, h, h1, rfl⟩
theorem okL.no {n : Nat} {G : List Blk} {k : Nat} {x : Blk} {m : Int} (hx : G[k]? = some x) (h : okL n 0 (G.take k) m) (hno : ¬ OkB n m x) : ∀ z, ¬ okL n 0 G z := by
  intro z hz
  have hk : k < G.length := (List.getElem?_eq_some_iff.1 hx).1
  have e1 : G = G.take k ++ (x :: G.drop (k + 1)) := by
    have := List.take_append_drop k G
    rw [List.drop_eq_getElem_cons hk] at this
    have e2 : G[k] = x := by rw [List.getElem?_eq_getElem hk] at hx; exact Option.some.inj hx
    rw [e2] at this
    exact this.symm
  rw [e1] at hz
  obtain ⟨m', h1, h2⟩ := okL.append.1 hz
  have := okL.det h h1
  subst this
  exact hno h2.1
structure ValidG (G : List Blk) (P : List (List Int)) : Prop where
  ne : G ≠ []
  len : P.length = G.length
  ok : ∃ z, okL G.length 0 G z
  prev : (List.range G.length).map (prvAt G G.length []) = P

theorem Blks.slice {w : World} {v : Value} {G : List Blk} (h : Blks w v G) : ∃ A cap, v = .slice A G.length cap ∧ G.length ≤ cap ∧ cap ≤ 2 ^ 63 - 1 := by
  obtain ⟨A, cap, h1, h2, h3, _⟩ := h
  unfold maxLen at h3
  exact ⟨A, cap, h1, h2, h3⟩
theorem Blks.at_ {w wr : World} {A : Option Addr} {cap : Nat} {G : List Blk} (h : Blks w (.slice A G.length cap) G) (hb : Below w.heap.size w wr) {j : Nat} (hj : j < G.length) :
    ∃ x nv b off, G[j]? = some x ∧ A = some ⟨b, off, none⟩ ∧ b < w.heap.size ∧ wr.cell? ⟨b, off + j * 3, none⟩ = some (.int .i64 x.lo) ∧ wr.cell? ⟨b, off + j * 3 + 1, none⟩ = some (.int .i64 x.hi) ∧ wr.cell? ⟨b, off + j * 3 + 2, none⟩ = some nv ∧ Ints w nv x.nx := by
  obtain ⟨A', cap', hv, _, _, h4⟩ := h
  cases hv
  obtain ⟨b, off, rfl, hlt, hc⟩ := h4 (by omega)
  obtain ⟨c0, c1, nv, c2, c3⟩ := hc j _ (List.getElem?_eq_getElem hj)
  exact ⟨G[j], nv, b, off, List.getElem?_eq_getElem hj, rfl, hlt, (hb.cell (p := ⟨b, _, none⟩) hlt).trans c0, (hb.cell (p := ⟨b, _, none⟩) hlt).trans c1, (hb.cell (p := ⟨b, _, none⟩) hlt).trans c2, c3⟩
theorem Ints.slice {w : World} {v : Value} {l : List Int} (h : Ints w v l) : ∃ A cap, v = .slice A l.length cap ∧ l.length ≤ cap ∧ cap ≤ 2 ^ 63 - 1 := by
  obtain ⟨A, cap, h1, h2, h3, _⟩ := h
  unfold maxLen at h3
  exact ⟨A, cap, h1, h2, h3⟩
theorem Ints.at_ {w wr : World} {A : Option Addr} {cap : Nat} {l : List Int} (h : Ints w (.slice A l.length cap) l) (hb : Below w.heap.size w wr) {j : Nat} (hj : j < l.length) :
    ∃ s b off, l[j]? = some s ∧ A = some ⟨b, off, none⟩ ∧ b < w.heap.size ∧ wr.cell? ⟨b, off + j, none⟩ = some (.int .i64 s) := by
  obtain ⟨A', cap', hv, _, _, h4⟩ := h
  cases hv
  obtain ⟨b, off, rfl, hlt, hc⟩ := h4 (by omega)
  refine ⟨l[j], b, off, List.getElem?_eq_getElem hj, rfl, hlt, ?_⟩
  rw [hb.cell (p := ⟨b, _, none⟩) hlt, hc j hj]
  simp [List.getD, List.getElem?_eq_getElem hj]
theorem own_box {w : World} {q B s n : Nat} {cs : Array Value} {t e : TypeId} {fr : Nat × Nat} {v : Value} {xs : List Value} (hq : w.heap[q]? = some (.cells cs t fr)) (h : w.ownsRow B e s v n xs) (hne : t ≠ e) : some q ≠ v.ownBlock := by
  intro e1
  rcases h.2 with ⟨rfl, _⟩ | ⟨g, cap, cur, rfl, _, hg, _⟩
  · cases e1
  · simp [Value.ownBlock] at e1
    subst e1
    rw [hq] at hg
    cases hg
    exact hne rfl

set_option maxHeartbeats 4000000 in
set_option maxRecDepth 20000 in
theorem valid_any' (bv pv : Value) (G : List Blk) (P : List (List Int)) (w : World) (HG : Blks w bv G) (HP : Lls w pv P) (hn : G.length ≤ 5000) (hnx : ∀ x ∈ G, x.nx.length ≤ 5000) :
    Calls Tryd.prog 19 #[.agg #[bv, pv]] w fun e w' => (∃ r : Bool, e = .returned (.bool r) ∧ (r = true ↔ ValidG G P)) ∧ Below w.heap.size w w' := by
  obtain ⟨A, cap, rfl, hc1, hc2⟩ := HG.slice
  obtain ⟨PA, pcap, rfl, hp1, hp2⟩ := HP.slice
  have HGH := Lib.hid HG
  have HPH := Lib.hid HP
  have HNX := Lib.hid hnx
  clear HG HP hnx
  obtain ⟨V0, hV0⟩ : ∃ V0, w.alloc (.cells #[.slice A G.length cap, .slice PA P.length pcap] 31) = V0 := ⟨_, rfl⟩
  have b0 : Below w.heap.size w V0 := hV0 ▸ (Below.refl _ _).alloc (Nat.le_refl _) _
  have s0 : w.heap.size < V0.heap.size := by rw [← hV0]; simp
  have k0 : V0.heap[w.heap.size]? = some (.cells #[.slice A G.length cap, .slice PA P.length pcap] 31) := by rw [← hV0]; exact heap_alloc_new _ _
  have y0 : V0.cell? ⟨w.heap.size, 0, none⟩ = some (.slice A G.length cap) := by simp [World.cell?, k0]
  have y1 : V0.cell? ⟨w.heap.size, 1, none⟩ = some (.slice PA P.length pcap) := by simp [World.cell?, k0]
  have K0 := Lib.hid k0
  have B0 := Lib.hid b0
  clear k0 b0
  go_enter Tryd.func19, Tryd.ntmps19
  by_cases q1 : G.length = 0
  · have d1 : ((G.length : Int) == 0) = true := by simp [q1]
    have HQ := Lib.hid q1
    clear q1
    go_wp2_with fail
    go_ret
    exact ⟨⟨false, rfl, by simp; intro h; exact h.ne (List.length_eq_zero_iff.1 HQ.out)⟩, B0.out⟩
  have d1 : ((G.length : Int) == 0) = false := beq_eq_false_iff_ne.2 (by omega)
  by_cases q2 : P.length = G.length
  case neg =>
    have d2 : ((P.length : Int) != (G.length : Int)) = true := by simp; omega
    have HQ := Lib.hid q2
    clear q2
    go_wp2_with fail
    go_ret
    exact ⟨⟨false, rfl, by simp; intro h; exact HQ.out h.len⟩, B0.out⟩
  have d2 : ((P.length : Int) != (G.length : Int)) = false := by simp; omega
  have HQ1 := Lib.hid q1
  have HQ2 := Lib.hid q2
  have hn0 : 0 < G.length := by omega
  clear q1 q2
  obtain ⟨i2, hi2, hs0, hs1, hs2⟩ := info_parts infoS
  obtain ⟨U1, lm, rowP, gr1⟩ := run_make_full (P := Tryd.prog) V0 V0.heap.size 29 49 i2 (.slice none 0 0) 1 Tryd.underlying29 hi2 hs0 hs1 .i64 .i64 G.length (by rw [hs2]; omega) (by unfold maxLen; omega) (Nat.le_refl _)
  rw [Nat.mul_one, show (Value.slice none 0 0).cells = #[Value.slice none 0 0] from rfl, toList_madeCells_one] at rowP
  have HPM := Lib.hid (PM.made gr1 (Below.refl _ _) rowP)
  have u0 : U1.cell? ⟨w.heap.size, 0, none⟩ = some (.slice A G.length cap) := by rw [HPM.out.bel.cell (p := ⟨w.heap.size, 0, none⟩) s0]; exact y0
  clear rowP gr1
  go_upto_region 6 with fail
  obtain ⟨pg, hpg⟩ : ∃ pg, V0.heap.size = pg := ⟨_, rfl⟩
  rw [hpg] at HPM ⊢
  clear hV0 lm u0 d1 d2 hpg
  rw [← prvAt_zero G] at HPM
  go_loopw [4, 5, 6, 8, 29] (fun a4 a5 a6 a8 a29 wr => ∃ (k : Nat) (e : Int) (val : Nat → Value), k ≤ G.length ∧ a29 = .int .i64 (k : Int) ∧ a4 = .int .i64 e ∧ okL G.length 0 (G.take k) e ∧ PM V0 wr pg G.length val (prvAt G k [])) (fun _ _ _ _ a29 _ => G.length - (intOf a29).toNat)
  case atStart => exact ⟨0, 0, _, Nat.zero_le _, rfl, rfl, rfl, HPM.out⟩
  case round =>
    obtain ⟨k, e, val, hk, rfl, rfl, hok, hPM⟩ := hrel
    clear HPM
    have HOK := Lib.hid hok
    have HM := Lib.hid hPM
    have BW := Lib.hid (B0.out.trans (hPM.bel.mono (by omega)))
    have sB := hPM.bel.size
    clear hok hPM
    by_cases hlt : k < G.length
    · obtain ⟨x, nv, b, off, hx, rfl, hbl, c0, c1, c2, hI⟩ := HGH.out.at_ BW.out hlt
      obtain ⟨NA, ncap, rfl, hn1, hn2⟩ := hI.slice
      have HI := Lib.hid hI
      have HX := Lib.hid hx
      have HXM := Lib.hid (List.mem_of_getElem? hx)
      have hxl := HNX.out x HXM.out
      have HNO := Lib.hid (show ¬ OkB G.length e x → ∀ z, ¬ okL G.length 0 G z from fun h => okL.no hx HOK.out h)
      have dl : decide ((k : Int) < (G.length : Int)) = true := by simpa using hlt
      clear hx hI
      by_cases q3 : e ≤ x.lo
      case neg =>
        have d3 : decide (x.lo < e) = true := by simp; omega
        have HQ := Lib.hid (HNO.out (fun h => q3 h.lo))
        clear q3
        go_wp2_with fail
        go_ret
        exact ⟨⟨false, rfl, by simp; intro h; obtain ⟨z, hz⟩ := h.ok; exact HQ.out z hz⟩, BW.out.alloc (by omega) _⟩
      have d3 : decide (x.lo < e) = false := by simp; omega
      by_cases q4 : x.lo < x.hi
      case neg =>
        have d4 : decide (x.hi ≤ x.lo) = true := by simp; omega
        have HQ := Lib.hid (HNO.out (fun h => q4 h.hi))
        clear q4 q3
        go_wp2_with fail
        go_ret
        exact ⟨⟨false, rfl, by simp; intro h; obtain ⟨z, hz⟩ := h.ok; exact HQ.out z hz⟩, BW.out.alloc (by omega) _⟩
      have d4 : decide (x.hi ≤ x.lo) = false := by simp; omega
      by_cases q5 : x.nx.length ≤ 2
      case neg =>
        have d5 : decide ((2 : Int) < (x.nx.length : Int)) = true := by simp; omega
        have HQ := Lib.hid (HNO.out (fun h => q5 h.two))
        clear q5 q4 q3
        go_wp2_with fail
        go_ret
        exact ⟨⟨false, rfl, by simp; intro h; obtain ⟨z, hz⟩ := h.ok; exact HQ.out z hz⟩, BW.out.alloc (by omega) _⟩
      have d5 : decide ((2 : Int) < (x.nx.length : Int)) = false := by simp; omega
      go_upto_region 12 with fail
      obtain ⟨X, hX⟩ : ∃ X, wr.alloc (.cells #[.int .i64 x.lo, .int .i64 x.hi, .slice NA x.nx.length ncap] 51) = X := ⟨_, rfl⟩
      have kX : X.heap[wr.heap.size]? = some (.cells #[.int .i64 x.lo, .int .i64 x.hi, .slice NA x.nx.length ncap] 51) := hX ▸ heap_alloc_new _ _
      have HMX := Lib.hid (hX ▸ HM.out.below ((Below.refl _ _).alloc (Nat.le_refl _) _))
      have sX : wr.heap.size < X.heap.size := by rw [← hX]; simp
      rw [hX]
      obtain ⟨q, hq⟩ : ∃ q, wr.heap.size = q := ⟨_, rfl⟩
      rw [hq] at kX sX ⊢
      have KX := Lib.hid kX
      have HQ345 := Lib.hid (And.intro q3 (And.intro q4 q5))
      clear kX hX c0 c1 c2 d3 d4 d5 dl q3 q4 HM BW hq
      obtain ⟨iI, hiI, hI0, hI1, hI2⟩ := info_parts infoI
      obtain ⟨wo, rfl⟩ : ∃ wo : World, wo = wr := ⟨_, rfl⟩
      go_loopw [8, 56] (fun a8 a56 wr => ∃ (j : Nat) (val : Nat → Value), j ≤ x.nx.length ∧ a56 = .int .i64 (j : Int) ∧ (∀ t ∈ x.nx.take j, 0 ≤ t ∧ t < (G.length : Int)) ∧ wr.heap[q]? = some (.cells #[.int .i64 x.lo, .int .i64 x.hi, .slice NA x.nx.length ncap] 51) ∧ PM V0 wr pg G.length val (prvAt G k (x.nx.take j))) (fun _ a56 _ => x.nx.length - (intOf a56).toNat)
      case atStart => exact ⟨0, val, Nat.zero_le _, rfl, by simp, KX.out, HMX.out⟩
      case round =>
        clear HMX KX val
        obtain ⟨j, val, hj, rfl, hin, hbx, hPM⟩ := hrel
        have HIN := Lib.hid hin
        have HBX := Lib.hid hbx
        have HM := Lib.hid hPM
        have BW := Lib.hid (B0.out.trans (hPM.bel.mono (by omega)))
        have sB2 := hPM.bel.size
        have hrg := hPM.rg
        have z0 : wr.cell? ⟨w.heap.size, 0, none⟩ = some (.slice (some ⟨b, off, none⟩) G.length cap) := by rw [hPM.bel.cell (p := ⟨w.heap.size, 0, none⟩) s0]; exact y0
        have v2 : wr.cell? ⟨q, 2, none⟩ = some (.slice NA x.nx.length ncap) := by simp [World.cell?, hbx]
        clear hin hbx hPM
        by_cases hjl : j < x.nx.length
        · obtain ⟨s, nb, noff, hs, rfl, hnb, x1⟩ := HI.out.at_ BW.out hjl
          have HS := Lib.hid (take_snoc hs)
          have HSM := Lib.hid (List.mem_of_getElem? hs)
          have dl : decide ((j : Int) < (x.nx.length : Int)) = true := by simpa using hjl
          clear hs
          by_cases q6 : 0 ≤ s
          case neg =>
            have d6 : decide (s < 0) = true := decide_eq_true (by omega)
            have HQ := Lib.hid (HNO.out (fun h => q6 (h.nx s HSM.out).1))
            clear q6
            go_wp2_with fail
            go_ret
            exact ⟨⟨false, rfl, by simp; intro h; obtain ⟨z, hz⟩ := h.ok; exact HQ.out z hz⟩, BW.out⟩
          have d6 : decide (s < 0) = false := decide_eq_false (by omega)
          by_cases q7 : s < (G.length : Int)
          case neg =>
            have d7 : decide ((G.length : Int) ≤ s) = true := decide_eq_true (by omega)
            have HQ := Lib.hid (HNO.out (fun h => q7 (h.nx s HSM.out).2))
            clear q7 q6
            go_wp2_with fail
            go_ret
            exact ⟨⟨false, rfl, by simp; intro h; obtain ⟨z, hz⟩ := h.ok; exact HQ.out z hz⟩, BW.out⟩
          have d7 : decide ((G.length : Int) ≤ s) = false := decide_eq_false (by omega)
          obtain ⟨p, rfl⟩ : ∃ p : Nat, s = (p : Int) := ⟨s.toNat, by omega⟩
          have hp : p < G.length := by omega
          obtain ⟨t1, t2⟩ := HM.out.cells hp
          have hop := HM.out.own p hp
          obtain ⟨pl, hpl⟩ : ∃ pl, prvAt G k (x.nx.take j) p = pl := ⟨_, rfl⟩
          have hpll : pl.length ≤ 30000000 := by
            rw [← hpl]
            have := prvAt_len G HNX.out k (by omega) (x.nx.take j) p
            have h2 : (x.nx.take j).length ≤ 2 := by simp; omega
            omega
          rw [hpl] at hop
          obtain ⟨pA, pcap2, hvp⟩ : ∃ pA pcap2, val p = .slice pA pl.length pcap2 := by
            rcases hop.2 with ⟨h, h'⟩ | ⟨g, cap', cur, h, _⟩
            · exact ⟨_, _, by rw [h, h']⟩
            · exact ⟨_, _, h⟩
          have HVP := Lib.hid hvp
          have HPL := Lib.hid hpl
          have HNp := Lib.hid (show some pg ≠ Value.ownBlock (.slice pA pl.length pcap2) from fun e' => by
            rw [← hvp] at e'
            exact own_ne hop HM.out.prow (by decide) pg e'.symm rfl)
          have HNq := Lib.hid (show some q ≠ Value.ownBlock (.slice pA pl.length pcap2) from fun e' => own_box HBX.out hop (by decide) (by rw [hvp]; exact e'))
          have hqp : q ≠ pg := fun e' => own_box HBX.out HM.out.prow (by decide) (by rw [e']; rfl)
          rw [hvp] at hop t1
          have HOP := Lib.hid hop
          have hq3 : q < wr.heap.size := (Array.getElem?_eq_some_iff.1 HBX.out).1
          have hpgs := hrg.2
          clear hop hvp hpl q6 q7
          go_upto_region 17 with (at_builtin; refine wpList_append_own_at _ rfl (.tmp 74) (.tmp 76) 49 rfl V0.heap.size 3 iI (.int .i64 0) 1 8 Tryd.underlying49 hiI hI0 hI1 hI2 rfl (by decide) (.slice pA pl.length pcap2) _ _ rfl (HOP.out.alloc _) ⟨wr.heap.size, 0, none⟩ 1 1 [.int .i64 (k : Int)] rfl rfl (cell_one_new _ _ _) (by simp [Value.oneCell']) (by unfold maxLen; omega) (by omega) (by rw [World.size_alloc]; omega) ?_; intro v' W' hown' hgrow _ hob; obtain ⟨g', cap', rfl⟩ := ownsRow_succ hown'; have hc1 := hgrow.cell (a := ⟨pg, p, none⟩) (v := .slice pA pl.length pcap2) (by simp [go_sem, *]) HNp.out; have hf1 : W'.frozen? ⟨pg, p, none⟩ = false := (World.frozen?_of_block (hgrow.block pg (by simp; omega) HNp.out)).trans (by simp [go_sem, *]))
          have hB := HM.out.app (y := (k : Int)) hp ((Below.refl wr.heap.size wr).alloc (Nat.le_refl _) (.cells #[.int .i64 (k : Int)] 3)) (by rw [HVP.out]; exact hgrow) (by rw [HPL.out]; simpa [ivs] using hown') (by rw [HVP.out]; exact hob)
          rw [HPL.out] at hB
          have hBq : (W'.setCell ⟨pg, p, none⟩ (.slice (some ⟨g', 0, none⟩) (pl.length + 1) cap')).heap[q]? = some (.cells #[.int .i64 x.lo, .int .i64 x.hi, .slice (some ⟨nb, noff, none⟩) x.nx.length ncap] 51) := by
            rw [Below.heap_setCell _ _ _ _ hqp, hgrow.block q (by rw [World.size_alloc]; omega) HNq.out, heap_alloc_old _ _ hq3]
            exact HBX.out
          have HB := Lib.hid hB
          have HBQ := Lib.hid hBq
          clear hB hBq hc1 hf1 hob hgrow hown' t1 t2 HOP HNp HNq
          go_wp2_with fail
          go_roundw
          case rel =>
            refine ⟨j + 1, upd val p (.slice (some ⟨g', 0, none⟩) (pl.length + 1) cap'), by omega, by go_num, fun t ht => ?_, HBQ.out, ?_⟩
            · rw [HS.out] at ht
              rcases List.mem_append.1 ht with h | h
              · exact HIN.out t h
              · simp at h; omega
            · rw [HS.out, prvAt_add, HPL.out]
              exact HB.out
          case measure => simp [intOf]; omega
        · obtain rfl : j = x.nx.length := by omega
          have dl : decide ((x.nx.length : Int) < (x.nx.length : Int)) = false := by simp
          rw [List.take_length] at HIN HM
          have hq3 : q < wr.heap.size := (Array.getElem?_eq_some_iff.1 HBX.out).1
          by_cases q8 : x.nx.length = 2
          · obtain ⟨s0', nb, noff, hs, rfl, hnb, x1⟩ := HI.out.at_ BW.out (j := 0) (by omega)
            obtain ⟨s1', nb', noff', hs', hA, hnb', x2⟩ := HI.out.at_ BW.out (j := 1) (by omega)
            cases hA
            have hBs := BW.out.size
            have hnw : nb < wr.heap.size := by omega
            have d8 : ((x.nx.length : Int) == 2) = true := by simp; omega
            have e0 : x.nx.getD 0 0 = s0' := by simp [List.getD, hs]
            have e1 : x.nx.getD 1 0 = s1' := by simp [List.getD, hs']
            have i0 : (0 : Int) < (x.nx.length : Int) := by omega
            have i1 : (1 : Int) < (x.nx.length : Int) := by omega
            rw [Nat.add_zero] at x1
            by_cases q9 : s0' = s1'
            · have d9 : (s0' == s1') = true := by simp [q9]
              have HQ := Lib.hid (HNO.out (fun h => h.ne ⟨q8, by rw [e0, e1, q9]⟩))
              clear q9 e0 e1 q8 hs hs' q5
              go_upto_region 18 with fail
              refine wp_region_ext (by kernel_rfl) (by kernel_rfl) ?_
              repeat (go_big_quiet_step (fail))
              refine wpQuiet_nil ?_
              rintro _ ⟨y, rfl⟩
              go_wp2_with fail
              go_ret
              exact ⟨⟨false, rfl, by simp; intro h; obtain ⟨z, hz⟩ := h.ok; exact HQ.out z hz⟩, Ext.below BW.out BW.out.size y⟩
            · have d9 : (s0' == s1') = false := by simp [q9]
              have HOKB := Lib.hid (show OkB G.length e x from ⟨HQ345.out.1, HQ345.out.2.1, HQ345.out.2.2, HIN.out, fun h => q9 (by rw [← e0, ← e1]; exact h.2)⟩)
              clear q9 e0 e1 q8 hs hs' q5
              go_upto_region 18 with fail
              refine wp_region_ext (by kernel_rfl) (by kernel_rfl) ?_
              repeat (go_big_quiet_step (fail))
              refine wpQuiet_nil ?_
              rintro _ ⟨y, rfl⟩
              go_wp2_with fail
              go_roundw
              case rel => exact ⟨k + 1, x.hi, val, by omega, by go_num, rfl, by rw [take_snoc HX.out]; exact HOK.out.snoc HOKB.out, by rw [← prvAt_step G k x HX.out]; exact HM.out.below y.h⟩
              case measure => simp [intOf]; omega
          · have d8 : ((x.nx.length : Int) == 2) = false := beq_eq_false_iff_ne.2 (by omega)
            have HOKB := Lib.hid (show OkB G.length e x from ⟨HQ345.out.1, HQ345.out.2.1, HQ345.out.2.2, HIN.out, fun h => q8 h.1⟩)
            clear q8 q5
            go_upto_region 18 with fail
            refine wp_region_ext (by kernel_rfl) (by kernel_rfl) ?_
            repeat (go_big_quiet_step (fail))
            refine wpQuiet_nil ?_
            rintro _ ⟨y, rfl⟩
            go_wp2_with fail
            go_roundw
            case rel => exact ⟨k + 1, x.hi, val, by omega, by go_num, rfl, by rw [take_snoc HX.out]; exact HOK.out.snoc HOKB.out, by rw [← prvAt_step G k x HX.out]; exact HM.out.below y.h⟩
            case measure => simp [intOf]; omega
    · obtain rfl : k = G.length := by omega
      have dl : decide ((G.length : Int) < (G.length : Int)) = false := by simp
      rw [List.take_length] at HOK
      have z1 : wr.cell? ⟨w.heap.size, 1, none⟩ = some (.slice PA P.length pcap) := by rw [HM.out.bel.cell (p := ⟨w.heap.size, 1, none⟩) s0]; exact y1
      have HEF := Lib.hid (equalFunc_any _ _ _ P wr HM.out.lls (HPH.out.below BW.out))
      go_wp2_with (go_at_call 50; refine HEF.out.mono ?_; rintro e w' ⟨rfl, hb5⟩)
      go_ret
      refine ⟨⟨_, rfl, ?_⟩, BW.out.trans (hb5.mono (by have := BW.out.size; omega))⟩
      rw [decide_eq_true_eq]
      constructor
      · intro h
        exact ⟨fun e => HQ1.out (by rw [e]; rfl), HQ2.out, ⟨_, HOK.out⟩, h⟩
      · intro h
        exact h.prev

end Go.Proofs.YtfceodpdipniaaaDoor
