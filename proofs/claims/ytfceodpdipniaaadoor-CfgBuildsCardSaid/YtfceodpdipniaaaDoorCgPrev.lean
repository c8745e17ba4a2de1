/-
  What is proved here: what the reference's Prev returns.
-/
import Derived.Test.YtfceodpdipniaaaDoorCgEdges
import Derived.BigRegion
namespace Go.Proofs.YtfceodpdipniaaaDoor
open Go.RowKit
set_option linter.unusedVariables false
set_option linter.unusedSimpArgs false

set_option maxHeartbeats 40000000 in
set_option maxRecDepth 20000 in
theorem prev_any (v : Value) (G : List Blk) (w : World) (HG : Blks w v G) (hn : G.length ≤ 5000) (hnx : ∀ x ∈ G, x.nx.length ≤ 5000) (hin : ∀ x ∈ G, ∀ t ∈ x.nx, 0 ≤ t ∧ t < (G.length : Int)) :
    Calls Tryd.prog 46 #[v] w fun e w' => (∃ pv, e = .returned pv ∧ Lls w' pv ((List.range G.length).map (prvAt G G.length []))) ∧ Below w.heap.size w w' := by
  obtain ⟨A, cap, rfl, hc1, hc2⟩ := HG.slice
  have HGH := Lib.hid HG
  have HNX := Lib.hid hnx
  have HIN := Lib.hid hin
  clear HG hnx hin
  obtain ⟨i2, hi2, hs0, hs1, hs2⟩ := info_parts infoS
  obtain ⟨iI, hiI, hI0, hI1, hI2⟩ := info_parts infoI
  obtain ⟨U1, lm, rowP, gr1⟩ := run_make_full (P := Tryd.prog) w w.heap.size 29 49 i2 (.slice none 0 0) 1 Tryd.underlying29 hi2 hs0 hs1 .i64 .i64 G.length (by rw [hs2]; omega) (by unfold maxLen; omega) (Nat.le_refl _)
  rw [Nat.mul_one, show (Value.slice none 0 0).cells = #[Value.slice none 0 0] from rfl, toList_madeCells_one] at rowP
  have HPM := Lib.hid (PM.made gr1 (Below.refl _ _) rowP)
  clear rowP gr1
  go_enter Tryd.func46, Tryd.ntmps46
  go_upto_region 3 with fail
  obtain ⟨pg, hpg⟩ : ∃ pg, w.heap.size = pg := ⟨_, rfl⟩
  rw [hpg] at HPM ⊢
  clear lm
  rw [← prvAt_zero G] at HPM
  go_loopw [4, 5] (fun a4 a5 wr => ∃ (k : Nat) (val : Nat → Value), k ≤ G.length ∧ a4 = .int .i64 (k : Int) ∧ PM w wr pg G.length val (prvAt G k [])) (fun a4 _ _ => G.length - (intOf a4).toNat)
  case atStart => exact ⟨0, _, Nat.zero_le _, rfl, HPM.out⟩
  case round =>
    obtain ⟨k, val, hk, rfl, hPM⟩ := hrel
    clear HPM
    have HM := Lib.hid hPM
    have sB := hPM.bel.size
    clear hPM
    by_cases hlt : k < G.length
    · obtain ⟨x, nv, b, off, hx, rfl, hbl, c0, c1, c2, hI⟩ := HGH.out.at_ HM.out.bel hlt
      obtain ⟨NA, ncap, rfl, hn1, hn2⟩ := hI.slice
      have HI := Lib.hid hI
      have HX := Lib.hid hx
      have HXM := Lib.hid (List.mem_of_getElem? hx)
      have hxl := HNX.out x HXM.out
      have dl : decide ((k : Int) < (G.length : Int)) = true := decide_eq_true (by omega)
      have CW := Lib.hid (show w.cell? ⟨b, off + k * 3 + 2, none⟩ = some (.slice NA x.nx.length ncap) by rw [← HM.out.bel.cell (p := ⟨b, off + k * 3 + 2, none⟩) hbl]; exact c2)
      clear hx hI c0 c1 c2
      go_upto_region 6 with fail
      obtain ⟨wo, rfl⟩ : ∃ wo : World, wo = wr := ⟨_, rfl⟩
      go_loopw [5] (fun a5 wr => ∃ (j : Nat) (val : Nat → Value), j ≤ x.nx.length ∧ a5 = .int .i64 (j : Int) ∧ PM w wr pg G.length val (prvAt G k (x.nx.take j))) (fun a5 _ => x.nx.length - (intOf a5).toNat)
      case atStart => exact ⟨0, val, Nat.zero_le _, rfl, HM.out⟩
      case round =>
        clear HM val
        obtain ⟨j, val, hj, rfl, hPM⟩ := hrel
        have HM := Lib.hid hPM
        have sB2 := hPM.bel.size
        have hrg := hPM.rg
        clear hPM dl
        have c2 : wr.cell? ⟨b, off + k * 3 + 2, none⟩ = some (.slice NA x.nx.length ncap) := by rw [HM.out.bel.cell (p := ⟨b, off + k * 3 + 2, none⟩) hbl]; exact CW.out
        have hbw : b < wr.heap.size := by omega
        by_cases hjl : j < x.nx.length
        · obtain ⟨s, nb, noff, hs, rfl, hnb, x1⟩ := HI.out.at_ HM.out.bel hjl
          have HS := Lib.hid (take_snoc hs)
          have hsi := HIN.out x HXM.out s (List.mem_of_getElem? hs)
          have dl2 : decide ((j : Int) < (x.nx.length : Int)) = true := decide_eq_true (by omega)
          obtain ⟨p, rfl⟩ : ∃ p : Nat, s = (p : Int) := ⟨s.toNat, by omega⟩
          have hp : p < G.length := by omega
          have hnw : nb < wr.heap.size := by omega
          obtain ⟨t1, t2⟩ := HM.out.cells hp
          have hop := HM.out.own p hp
          obtain ⟨pl, hpl⟩ : ∃ pl, prvAt G k (x.nx.take j) p = pl := ⟨_, rfl⟩
          have hpll : pl.length ≤ 30000000 := by
            rw [← hpl]
            have := prvAt_len G HNX.out k (by omega) (x.nx.take j) p
            have h2 : (x.nx.take j).length ≤ 5000 := by simp; omega
            omega
          rw [hpl] at hop
          obtain ⟨pA, pcap2, hvp⟩ : ∃ pA pcap2, val p = .slice pA pl.length pcap2 := by
            rcases hop.2 with ⟨h, h'⟩ | ⟨g, cap', cur, h, _⟩
            · exact ⟨_, _, by rw [h, h']⟩
            · exact ⟨_, _, h⟩
          have HVP := Lib.hid hvp
          have HPL := Lib.hid hpl
          have HNp := Lib.hid (show some pg ≠ Value.ownBlock (.slice pA pl.length pcap2) from fun e' => by
            rw [← hvp] at e'
            exact own_ne hop HM.out.prow (by decide) pg e'.symm rfl)
          have HNb := Lib.hid (show some b ≠ Value.ownBlock (.slice pA pl.length pcap2) from fun e' => by
            rw [← hvp] at e'
            have := (hop.lt b e'.symm).1
            omega)
          have HNn := Lib.hid (show some nb ≠ Value.ownBlock (.slice pA pl.length pcap2) from fun e' => by
            rw [← hvp] at e'
            have := (hop.lt nb e'.symm).1
            omega)
          rw [hvp] at hop t1
          have HOP := Lib.hid hop
          have hpgs := hrg.2
          clear hop hvp hpl hs
          have FIN := Lib.hid (show ∀ (W2 : World) (v2 : Value), ((wr.alloc (.cells #[.int .i64 (k : Int)] 3)).drew).grownBy W2 (Value.slice pA pl.length pcap2).ownBlock → W2.ownsRow w.heap.size 3 1 v2 (pl.length + 1) (ivs pl ++ [.int .i64 (k : Int)]) → (v2.ownBlock = (Value.slice pA pl.length pcap2).ownBlock ∨ v2.ownBlock = some ((wr.alloc (.cells #[.int .i64 (k : Int)] 3)).drew).heap.size) →
              PM w (W2.setCell ⟨pg, p, none⟩ v2) pg G.length (upd val p v2) (prvAt G k (x.nx.take (j + 1))) from fun W2 v2 hg2 ho2 hb2 => by
            have bD : Below wr.heap.size wr ((wr.alloc (.cells #[.int .i64 (k : Int)] 3)).drew) := Below.drew ((Below.refl _ _).alloc (Nat.le_refl _) _)
            have h3 := HM.out.app (y := (k : Int)) hp bD (by rw [HVP.out]; exact hg2) (by rw [HPL.out]; simpa [ivs] using ho2) (by rw [HVP.out]; exact hb2)
            rw [HPL.out] at h3
            rw [HS.out, prvAt_add, HPL.out]
            exact h3)
          go_upto_region 8 with fail
          clear HM HVP HPL HS
          refine wp_region_noPanic ?_
          go_region_law (refine step_append_own rfl (.tmp 44) (.tmp 46) 49 rfl w.heap.size 3 iI (.int .i64 0) 1 8 Tryd.underlying49 hiI hI0 hI1 hI2 rfl (by decide) (.slice pA pl.length pcap2) pl.length (ivs pl) (by simp [Act.eval, Act.put]) (World.ownsRow.alloc (World.ownsRow.drew HOP.out) _) ⟨wr.heap.size, 0, none⟩ 1 1 [.int .i64 (k : Int)] (by simp [Act.eval, Act.put]) rfl (cell_one_new _ _ _) (by simp [Value.oneCell']) (by unfold maxLen; omega) (by omega) (by show w.heap.size ≤ (World.alloc _ _).heap.size; rw [World.size_alloc]; omega) ?_; intro v' W2 hown2 hgrow2 hat2; obtain ⟨g2, cap2, rfl⟩ := ownsRow_succ hown2; have hc1 := hgrow2.cell (a := ⟨pg, p, none⟩) (v := .slice pA pl.length pcap2) (by simp [go_sem, *]) HNp.out; have hc2 := hgrow2.cell (a := ⟨b, off + k * 3 + 2, none⟩) (v := .slice (some ⟨nb, noff, none⟩) x.nx.length ncap) (by simp [go_sem, *]) HNb.out; have hc3 := hgrow2.cell (a := ⟨nb, noff + j, none⟩) (v := .int .i64 (p : Int)) (by simp [go_sem, *]) HNn.out; have hf1 : W2.frozen? ⟨pg, p, none⟩ = false := (World.frozen?_of_block (hgrow2.block pg (by simp; omega) HNp.out)).trans (by simp [go_sem, *]))
          all_goals
            have F1 := Lib.hid (FIN.out W2 _ hgrow2 hown2 hat2)
            clear hgrow2 hown2 hat2 hc1 hc2 hc3 hf1
            refine NoPanic.normal ?_
            go_wp2_with fail
            go_roundw
            case rel => exact ⟨j + 1, _, by omega, by go_num, F1.out⟩
            case measure => simp [intOf]; omega
        · obtain rfl : j = x.nx.length := by omega
          have dl2 : decide ((x.nx.length : Int) < (x.nx.length : Int)) = false := by simp
          rw [List.take_length] at HM
          go_wp2_with fail
          go_roundw
          case rel => exact ⟨k + 1, val, by omega, by go_num, by rw [← prvAt_step G k x HX.out]; exact HM.out⟩
          case measure => simp [intOf]; omega
    · obtain rfl : k = G.length := by omega
      have dl : decide ((G.length : Int) < (G.length : Int)) = false := by simp
      go_wp2_with fail
      go_ret
      exact ⟨⟨_, rfl, HM.out.lls⟩, HM.out.bel⟩

end Go.Proofs.YtfceodpdipniaaaDoor
