/-
  What is proved here: 'is' returns true for a graph that has these blocks and their predecessors.
-/
import Derived.Test.YtfceodpdipniaaaDoorCgPrev
namespace Go.Proofs.YtfceodpdipniaaaDoor
open Go.RowKit
set_option linter.unusedVariables false
set_option linter.unusedSimpArgs false

set_option maxHeartbeats 4000000 in
set_option maxRecDepth 20000 in
theorem is_any (bv pv lv : Value) (G : List Blk) (P : List (List Int)) (w : World) (HG : Blks w bv G) (HP : Lls w pv P) (HL : Blks w lv G) (hP : (List.range G.length).map (prvAt G G.length []) = P) (hn : G.length ≤ 5000) (hnx : ∀ x ∈ G, x.nx.length ≤ 5000) (hin : ∀ x ∈ G, ∀ t ∈ x.nx, 0 ≤ t ∧ t < (G.length : Int)) :
    Calls Tryd.prog 16 #[.agg #[bv, pv], lv] w fun e w' => e = .returned (.bool true) ∧ Below w.heap.size w w' := by
  obtain ⟨A, cap, rfl, hc1, hc2⟩ := HG.slice
  obtain ⟨PA, pcap, rfl, hp1, hp2⟩ := HP.slice
  obtain ⟨LA, lcap, rfl, hl1, hl2⟩ := HL.slice
  have hPl : P.length = G.length := by rw [← hP]; simp
  have HPP := Lib.hid (show ∀ W : World, Blks W (.slice LA G.length lcap) G → Calls Tryd.prog 46 #[.slice LA G.length lcap] W fun e w' => (∃ pv, e = .returned pv ∧ Lls w' pv P) ∧ Below W.heap.size W w' from fun W h => by rw [← hP]; exact prev_any _ G W h hn hnx hin)
  have HGH := Lib.hid HG
  have HLH := Lib.hid HL
  have HPH := Lib.hid HP
  have HPL := Lib.hid hPl
  rw [hPl] at HPH hp1
  rw [hPl]
  clear HG HP HL hP hnx hin hPl
  obtain ⟨V0, hV0⟩ : ∃ V0, w.alloc (.cells #[.slice A G.length cap, .slice PA G.length pcap] 31) = V0 := ⟨_, rfl⟩
  have b0 : Below w.heap.size w V0 := hV0 ▸ (Below.refl _ _).alloc (Nat.le_refl _) _
  have s0 : w.heap.size < V0.heap.size := by rw [← hV0]; simp
  have k0 : V0.heap[w.heap.size]? = some (.cells #[.slice A G.length cap, .slice PA G.length pcap] 31) := by rw [← hV0]; exact heap_alloc_new _ _
  have y0 : V0.cell? ⟨w.heap.size, 0, none⟩ = some (.slice A G.length cap) := by simp [World.cell?, k0]
  have y1 : V0.cell? ⟨w.heap.size, 1, none⟩ = some (.slice PA G.length pcap) := by simp [World.cell?, k0]
  have B0 := Lib.hid b0
  clear k0 b0
  go_enter Tryd.func16, Tryd.ntmps16
  go_upto_region 1 with fail
  clear hV0
  have HPC := Lib.hid (HPP.out V0 (HLH.out.below B0.out))
  go_upto_region 4 with (go_at_call 46; refine HPC.out.mono ?_; rintro e' W5 ⟨⟨wv, rfl, hwv⟩, hb5⟩)
  have hwl := hwv.slice
  rw [HPL.out] at hwl
  obtain ⟨WA, wcap, rfl, hw1, hw2⟩ := hwl
  have HWV := Lib.hid hwv
  have BV5 := Lib.hid hb5
  have B5 := Lib.hid (B0.out.trans (BV5.out.mono (by omega)))
  have s5 := BV5.out.size
  have z0 : W5.cell? ⟨w.heap.size, 0, none⟩ = some (.slice A G.length cap) := by rw [BV5.out.cell (p := ⟨w.heap.size, 0, none⟩) s0]; exact y0
  have z1 : W5.cell? ⟨w.heap.size, 1, none⟩ = some (.slice PA G.length pcap) := by rw [BV5.out.cell (p := ⟨w.heap.size, 1, none⟩) s0]; exact y1
  have sw5 : w.heap.size < W5.heap.size := by omega
  clear hwv hb5 HPC HPP y0 y1
  go_upto_region 5 with fail
  go_loopw [6, 7, 27] (fun a6 a7 a27 wr => ∃ k : Nat, k ≤ G.length ∧ a27 = .int .i64 (k : Int) ∧ Below W5.heap.size W5 wr) (fun _ _ a27 _ => G.length - (intOf a27).toNat)
  case atStart => exact ⟨0, Nat.zero_le _, rfl, Below.refl _ _⟩
  case round =>
    obtain ⟨k, hk, rfl, hb⟩ := hrel
    have HB := Lib.hid hb
    have BW := Lib.hid (B5.out.trans (hb.mono B5.out.size))
    have s6 := hb.size
    clear hb
    by_cases hlt : k < G.length
    · obtain ⟨x, nx, b, off, hx, rfl, hbl, c0, c1, c2, hIx⟩ := HGH.out.at_ BW.out hlt
      obtain ⟨x', nx', b', off', hx', rfl, hbl', c0', c1', c2', hIx'⟩ := HLH.out.at_ BW.out hlt
      obtain rfl : x = x' := by rw [hx] at hx'; exact Option.some.inj hx'
      obtain ⟨NA, ncap, rfl, hn1, hn2⟩ := hIx.slice
      have hpl : k < P.length := by have := HPL.out; omega
      obtain ⟨l1, n1, b1, o1, g1, hPA, hb1, x1, hI1⟩ := (show Lls w (.slice PA P.length pcap) P by rw [HPL.out]; exact HPH.out).at_ BW.out hpl
      subst hPA
      obtain ⟨l2, n2, b2, o2, g2, hWA, hb2, x2, hI2⟩ := (show Lls W5 (.slice WA P.length wcap) P by rw [HPL.out]; exact HWV.out).at_ HB.out hpl
      subst hWA
      obtain rfl : l1 = l2 := by rw [g1] at g2; exact Option.some.inj g2
      have hsw : w.heap.size < wr.heap.size := by omega
      have dl : decide ((k : Int) < (G.length : Int)) = true := decide_eq_true (by omega)
      obtain ⟨X, hX⟩ : ∃ X, wr.alloc (.cells #[.int .i64 x.lo, .int .i64 x.hi, .slice NA x.nx.length ncap] 51) = X := ⟨_, rfl⟩
      have bX : Below wr.heap.size wr X := hX ▸ (Below.refl _ _).alloc (Nat.le_refl _) _
      have kX : X.heap[wr.heap.size]? = some (.cells #[.int .i64 x.lo, .int .i64 x.hi, .slice NA x.nx.length ncap] 51) := hX ▸ heap_alloc_new _ _
      have v0 : X.cell? ⟨wr.heap.size, 0, none⟩ = some (.int .i64 x.lo) := by simp [World.cell?, kX]
      have v1 : X.cell? ⟨wr.heap.size, 1, none⟩ = some (.int .i64 x.hi) := by simp [World.cell?, kX]
      have v2 : X.cell? ⟨wr.heap.size, 2, none⟩ = some (.slice NA x.nx.length ncap) := by simp [World.cell?, kX]
      have sX : wr.heap.size < X.heap.size := by rw [← hX]; simp
      have HBX := Lib.hid (HB.out.trans (bX.mono s6))
      have u0 : X.cell? ⟨b', off' + k * 3, none⟩ = some (.int .i64 x.lo) := by rw [bX.cell (p := ⟨b', off' + k * 3, none⟩) (by show b' < _; omega)]; exact c0'
      have u1 : X.cell? ⟨b', off' + k * 3 + 1, none⟩ = some (.int .i64 x.hi) := by rw [bX.cell (p := ⟨b', off' + k * 3 + 1, none⟩) (by show b' < _; omega)]; exact c1'
      have u2 : X.cell? ⟨b', off' + k * 3 + 2, none⟩ = some nx' := by rw [bX.cell (p := ⟨b', off' + k * 3 + 2, none⟩) (by show b' < _; omega)]; exact c2'
      have u3 : X.cell? ⟨b1, o1 + k, none⟩ = some n1 := by rw [bX.cell (p := ⟨b1, o1 + k, none⟩) (by show b1 < _; omega)]; exact x1
      have u4 : X.cell? ⟨b2, o2 + k, none⟩ = some n2 := by rw [bX.cell (p := ⟨b2, o2 + k, none⟩) (by show b2 < _; omega)]; exact x2
      have u5 : X.cell? ⟨w.heap.size, 1, none⟩ = some (.slice (some ⟨b1, o1, none⟩) G.length pcap) := by rw [bX.cell (p := ⟨w.heap.size, 1, none⟩) (by show w.heap.size < _; omega), HB.out.cell (p := ⟨w.heap.size, 1, none⟩) sw5]; exact z1
      have HI1 := Lib.hid (show ∀ y : Ext X, Calls Tryd.prog 28 #[.slice NA x.nx.length ncap, nx'] y.w fun e w' => e = .returned (.bool true) ∧ Below y.w.heap.size y.w w' from fun y => by
        have h1 := ints_any _ nx' x.nx x.nx y.w (((hIx.below BW.out).below bX).below y.h) (((hIx'.below BW.out).below bX).below y.h)
        simpa using h1)
      have HI2 := Lib.hid (show ∀ y : Ext X, Calls Tryd.prog 28 #[n1, n2] y.w fun e w' => e = .returned (.bool true) ∧ Below y.w.heap.size y.w w' from fun y => by
        have h1 := ints_any n1 n2 l1 l1 y.w ((hI1.below bX).below y.h) ((hI2.below bX).below y.h)
        simpa using h1)
      have t1 : b' < X.heap.size := by omega
      have t2 : b1 < X.heap.size := by omega
      have t3 : b2 < X.heap.size := by omega
      have t4 : w.heap.size < X.heap.size := by omega
      have d1 : decide ((G.length : Int) ≤ (k : Int)) = false := decide_eq_false (by omega)
      go_upto_region 7 with fail
      clear hX c0 c1 c2 c0' c1' c2' x1 x2 z0 z1 HB BW hIx hIx' hI1 hI2 bX kX g1 g2 hx hx'
      obtain ⟨q, hq⟩ : ∃ q, wr.heap.size = q := ⟨_, rfl⟩
      rw [hq] at v0 v1 v2 sX ⊢
      clear hq s6
      refine wp_region_ext (by kernel_rfl) (by kernel_rfl) ?_
      repeat (go_big_quiet_step ((go_at_call 28; first | (with_reducible exact Calls.extq (HI1.out _)) | (with_reducible exact Calls.extq (HI2.out _)))))
      refine wpQuiet_nil ?_
      rintro _ ⟨y, rfl⟩
      go_wp2_with fail
      go_roundw
      case rel => exact ⟨k + 1, by omega, by go_num, Ext.below HBX.out HBX.out.size y⟩
      case measure => simp [intOf]; omega
    · obtain rfl : k = G.length := by omega
      have dl : decide ((G.length : Int) < (G.length : Int)) = false := by simp
      go_wp2_with fail
      go_ret
      exact ⟨rfl, BW.out⟩

end Go.Proofs.YtfceodpdipniaaaDoor
