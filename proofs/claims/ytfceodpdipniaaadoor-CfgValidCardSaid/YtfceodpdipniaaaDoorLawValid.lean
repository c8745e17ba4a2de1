/-
  What is proved here: CfgValid returns true for every graph, and changes nothing of its input.
-/
import Derived.Test.YtfceodpdipniaaaDoorCgRVal
import Derived.Deep.RegionWith
namespace Go.Proofs.YtfceodpdipniaaaDoor
open Go.RowKit
set_option linter.unusedVariables false
set_option linter.unusedSimpArgs false

def PrevOk (G : List Blk) : Prop := ∀ (v : Value) (W : World), Blks W v G → (∀ x ∈ G, ∀ t ∈ x.nx, 0 ≤ t ∧ t < (G.length : Int)) → Calls Tryd.prog 46 #[v] W fun e w' => (∃ pv, e = .returned pv ∧ Lls w' pv ((List.range G.length).map (prvAt G G.length []))) ∧ Below W.heap.size W w'

set_option maxHeartbeats 4000000 in
set_option maxRecDepth 20000 in
theorem lvalid_any (bv pv : Value) (G : List Blk) (P : List (List Int)) (w : World) (T : Tab w) (HG : Blks w bv G) (HP : Lls w pv P) (HPV : G.length ≤ 5000 → (∀ x ∈ G, x.nx.length ≤ 5000) → PrevOk G) :
    Calls Tryd.prog 4 #[.agg #[bv, pv]] w fun e w' => e = .returned (.bool true) ∧ Below w.heap.size w w' := by
  obtain ⟨A, cap, rfl, hc1, hc2⟩ := HG.slice
  obtain ⟨PA, pcap, rfl, hp1, hp2⟩ := HP.slice
  have HGH := Lib.hid HG
  have HPH := Lib.hid HP
  have HT := Lib.hid T
  have HPR := Lib.hid HPV
  clear HG HP T HPV
  obtain ⟨V0, hV0⟩ : ∃ V0, w.alloc (.cells #[.slice A G.length cap, .slice PA P.length pcap] 31) = V0 := ⟨_, rfl⟩
  have b0 : Below w.heap.size w V0 := hV0 ▸ (Below.refl _ _).alloc (Nat.le_refl _) _
  have s0 : w.heap.size < V0.heap.size := by rw [← hV0]; simp
  have k0 : V0.heap[w.heap.size]? = some (.cells #[.slice A G.length cap, .slice PA P.length pcap] 31) := by rw [← hV0]; exact heap_alloc_new _ _
  have y0 : V0.cell? ⟨w.heap.size, 0, none⟩ = some (.slice A G.length cap) := by simp [World.cell?, k0]
  have y1 : V0.cell? ⟨w.heap.size, 1, none⟩ = some (.slice PA P.length pcap) := by simp [World.cell?, k0]
  have B0 := Lib.hid b0
  have HAW := Lib.hid (awake_any V0 (HT.out.below b0))
  clear k0 b0
  go_enter Tryd.func4, Tryd.ntmps4
  go_upto_region 1 with fail
  clear hV0
  go_upto_region 3 with (go_at_call 10; refine HAW.out.mono ?_; rintro e W1 ⟨rfl, hb1⟩)
  have z0 : W1.cell? ⟨w.heap.size, 0, none⟩ = some (.slice A G.length cap) := by rw [hb1.cell (p := ⟨w.heap.size, 0, none⟩) s0]; exact y0
  have z1 : W1.cell? ⟨w.heap.size, 1, none⟩ = some (.slice PA P.length pcap) := by rw [hb1.cell (p := ⟨w.heap.size, 1, none⟩) s0]; exact y1
  have B1 := Lib.hid (B0.out.trans (hb1.mono (by omega)))
  have s1 := hb1.size
  have s2 : w.heap.size < W1.heap.size := by omega
  have HWI := Lib.hid (fun (y : Ext W1) => wide_any _ _ G P y.w (HGH.out.below (Ext.below B1.out B1.out.size y)) (HPH.out.below (Ext.below B1.out B1.out.size y)))
  clear hb1 HAW y0 y1
  rcases hwd : wideB G P
  case true =>
    rw [hwd] at HWI
    refine wp_region_ext (by kernel_rfl) (by kernel_rfl) ?_
    repeat (go_big_quiet_step ((go_at_call 18; exact Calls.extq (HWI.out _))))
    refine wpQuiet_nil ?_
    rintro _ ⟨y, rfl⟩
    go_wp2_with fail
    go_ret
    exact ⟨rfl, Ext.below B1.out B1.out.size y⟩
  rw [hwd] at HWI
  obtain ⟨hw1, hw2, hw3, hw4⟩ := wideB_no hwd
  have HW3 := Lib.hid (show ∀ x ∈ G, x.nx.length ≤ 5000 from fun x hx => by have := hw3 x hx; omega)
  clear hwd hw3 hw4
  have HW' := Lib.hid (show ∀ W, Below W1.heap.size W1 W → Calls Tryd.prog 18 #[.agg #[.slice A G.length cap, .slice PA P.length pcap]] W fun e w' => e = .returned (.bool false) ∧ ∃ y : Ext W1, y.w = w' from fun W hW => (HWI.out ⟨W, hW⟩).mono fun e w' ⟨h1, h2⟩ => ⟨h1, ⟨w', hW.trans (h2.mono hW.size)⟩, rfl⟩)
  have HV' := Lib.hid (show ∀ W, Below W1.heap.size W1 W → Calls Tryd.prog 19 #[.agg #[.slice A G.length cap, .slice PA P.length pcap]] W fun e w' => ∃ r : Bool, e = .returned (.bool r) ∧ (r = true ↔ ValidG G P) ∧ ∃ y : Ext W1, y.w = w' from fun W hW => (valid_any' _ _ G P W (HGH.out.below (B1.out.trans (hW.mono B1.out.size))) (HPH.out.below (B1.out.trans (hW.mono B1.out.size))) (by omega) HW3.out).mono fun e w' ⟨⟨r, h1, h2⟩, h3⟩ => ⟨r, h1, h2, ⟨w', hW.trans (h3.mono hW.size)⟩, rfl⟩)
  have HB' := Lib.hid (show ∀ W, Below W1.heap.size W1 W → Calls Tryd.prog 21 #[.agg #[.slice A G.length cap, .slice PA P.length pcap]] W fun e w' => ∃ v, e = .returned v ∧ ∃ y : Ext W1, y.w = w' ∧ Blks y.w v G from fun W hW => (blocks_any _ _ G W (HGH.out.below (B1.out.trans (hW.mono B1.out.size))) (by omega)).mono fun e w' ⟨⟨v, h1, h2⟩, h3⟩ => ⟨v, h1, ⟨w', hW.trans (h3.mono hW.size)⟩, rfl, h2⟩)
  have HR' := Lib.hid (show ∀ (v : Value) (y : Ext W1), Blks y.w v G → Calls Tryd.prog 20 #[v, .slice PA P.length pcap] y.w fun e w' => ∃ r : Bool, e = .returned (.bool r) ∧ (r = true ↔ ValidG G P) ∧ ∃ y : Ext W1, y.w = w' from fun v y hv => (rvalid_any v _ G P y.w hv (HPH.out.below (Ext.below B1.out B1.out.size y)) (by omega) HW3.out (fun W h1 h2 => HPR.out (by omega) HW3.out v W h1 h2)).mono fun e w' ⟨⟨r, h1, h2⟩, h3⟩ => ⟨r, h1, h2, ⟨w', y.h.trans (h3.mono y.h.size)⟩, rfl⟩)
  clear HWI
  go_region_with (first | (go_at_call 18; refine (HW'.out _ (by first | exact Below.drew (Below.refl _ _) | exact Ext.h _)).mono ?_; rintro e w' ⟨rfl, y1, rfl⟩) | (go_at_call 19; refine (HV'.out _ (by first | exact Below.drew (Below.refl _ _) | exact Ext.h _)).mono ?_; rintro e w' ⟨r1, rfl, hr1, y2, rfl⟩) | (go_at_call 21; refine (HB'.out _ (by first | exact Below.drew (Below.refl _ _) | exact Ext.h _)).mono ?_; rintro e w' ⟨v3, rfl, y3, rfl, h3⟩) | (go_at_call 20; refine (HR'.out v3 y3 h3).mono ?_; rintro e w' ⟨r2, rfl, hr2, y4, rfl⟩))
  all_goals
    have hrr : (r1 == r2) = true := beq_iff_eq.2 (Bool.eq_iff_iff.2 (hr1.trans hr2.symm))
    have FB := Lib.hid (Ext.below B1.out B1.out.size y4)
    clear hr1 hr2 h3 HW' HV' HB' HR' z0 z1
    go_wp2_with fail
    go_ret
    exact ⟨by first | rfl | exact ret_bool hrr, FB.out⟩

end Go.Proofs.YtfceodpdipniaaaDoor
