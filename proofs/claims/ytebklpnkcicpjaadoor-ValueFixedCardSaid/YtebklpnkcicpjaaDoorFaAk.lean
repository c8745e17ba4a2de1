/-
 What is proved here: awake returns true.
-/
import Derived.Test.YtebklpnkcicpjaaDoorFaAz0
import Derived.Test.YtebklpnkcicpjaaDoorFaSa
import Derived.Test.YtebklpnkcicpjaaDoorFbCd
namespace Go.Proofs.YtebklpnkcicpjaaDoor
open Go.RowKit
set_option linter.unusedVariables false
set_option linter.unusedSimpArgs false

theorem sm_gok : ∀ x ∈ smG, GOk 4 smD smG x := by
 have key : ∀ a : Nat, a < 4 → a < 4 ∧ (decI (smD a)).2 = 0 ∧ 0 ≤ (insAt smD (a : Int)).op := fun a ha => by
  obtain rfl | rfl | rfl | rfl : a = 0 ∨ a = 1 ∨ a = 2 ∨ a = 3 := by omega
  ·exact ⟨by omega, by rw [sm0], by show 0 ≤ (decI (smD 0)).1.op; rw [sm0]; decide⟩
  ·exact ⟨by omega, by rw [sm1], by show 0 ≤ (decI (smD 1)).1.op; rw [sm1]; decide⟩
  ·exact ⟨by omega, by rw [sm2], by show 0 ≤ (decI (smD 2)).1.op; rw [sm2]; decide⟩
  ·exact ⟨by omega, by rw [sm3], by show 0 ≤ (decI (smD 3)).1.op; rw [sm3]; decide⟩
 intro x hx
 simp only [smG, List.mem_cons, List.not_mem_nil, or_false] at hx
 rcases hx with rfl | rfl
 ·exact ⟨by decide, by decide, by simp, by simp [smG], fun a h1 h2 => key a (by simp only at h2; omega)⟩
 ·exact ⟨by decide, by decide, by simp, by simp [smG], fun a h1 h2 => key a (by simp only at h2; omega)⟩
theorem sm_abs : absOf smD smG = smA := by
 have h0 : codeFrom smD 0 1 = [⟨14, 10, 0, 0, 0⟩] := by
  show [insAt smD (0 + 0)] = _
  rw [show ((0 : Int) + 0) = 0 by omega, smi0]
 have h1 : codeFrom smD 1 3 = [⟨25, 10, 0, 0, 4⟩, ⟨15, 10, 10, 0, 1⟩, ⟨24, 0, 0, 0, -3⟩] := by
  show [insAt smD (1 + 0), insAt smD (1 + 1), insAt smD (1 + 2)] = _
  rw [show ((1 : Int) + 0) = 1 by omega, show ((1 : Int) + 1) = 2 by omega, show ((1 : Int) + 2) = 3 by omega, smi1, smi2, smi3]
 show [AB.mk (codeFrom smD 0 1) [1], AB.mk (codeFrom smD 1 3) [1]] = smA
 rw [h0, h1]
 rfl
def smF : AS := ⟨[true, true], [zeroR, smR 2147483647], [0, 3]⟩
theorem sm_final {s : AS} (h : Ends (absOf smD smG) (startS smG.length) s) : s = smF := by
 rw [sm_abs] at h
 exact Ends.det h sm_ends
theorem sm_deadF : deadK (absOf smD smG) smF smG.length = [] := by rw [sm_abs]; exact sm_dead
theorem sm_bef : befR smD smG [true, true] [zeroR, smR 2147483647] 2 = some (smR 3) := by
 have h : codeFrom smD 1 1 = [⟨25, 10, 0, 0, 4⟩] := by
  show [insAt smD (1 + 0)] = _
  rw [show ((1 : Int) + 0) = 1 by omega, smi1]
 have hf : findB smG 2 = some 1 := by decide
 unfold befR
 rw [if_pos ⟨rfl, rfl⟩, hf]
 show (if true = true then runR (codeFrom smD 1 1) (smR 2147483647) else none) = _
 rw [if_pos rfl, h]
 exact sm_before
theorem smR_16 (v : Int) (h : W32 v) : R16 (smR v) := R16.zero.set _ ⟨by unfold W32; simp, h⟩
theorem sample_words {w : World} {B : Nat} {A : Option Addr} {cap : Nat} (h : w.ownsRow B 67 1 (.slice A 4 cap) 4 (uvs (smL.map fun i => (encI i).1))) : Words w (.slice A 4 cap) 4 smD :=
 own_words (ws := smC) h (by decide) smC_w
theorem res_store {w : World} {b B : Nat} {rv iv dv : Value} {rl : List Bool} {il : List RG} {L : List (Int × Int)} (hz : w.heap[b]? = some (.cells #[.slice none 0 0, .slice none 0 0, .slice none 0 0] 55 (0, 0))) (hN : NewV B rv iv dv) (hb : b < B) (hR : ResIn w rv iv rl il) (hP : Prs w dv L) (w' : World) (hw : w' = ((w.setCell ⟨b, 0, none⟩ rv).setCell ⟨b, 1, none⟩ iv).setCell ⟨b, 2, none⟩ dv) :
  w'.heap[b]? = some (.cells #[rv, iv, dv] 55 (0, 0)) ∧ ResIn w' rv iv rl il ∧ Prs w' dv L := by
 subst hw
 have h1 := heap_setCell_same _ b 0 _ _ rv hz
 have h2 := heap_setCell_same _ b 1 _ _ iv h1
 have h3 := heap_setCell_same _ b 2 _ _ dv h2
 have oth : ∀ q, q ≠ b → (((w.setCell ⟨b, 0, none⟩ rv).setCell ⟨b, 1, none⟩ iv).setCell ⟨b, 2, none⟩ dv).heap[q]? = w.heap[q]? := fun q hq => by
  rw [Below.heap_setCell _ _ _ _ hq, Below.heap_setCell _ _ _ _ hq, Below.heap_setCell _ _ _ _ hq]
 have hs : (((w.setCell ⟨b, 0, none⟩ rv).setCell ⟨b, 1, none⟩ iv).setCell ⟨b, 2, none⟩ dv).heap.size = w.heap.size := by simp
 refine ⟨h3, ?_, ?_⟩
 ·obtain ⟨⟨A, cap, e1, e2, e3, e4⟩, ⟨A', cap', f1, f2, f3, f4⟩⟩ := hR
  refine ⟨⟨A, cap, e1, e2, e3, fun h0 => ?_⟩, ⟨A', cap', f1, f2, f3, fun h0 => ?_⟩⟩
  ·obtain ⟨q, off, ha, hq, hc⟩ := e4 h0
   have hne : q ≠ b := by have := hN q (.inl (by rw [e1, ha]; rfl)); omega
   exact ⟨q, off, ha, by omega, fun k hk => (World.cell?_of_block (oth q hne)).trans (hc k hk)⟩
  ·obtain ⟨q, off, ha, hq, hc⟩ := f4 h0
   have hne : q ≠ b := by have := hN q (.inr (.inl (by rw [f1, ha]; rfl))); omega
   exact ⟨q, off, ha, by omega, fun k hk j v hv => (World.cell?_of_block (oth q hne)).trans (hc k hk j v hv)⟩
 ·obtain ⟨A, cap, e1, e2, e3, e4⟩ := hP
  refine ⟨A, cap, e1, e2, e3, fun h0 => ?_⟩
  obtain ⟨q, off, ha, hq, hc⟩ := e4 h0
  have hne : q ≠ b := by have := hN q (.inr (.inr (by rw [e1, ha]; rfl))); omega
  exact ⟨q, off, ha, by omega, fun i p hp => ⟨(World.cell?_of_block (oth q hne)).trans (hc i p hp).1, (World.cell?_of_block (oth q hne)).trans (hc i p hp).2⟩⟩

set_option maxRecDepth 100000 in
set_option maxHeartbeats 8000000 in
theorem vawake_any (analyze_any : AnlSpec) (w : World) (T : Tab w) : Calls Tryd.prog 9 #[] w fun e w' => e = .returned (.bool true) ∧ Below w.heap.size w w' := by
 have HT := Lib.hid T
 clear T
 go_enter Tryd.func9, Tryd.ntmps9
 go_upto_region 2 with (first | (go_at_call 31; refine (sample_any w HT.out).mono ?_; rintro e W1 ⟨⟨cv, ev, cA, ccap, rfl, rfl, hrow, hent⟩, hb1⟩; have hw1 := sample_words hrow) | (go_at_call 30; refine (build_out _ _ 0 0 4 smD [⟨taName, 0, 4, 0⟩] 0 _ W1 (HT.out.below hb1) hw1 hent sm_good rfl).mono ?_; rintro e W2 ⟨r, bv, pv, hout, rfl, hG, hP, hb2⟩; obtain rfl := sm_out hout; obtain ⟨GA, gcap, hbv, -, -, -⟩ := id hG; obtain ⟨PA, pcap, hpv, -, -, -⟩ := id hP; obtain rfl : bv = .slice GA 2 gcap := hbv; obtain rfl : pv = .slice PA 2 pcap := hpv))
 obtain ⟨b1, hbb1⟩ : ∃ b1, W2.heap.size = b1 := ⟨_, rfl⟩
 obtain ⟨X, hX⟩ : ∃ X, W2.alloc (.cells #[.slice GA 2 gcap, .slice PA 2 pcap] 48) = X := ⟨_, rfl⟩
 rw [hX]
 have bX2 : Below W2.heap.size W2 X := hX ▸ (Below.refl _ _).alloc (Nat.le_refl _) _
 have kX : X.heap[b1]? = some (.cells #[.slice GA 2 gcap, .slice PA 2 pcap] 48 (0, 0)) := by rw [← hbb1, ← hX]; exact heap_alloc_new _ _
 rw [hbb1]
 have hb12 : Below w.heap.size w W2 := hb1.trans (hb2.mono hb1.size)
 have BX := Lib.hid (hb12.trans (bX2.mono hb12.size))
 have x0 : X.cell? ⟨b1, 0, none⟩ = some (.slice GA 2 gcap) := by simp [World.cell?, kX]
 have x1 : X.cell? ⟨b1, 1, none⟩ = some (.slice PA 2 pcap) := by simp [World.cell?, kX]
 have lb1 : b1 < X.heap.size := lt_of_blk' kX
 have HG := Lib.hid (hG.below bX2)
 have HP := Lib.hid (hP.below bX2)
 have HTX := Lib.hid (HT.out.below BX.out)
 have KX := Lib.hid kX
 clear hX kX hb12 hb1 hb2 bX2 hG hP hent hrow hw1 hbb1 hout
 go_cut [4, 5] from 14 to 19 (fun a4 a5 wx => ∃ b4 rv iv dv, a4 = .pointer (some ⟨b4, 0, none⟩) ∧ a5 = .int .i64 0 ∧ wx.heap[b4]? = some (.cells #[rv, iv, dv] 55 (0, 0)) ∧ ResIn wx rv iv [true, true] [zeroR, smR 2147483647] ∧ Prs wx dv [] ∧ Below X.heap.size X wx)
 case first =>
  go_region_held3 (fun w' => (∀ b o, b < X.heap.size → w'.cell? ⟨b, o, none⟩ = X.cell? ⟨b, o, none⟩) ∧ Below X.heap.size X w') ((exact keepX (by (repeat (first | (with_reducible assumption) | (with_reducible exact Below.refl _ _) | (with_reducible refine Below.drew ?_) | (with_reducible refine Below.alloc ?_ (by first | exact Nat.le_refl _ | (simp; done) | (simp; omega) | omega) _) | (with_reducible refine Below.setCell ?_ (by first | exact Nat.le_refl _ | omega | (simp; done) | (simp; omega)) _) | (with_reducible refine Below.setCells' ?_ (by first | exact Nat.le_refl _ | omega | (simp; done) | (simp; omega)) _ _))))))
   (first | (go_at_call 31; refine (sample_any _ (HTX.out.below (by (repeat (first | (with_reducible assumption) | (with_reducible exact Below.refl _ _) | (with_reducible refine Below.drew ?_) | (with_reducible refine Below.alloc ?_ (by first | exact Nat.le_refl _ | (simp; done) | (simp; omega) | omega) _) | (with_reducible refine Below.setCell ?_ (by first | exact Nat.le_refl _ | omega | (simp; done) | (simp; omega)) _) | (with_reducible refine Below.setCells' ?_ (by first | exact Nat.le_refl _ | omega | (simp; done) | (simp; omega)) _ _)))))).mono ?_; rintro e w2 ⟨⟨cv2, ev2, A2, cap2, rfl, rfl, hrow2, hent2⟩, hb2⟩; have hk2 : Below X.heap.size X w2 := Below.trans (by (repeat (first | (with_reducible assumption) | (with_reducible exact Below.refl _ _) | (with_reducible refine Below.drew ?_) | (with_reducible refine Below.alloc ?_ (by first | exact Nat.le_refl _ | (simp; done) | (simp; omega) | omega) _) | (with_reducible refine Below.setCell ?_ (by first | exact Nat.le_refl _ | omega | (simp; done) | (simp; omega)) _) | (with_reducible refine Below.setCells' ?_ (by first | exact Nat.le_refl _ | omega | (simp; done) | (simp; omega)) _ _)))) (Below.mono hb2 (by first | exact Nat.le_refl _ | (simp only [World.size_alloc, World.size_drew]; omega) | omega)); have hw2 := sample_words hrow2; have hs2 := hk2.size; (try have hz2 : w2.heap[X.heap.size]? = some (.cells #[.slice none 0 0, .slice none 0 0, .slice none 0 0] 55 (0, 0)) := (hb2.block _ (by simp)).trans (heap_alloc_new X.drew _)); clear hb2) | (go_at_call 16; refine (analyze_any _ _ _ _ 0 0 4 smD smG [[], [0, 1]] _ (HTX.out.below (by (repeat (first | (with_reducible assumption) | (with_reducible exact Below.refl _ _) | (with_reducible refine Below.drew ?_) | (with_reducible refine Below.alloc ?_ (by first | exact Nat.le_refl _ | (simp; done) | (simp; omega) | omega) _) | (with_reducible refine Below.setCell ?_ (by first | exact Nat.le_refl _ | omega | (simp; done) | (simp; omega)) _) | (with_reducible refine Below.setCells' ?_ (by first | exact Nat.le_refl _ | omega | (simp; done) | (simp; omega)) _ _))))) (hw2.below (by (repeat (first | (with_reducible assumption) | (with_reducible exact Below.refl _ _) | (with_reducible refine Below.drew ?_) | (with_reducible refine Below.alloc ?_ (by first | exact Nat.le_refl _ | (simp; done) | (simp; omega) | omega) _) | (with_reducible refine Below.setCell ?_ (by first | exact Nat.le_refl _ | omega | (simp; done) | (simp; omega)) _) | (with_reducible refine Below.setCells' ?_ (by first | exact Nat.le_refl _ | omega | (simp; done) | (simp; omega)) _ _))))) (HG.out.below (by (repeat (first | (with_reducible assumption) | (with_reducible exact Below.refl _ _) | (with_reducible refine Below.drew ?_) | (with_reducible refine Below.alloc ?_ (by first | exact Nat.le_refl _ | (simp; done) | (simp; omega) | omega) _) | (with_reducible refine Below.setCell ?_ (by first | exact Nat.le_refl _ | omega | (simp; done) | (simp; omega)) _) | (with_reducible refine Below.setCells' ?_ (by first | exact Nat.le_refl _ | omega | (simp; done) | (simp; omega)) _ _))))) (HP.out.below (by (repeat (first | (with_reducible assumption) | (with_reducible exact Below.refl _ _) | (with_reducible refine Below.drew ?_) | (with_reducible refine Below.alloc ?_ (by first | exact Nat.le_refl _ | (simp; done) | (simp; omega) | omega) _) | (with_reducible refine Below.setCell ?_ (by first | exact Nat.le_refl _ | omega | (simp; done) | (simp; omega)) _) | (with_reducible refine Below.setCells' ?_ (by first | exact Nat.le_refl _ | omega | (simp; done) | (simp; omega)) _ _))))) sm_valid (by decide) (by decide) sm_gok).mono ?_; rintro e w3 ⟨⟨s3, rv, iv, dv, hE, rfl, hR, hP3, hN⟩, hb3⟩; obtain rfl := sm_final hE; rw [sm_deadF] at hP3; obtain ⟨⟨RA, rcap, hrv, -⟩, ⟨IA, icap, hiv, -⟩⟩ := id hR; obtain ⟨DA, dcap, hdv, -⟩ := id hP3; obtain rfl : rv = .slice RA 2 rcap := hrv; obtain rfl : iv = .slice IA 2 icap := hiv; obtain rfl : dv = .slice DA 0 dcap := hdv; have hk3 : Below X.heap.size X w3 := Below.trans (by (repeat (first | (with_reducible assumption) | (with_reducible exact Below.refl _ _) | (with_reducible refine Below.drew ?_) | (with_reducible refine Below.alloc ?_ (by first | exact Nat.le_refl _ | (simp; done) | (simp; omega) | omega) _) | (with_reducible refine Below.setCell ?_ (by first | exact Nat.le_refl _ | omega | (simp; done) | (simp; omega)) _) | (with_reducible refine Below.setCells' ?_ (by first | exact Nat.le_refl _ | omega | (simp; done) | (simp; omega)) _ _)))) (Below.mono hb3 (by first | exact Nat.le_refl _ | (simp only [World.size_alloc, World.size_drew]; omega) | omega)); have hs3 := hk3.size; have hsb := hb3.size; (try have hz3 : w3.heap[X.heap.size]? = some (.cells #[.slice none 0 0, .slice none 0 0, .slice none 0 0] 55 (0, 0)) := (hb3.block _ (by first | exact lt_of_blk' hz2 | (simp; omega))).trans hz2); (try have hz4 : w3.heap[w2.heap.size]? = some (.cells #[.slice none 0 0, .slice none 0 0, .slice none 0 0] 55 (0, 0)) := (hb3.block _ (by simp)).trans (heap_alloc_new w2 _)); (try have z30 : w3.cell? ⟨X.heap.size, 0, none⟩ = some (.slice none 0 0) := by simp [World.cell?, hz3]); (try have y30 : w3.frozen? ⟨X.heap.size, 0, none⟩ = false := by simp [World.frozen?, hz3]); (try have z31 : w3.cell? ⟨X.heap.size, 1, none⟩ = some (.slice none 0 0) := by simp [World.cell?, hz3]); (try have y31 : w3.frozen? ⟨X.heap.size, 1, none⟩ = false := by simp [World.frozen?, hz3]); (try have z32 : w3.cell? ⟨X.heap.size, 2, none⟩ = some (.slice none 0 0) := by simp [World.cell?, hz3]); (try have y32 : w3.frozen? ⟨X.heap.size, 2, none⟩ = false := by simp [World.frozen?, hz3]); (try have z40 : w3.cell? ⟨w2.heap.size, 0, none⟩ = some (.slice none 0 0) := by simp [World.cell?, hz4]); (try have y40 : w3.frozen? ⟨w2.heap.size, 0, none⟩ = false := by simp [World.frozen?, hz4]); (try have z41 : w3.cell? ⟨w2.heap.size, 1, none⟩ = some (.slice none 0 0) := by simp [World.cell?, hz4]); (try have y41 : w3.frozen? ⟨w2.heap.size, 1, none⟩ = false := by simp [World.frozen?, hz4]); (try have z42 : w3.cell? ⟨w2.heap.size, 2, none⟩ = some (.slice none 0 0) := by simp [World.cell?, hz4]); (try have y42 : w3.frozen? ⟨w2.heap.size, 2, none⟩ = false := by simp [World.frozen?, hz4])))
  all_goals (go_wp2_with fail; go_meet)
  all_goals first
   | exact ⟨_, _, _, _, rfl, rfl, heap_alloc_new _ _, hR.below ((Below.refl _ _).alloc (Nat.le_refl _) _), hP3.below ((Below.refl _ _).alloc (Nat.le_refl _) _), Below.alloc hk3 hs3 _⟩
   | exact ⟨_, _, _, _, rfl, rfl, (res_store hz4 hN (by simp) hR hP3 _ rfl).1, (res_store hz4 hN (by simp) hR hP3 _ rfl).2.1, (res_store hz4 hN (by simp) hR hP3 _ rfl).2.2, Below.setCell (Below.setCell (Below.setCell hk3 hs2 _) hs2 _) hs2 _⟩
   | exact ⟨_, _, _, _, rfl, rfl, (res_store hz3 hN (lt_of_blk' hz2) hR hP3 _ rfl).1, (res_store hz3 hN (lt_of_blk' hz2) hR hP3 _ rfl).2.1, (res_store hz3 hN (lt_of_blk' hz2) hR hP3 _ rfl).2.2, Below.setCell (Below.setCell (Below.setCell hk3 (Nat.le_refl _) _) (Nat.le_refl _) _) (Nat.le_refl _) _⟩
 case rest =>
  obtain ⟨b4, rv, iv, dv, rfl, rfl, k4, hR, hP3, bXc⟩ := hcut
  obtain ⟨Y, hY⟩ : ∃ Y : World, Y = wc := ⟨_, rfl⟩
  subst hY
  have y0 : Y.cell? ⟨b1, 0, none⟩ = _ := (bXc.cell (p := ⟨b1, 0, none⟩) lb1).trans x0
  have y1 : Y.cell? ⟨b1, 1, none⟩ = _ := (bXc.cell (p := ⟨b1, 1, none⟩) lb1).trans x1
  have lY1 : b1 < Y.heap.size := Nat.lt_of_lt_of_le lb1 bXc.size
  have lY4 : b4 < Y.heap.size := lt_of_blk' k4
  obtain ⟨⟨RA, rcap, hrv, -, -, hra⟩, ⟨IA, icap, hiv, -, -, hia⟩⟩ := id hR
  obtain ⟨DA, dcap, hdv, -⟩ := id hP3
  obtain ⟨rq, ro, rfl, hrq, hrc⟩ := hra (by decide)
  obtain ⟨iq, io, rfl, hiq, hic⟩ := hia (by decide)
  obtain rfl : rv = .slice (some ⟨rq, ro, none⟩) 2 rcap := hrv
  obtain rfl : iv = .slice (some ⟨iq, io, none⟩) 2 icap := hiv
  obtain rfl : dv = .slice DA 0 dcap := hdv
  have y40 : Y.cell? ⟨b4, 0, none⟩ = some (.slice (some ⟨rq, ro, none⟩) 2 rcap) := by simp [World.cell?, k4]
  have y41 : Y.cell? ⟨b4, 1, none⟩ = some (.slice (some ⟨iq, io, none⟩) 2 icap) := by simp [World.cell?, k4]
  have y42 : Y.cell? ⟨b4, 2, none⟩ = some (.slice DA 0 dcap) := by simp [World.cell?, k4]
  have yr1 : Y.cell? ⟨rq, ro + 1, none⟩ = some (.bool true) := hrc 1 (by decide)
  have yi0 : Y.cell? ⟨iq, io + 52, none⟩ = some (.int .i32 0) := hic 1 (by decide) 20 _ rfl
  have yi1 : Y.cell? ⟨iq, io + 53, none⟩ = some (.int .i32 2147483647) := hic 1 (by decide) 21 _ rfl
  have HGY := Lib.hid (HG.out.below bXc)
  have HTY := Lib.hid (HTX.out.below bXc)
  have HRY := Lib.hid hR
  have BY := Lib.hid (BX.out.trans (bXc.mono BX.out.size))
  have K4 := Lib.hid k4
  clear hrc hic hra hia x0 x1 hR hP3 k4 HG HTX HP
  obtain ⟨jr, hjr⟩ : ∃ r, smR 3 = r := ⟨_, rfl⟩
  have J16 := Lib.hid (show R16 jr from hjr ▸ smR_16 3 (by unfold W32; omega))
  have hl29 : (cellsR jr).length = 32 := by rw [cellsR_len, J16.out.len]
  have ho29 : ∀ v ∈ cellsR jr, v.oneCell' = true := cellsR_ones jr
  have hi29 : (Tryd.prog.info? 27).map (·.size) = some (cellsR jr).length := by rw [hl29]; kernel_rfl
  have HOUT := Lib.hid (show outR (befR smD smG [true, true] [zeroR, smR 2147483647] 2) = .tuple #[.agg (cellsR jr).toArray, .bool true] by rw [sm_bef, hjr]; rfl)
  have HJ := Lib.hid hjr
  have H16 := Lib.hid (show ∀ r ∈ [zeroR, smR 2147483647], R16 r from fun r hr => by
   simp only [List.mem_cons, List.not_mem_nil, or_false] at hr
   rcases hr with rfl | rfl
   ·exact R16.zero
   ·exact smR_16 _ (by unfold W32; omega))
  have HOK := Lib.hid (show ∀ x ∈ smG, 0 ≤ x.lo ∧ ∀ a : Nat, x.lo ≤ (a : Int) → (a : Int) < x.hi → a < 4 ∧ (decI (smD a)).2 = 0 ∧ 0 ≤ (insAt smD (a : Int)).op from fun x hx => ⟨(sm_gok x hx).lo, (sm_gok x hx).cod⟩)
  clear hjr
  go_upto_region 3 with fail
  go_cut [6, 7] from 20 to 26 (fun a6 a7 wx => ∃ b6, a6 = .pointer (some ⟨b6, 0, none⟩) ∧ a7 = .bool true ∧ RBox wx b6 27 jr ∧ Below Y.heap.size Y wx)
  case first =>
   go_region_held3 (fun w' => (∀ b o, b < Y.heap.size → w'.cell? ⟨b, o, none⟩ = Y.cell? ⟨b, o, none⟩) ∧ Below Y.heap.size Y w') ((exact keepX (by (repeat (first | (with_reducible assumption) | (with_reducible exact Below.refl _ _) | (with_reducible refine Below.drew ?_) | (with_reducible refine Below.alloc ?_ (by first | exact Nat.le_refl _ | (simp; done) | (simp; omega) | omega) _) | (with_reducible refine Below.setCell ?_ (by first | exact Nat.le_refl _ | omega | (simp; done) | (simp; omega)) _) | (with_reducible refine Below.setCells' ?_ (by first | exact Nat.le_refl _ | omega | (simp; done) | (simp; omega)) _ _))))))
    (first | (go_at_call 31; refine (sample_any _ (HTY.out.below (by (repeat (first | (with_reducible assumption) | (with_reducible exact Below.refl _ _) | (with_reducible refine Below.drew ?_) | (with_reducible refine Below.alloc ?_ (by first | exact Nat.le_refl _ | (simp; done) | (simp; omega) | omega) _) | (with_reducible refine Below.setCell ?_ (by first | exact Nat.le_refl _ | omega | (simp; done) | (simp; omega)) _) | (with_reducible refine Below.setCells' ?_ (by first | exact Nat.le_refl _ | omega | (simp; done) | (simp; omega)) _ _)))))).mono ?_; rintro e w2 ⟨⟨cv2, ev2, A2, cap2, rfl, rfl, hrow2, hent2⟩, hb2⟩; have hk2 : Below Y.heap.size Y w2 := Below.trans (by (repeat (first | (with_reducible assumption) | (with_reducible exact Below.refl _ _) | (with_reducible refine Below.drew ?_) | (with_reducible refine Below.alloc ?_ (by first | exact Nat.le_refl _ | (simp; done) | (simp; omega) | omega) _) | (with_reducible refine Below.setCell ?_ (by first | exact Nat.le_refl _ | omega | (simp; done) | (simp; omega)) _) | (with_reducible refine Below.setCells' ?_ (by first | exact Nat.le_refl _ | omega | (simp; done) | (simp; omega)) _ _)))) (Below.mono hb2 (by first | exact Nat.le_refl _ | (simp only [World.size_alloc, World.size_drew]; omega) | omega)); have hw2 := sample_words hrow2; have hs2 := hk2.size; have ht2 := there_new w2; (try have hz2 : RBox w2 Y.heap.size 27 zeroR := (hb2.block _ (by simp)).trans (heap_alloc_new Y.drew _)); clear hb2) | (go_at_call 17; refine (before_any _ _ _ _ _ _ _ 0 0 4 smD smG [true, true] [zeroR, smR 2147483647] 2 _ (HTY.out.below (by (repeat (first | (with_reducible assumption) | (with_reducible exact Below.refl _ _) | (with_reducible refine Below.drew ?_) | (with_reducible refine Below.alloc ?_ (by first | exact Nat.le_refl _ | (simp; done) | (simp; omega) | omega) _) | (with_reducible refine Below.setCell ?_ (by first | exact Nat.le_refl _ | omega | (simp; done) | (simp; omega)) _) | (with_reducible refine Below.setCells' ?_ (by first | exact Nat.le_refl _ | omega | (simp; done) | (simp; omega)) _ _))))) (hw2.below (by (repeat (first | (with_reducible assumption) | (with_reducible exact Below.refl _ _) | (with_reducible refine Below.drew ?_) | (with_reducible refine Below.alloc ?_ (by first | exact Nat.le_refl _ | (simp; done) | (simp; omega) | omega) _) | (with_reducible refine Below.setCell ?_ (by first | exact Nat.le_refl _ | omega | (simp; done) | (simp; omega)) _) | (with_reducible refine Below.setCells' ?_ (by first | exact Nat.le_refl _ | omega | (simp; done) | (simp; omega)) _ _))))) (HGY.out.below (by (repeat (first | (with_reducible assumption) | (with_reducible exact Below.refl _ _) | (with_reducible refine Below.drew ?_) | (with_reducible refine Below.alloc ?_ (by first | exact Nat.le_refl _ | (simp; done) | (simp; omega) | omega) _) | (with_reducible refine Below.setCell ?_ (by first | exact Nat.le_refl _ | omega | (simp; done) | (simp; omega)) _) | (with_reducible refine Below.setCells' ?_ (by first | exact Nat.le_refl _ | omega | (simp; done) | (simp; omega)) _ _))))) (HRY.out.below (by (repeat (first | (with_reducible assumption) | (with_reducible exact Below.refl _ _) | (with_reducible refine Below.drew ?_) | (with_reducible refine Below.alloc ?_ (by first | exact Nat.le_refl _ | (simp; done) | (simp; omega) | omega) _) | (with_reducible refine Below.setCell ?_ (by first | exact Nat.le_refl _ | omega | (simp; done) | (simp; omega)) _) | (with_reducible refine Below.setCells' ?_ (by first | exact Nat.le_refl _ | omega | (simp; done) | (simp; omega)) _ _))))) H16.out HOK.out).mono ?_; rintro e w3 ⟨rfl, hb3⟩; rw [HOUT.out]; have hk3 : Below Y.heap.size Y w3 := Below.trans (by (repeat (first | (with_reducible assumption) | (with_reducible exact Below.refl _ _) | (with_reducible refine Below.drew ?_) | (with_reducible refine Below.alloc ?_ (by first | exact Nat.le_refl _ | (simp; done) | (simp; omega) | omega) _) | (with_reducible refine Below.setCell ?_ (by first | exact Nat.le_refl _ | omega | (simp; done) | (simp; omega)) _) | (with_reducible refine Below.setCells' ?_ (by first | exact Nat.le_refl _ | omega | (simp; done) | (simp; omega)) _ _)))) (Below.mono hb3 (by first | exact Nat.le_refl _ | (simp only [World.size_alloc, World.size_drew]; omega) | omega)); have hs3 := hk3.size; have hsb := hb3.size; have ht3 := there_new w3; (try have hz3 : RBox w3 Y.heap.size 27 zeroR := (hb3.block _ (by first | exact hz2.lt | (simp; omega))).trans hz2); (try have hz4 : RBox w3 w2.heap.size 27 zeroR := (hb3.block _ (by simp)).trans (heap_alloc_new w2 _)); (try have hy3 : w3.there Y.heap.size 0 32 := there_box hz3); (try have hy4 : w3.there w2.heap.size 0 32 := there_box hz4)))
   all_goals (go_wp2_with fail; go_meet)
   all_goals first
    | exact ⟨_, rfl, rfl, box_set (z := zeroR) (heap_alloc_new _ _) zero16 J16.out.len, Below.setCells' (Below.alloc hk3 hs3 _) hs3 _ _⟩
    | exact ⟨_, rfl, rfl, box_set hz4 zero16 J16.out.len, Below.setCells' hk3 hs2 _ _⟩
    | exact ⟨_, rfl, rfl, box_set hz3 zero16 J16.out.len, Below.setCells' hk3 (Nat.le_refl _) _ _⟩
  case rest =>
   obtain ⟨b6, rfl, rfl, k6, bYc⟩ := hcut
   obtain ⟨Z, hZ⟩ : ∃ Z : World, Z = wc := ⟨_, rfl⟩
   subst hZ
   have z40 : Z.cell? ⟨b4, 0, none⟩ = _ := (bYc.cell (p := ⟨b4, 0, none⟩) lY4).trans y40
   have z41 : Z.cell? ⟨b4, 1, none⟩ = _ := (bYc.cell (p := ⟨b4, 1, none⟩) lY4).trans y41
   have z42 : Z.cell? ⟨b4, 2, none⟩ = _ := (bYc.cell (p := ⟨b4, 2, none⟩) lY4).trans y42
   have zr1 : Z.cell? ⟨rq, ro + 1, none⟩ = _ := (bYc.cell (p := ⟨rq, ro + 1, none⟩) hrq).trans yr1
   have zi0 : Z.cell? ⟨iq, io + 52, none⟩ = _ := (bYc.cell (p := ⟨iq, io + 52, none⟩) hiq).trans yi0
   have zi1 : Z.cell? ⟨iq, io + 53, none⟩ = _ := (bYc.cell (p := ⟨iq, io + 53, none⟩) hiq).trans yi1
   have kk6 : RBox Z b6 27 (smR 3) := HJ.out ▸ k6
   have z60 : Z.cell? ⟨b6, 20, none⟩ = some (.int .i32 0) := kk6.lo (k := 10) (by decide)
   have z61 : Z.cell? ⟨b6, 21, none⟩ = some (.int .i32 3) := kk6.hi (k := 10) (by decide)
   have HBZ := Lib.hid (BY.out.trans (bYc.mono BY.out.size))
   clear y0 y1 y40 y41 y42 yr1 yi0 yi1 kk6 k6 bYc hi29 hl29 ho29
   go_wp2_with fail
   go_ret
   exact ⟨rfl, HBZ.out⟩

end Go.Proofs.YtebklpnkcicpjaaDoor


