/-
  What is proved here: what the reference's Code returns: the instructions of an image.
-/
import Derived.Test.YtfceodpdipniaaaDoorCgR24
import Derived.Test.YtfceodpdipniaaaDoorCgR04c
namespace Go.Proofs.YtfceodpdipniaaaDoor
open Go.RowKit
set_option linter.unusedVariables false
set_option linter.unusedSimpArgs false

theorem Inss.grown {w w' : World} {v : Value} {n : Nat} {c : Nat → Ins} {row : Option Nat} (h : Inss w v n c) (hg : w.grownBy w' row) (hne : ∀ q, v.ownBlock = some q → row ≠ some q) : Inss w' v n c := by
  obtain ⟨A, cap, rfl, h2, h3, h4⟩ := h
  refine ⟨A, cap, rfl, h2, h3, fun h0 => ?_⟩
  obtain ⟨b, off, rfl, hlt, hc⟩ := h4 h0
  have hb : w'.heap[b]? = w.heap[b]? := hg.block b hlt (Ne.symm (hne b rfl))
  refine ⟨b, off, rfl, by have := hg.size; omega, fun i hi => ?_⟩
  obtain ⟨c0, c1, c2, c3, c4⟩ := hc i hi
  exact ⟨(World.cell?_of_block (w := w) (a := ⟨b, _, none⟩) hb).trans c0, (World.cell?_of_block (w := w) (a := ⟨b, _, none⟩) hb).trans c1, (World.cell?_of_block (w := w) (a := ⟨b, _, none⟩) hb).trans c2, (World.cell?_of_block (w := w) (a := ⟨b, _, none⟩) hb).trans c3, (World.cell?_of_block (w := w) (a := ⟨b, _, none⟩) hb).trans c4⟩
theorem flat5_len {f : Nat → List Value} (hf : ∀ i, (f i).length = 5) (n : Nat) : ((List.range n).flatMap f).length = n * 5 := by
  induction n with
  | zero => rfl
  | succ n ih => rw [List.range_succ, List.flatMap_append, List.length_append, ih]; simp [hf]; omega
theorem flat5_at {f : Nat → List Value} (hf : ∀ i, (f i).length = 5) : ∀ (n i j : Nat), i < n → j < 5 → ((List.range n).flatMap f)[i * 5 + j]? = (f i)[j]?
  | n + 1, i, j, hi, hj => by
    rw [List.range_succ, List.flatMap_append]
    have hl := flat5_len hf n
    by_cases e : i < n
    · rw [List.getElem?_append_left (by omega)]
      exact flat5_at hf n i j e hj
    · obtain rfl : i = n := by omega
      rw [List.getElem?_append_right (by omega), hl]
      simp
def flatI (c : Nat → Ins) (n : Nat) : List Value := (List.range n).flatMap fun i => (c i).cells
theorem flatI_succ (c : Nat → Ins) (n : Nat) : flatI c (n + 1) = flatI c n ++ (c n).cells := by
  unfold flatI
  rw [List.range_succ, List.flatMap_append]
  simp
theorem infoIn : (Tryd.prog.info? 53).map (fun i => (i.zero, i.size, i.bytes)) = some (some (.agg #[.int .u8 0, .int .i64 0, .int .i64 0, .int .i64 0, .int .i64 0]), 5, 40) := by kernel_rfl
theorem own_inss {w : World} {B n : Nat} {v : Value} {c : Nat → Ins} (h : w.ownsRow B 53 5 v n (flatI c n)) : Inss w v n c := by
  rcases h.2 with ⟨rfl, h0⟩ | ⟨g, cap, cur, rfl, _, hg, h1, h2, _, _⟩
  · subst h0
    exact ⟨none, 0, rfl, Nat.le_refl _, by unfold maxLen; omega, fun h => by omega⟩
  · refine ⟨_, cap, rfl, h1, h2, fun _ => ⟨g, 0, rfl, (Array.getElem?_eq_some_iff.1 hg).1, fun i hi => ?_⟩⟩
    have key : ∀ j, j < 5 → w.cell? ⟨g, 0 + i * 5 + j, none⟩ = (c i).cells[j]? := fun j hj => by
      rw [Nat.zero_add, h.cellAt _ (by omega)]
      exact flat5_at (f := fun i => (c i).cells) (fun _ => rfl) n i j hi hj
    exact ⟨key 0 (by omega), key 1 (by omega), key 2 (by omega), key 3 (by omega), key 4 (by omega)⟩
theorem cells_new5 (w : World) (a b c d e : Value) (t : TypeId) : ∀ j u, [a, b, c, d, e][j]? = some u → (w.alloc (.cells #[a, b, c, d, e] t)).cell? ((⟨w.heap.size, 0, none⟩ : Addr).add j) = some u := by
  intro j u h
  have e : (⟨w.heap.size, 0, none⟩ : Addr).add j = ⟨w.heap.size, j, none⟩ := by cases j <;> simp [Addr.add]
  rw [e]
  unfold World.cell?
  rw [heap_alloc_new]
  simpa using h
theorem own_sl5 {w : World} {B n size : Nat} {e : TypeId} {v : Value} {xs : List Value} (h : w.ownsRow B e size v n xs) : ∃ A cap, v = .slice A n cap := by
  rcases h.2 with ⟨rfl, h0⟩ | ⟨g, cap, cur, rfl, hb, _⟩
  · exact ⟨_, _, by rw [h0]⟩
  · exact ⟨_, _, rfl⟩

set_option maxHeartbeats 4000000 in
set_option maxRecDepth 20000 in
theorem code_any (cv ev : Value) (sh lk : Int) (n : Nat) (cd : Nat → Int) (w : World) (HW : Words w cv n cd) :
    Calls Tryd.prog 14 #[.agg #[cv, ev, .int .i64 sh, .int .i64 lk]] w fun e w' => (∃ v, e = .returned v ∧ Inss w' v n (fun i => (decI (cd i)).1) ∧ ∀ q, v.ownBlock = some q → w.heap.size ≤ q) ∧ Below w.heap.size w w' := by
  have hn := HW.le
  obtain ⟨A, cap, hcv, hc1, hc2, hrd⟩ := HW.at_
  subst hcv
  have HRD := Lib.hid hrd
  have HWD := Lib.hid HW.wd
  unfold maxLen at hc2
  clear hrd HW
  obtain ⟨iN, hiN, hN0, hN1, hN2⟩ := info_parts infoIn
  obtain ⟨V0, hV0⟩ : ∃ V0, w.alloc (.cells #[.slice A n cap, ev, .int .i64 sh, .int .i64 lk] 25) = V0 := ⟨_, rfl⟩
  have b0 : Below w.heap.size w V0 := hV0 ▸ (Below.refl _ _).alloc (Nat.le_refl _) _
  have s0 : w.heap.size < V0.heap.size := by rw [← hV0]; simp
  have k0 : V0.heap[w.heap.size]? = some (.cells #[.slice A n cap, ev, .int .i64 sh, .int .i64 lk] 25) := by rw [← hV0]; exact heap_alloc_new _ _
  have y0 : V0.cell? ⟨w.heap.size, 0, none⟩ = some (.slice A n cap) := by simp [World.cell?, k0]
  have B0 := Lib.hid b0
  have HO0 := Lib.hid (World.ownsRow_made (e := 53) (size := 5) V0 #[] 0 (Nat.le_refl V0.heap.size) (Nat.zero_le _) rfl)
  have HBE := Lib.hid (show Below V0.heap.size V0 (V0.alloc (.cells #[] 53)) from (Below.refl _ _).alloc (Nat.le_refl _) _)
  clear k0 b0
  go_enter Tryd.func14, Tryd.ntmps14
  go_upto_region 3 with fail
  clear hV0
  go_loopw [3, 4, 5, 6] (fun a3 a4 a5 a6 wr => ∃ i : Nat, i ≤ n ∧ a4 = .int .i64 (i : Int) ∧ Below V0.heap.size V0 wr ∧ wr.ownsRow V0.heap.size 53 5 a3 i (flatI (fun i => (decI (cd i)).1) i)) (fun _ a4 _ _ _ => n - (intOf a4).toNat)
  case atStart => exact ⟨0, Nat.zero_le _, rfl, HBE.out, HO0.out⟩
  case round =>
    obtain ⟨i, hi, rfl, hb, ho⟩ := hrel
    obtain ⟨oA, ocap, rfl⟩ := own_sl5 ho
    have HB := Lib.hid hb
    have HO := Lib.hid ho
    have hs := hb.size
    have BW := Lib.hid (B0.out.trans (hb.mono (by omega)))
    have z0 : wr.cell? ⟨w.heap.size, 0, none⟩ = some (.slice A n cap) := by rw [hb.cell (p := ⟨w.heap.size, 0, none⟩) s0]; exact y0
    have hsw : w.heap.size < wr.heap.size := by omega
    clear hb ho HO0 HBE
    by_cases hlt : i < n
    · obtain ⟨b, off, rfl, hbl, hc⟩ := HRD.out (by omega)
      have x0 : wr.cell? ⟨b, off + i, none⟩ = some (.int .u32 (cd i)) := by rw [BW.out.cell (p := ⟨b, off + i, none⟩) hbl]; exact hc i hlt
      have dl : decide ((i : Int) < (n : Int)) = true := decide_eq_true (by omega)
      have dln : decide (i < n) = true := decide_eq_true hlt
      have HD := Lib.hid (decode4_any (cd i) (HWD.out i hlt).1 (HWD.out i hlt).2 wr)
      have hbw : b < wr.heap.size := by omega
      obtain ⟨it, hit⟩ : ∃ it, (decI (cd i)).1 = it := ⟨_, rfl⟩
      obtain ⟨er, her⟩ : ∃ er : Bool, decide ((decI (cd i)).2 = 0) = er := ⟨_, rfl⟩
      rw [hit, her] at HD
      have HIT := Lib.hid hit
      obtain ⟨op, ia, ib, ic, imm⟩ := it
      simp only [Ins.val] at HD
      clear hc hit her
      go_upto_region 6 with (go_at_call 43; refine HD.out.mono ?_; rintro e' W9 ⟨rfl, hb9⟩)
      obtain ⟨Z, hZ⟩ : ∃ Z, W9.alloc (.cells #[.int .u8 op, .int .i64 ia, .int .i64 ib, .int .i64 ic, .int .i64 imm] 53) = Z := ⟨_, rfl⟩
      have bZ : Below W9.heap.size W9 Z := hZ ▸ (Below.refl _ _).alloc (Nat.le_refl _) _
      have kZ : Z.heap[W9.heap.size]? = some (.cells #[.int .u8 op, .int .i64 ia, .int .i64 ib, .int .i64 ic, .int .i64 imm] 53) := hZ ▸ heap_alloc_new _ _
      have sZ : W9.heap.size < Z.heap.size := by rw [← hZ]; simp
      have hrZ : Below wr.heap.size wr Z := hb9.trans (bZ.mono hb9.size)
      have HOZ := Lib.hid (ownsRow_below HO.out hrZ)
      have HBZ := Lib.hid (HB.out.trans (hrZ.mono hs))
      have q0 : Z.cell? ⟨W9.heap.size, 0, none⟩ = some (.int .u8 op) := by simp [World.cell?, kZ]
      have q1 : Z.cell? ⟨W9.heap.size, 1, none⟩ = some (.int .i64 ia) := by simp [World.cell?, kZ]
      have q2 : Z.cell? ⟨W9.heap.size, 2, none⟩ = some (.int .i64 ib) := by simp [World.cell?, kZ]
      have q3 : Z.cell? ⟨W9.heap.size, 3, none⟩ = some (.int .i64 ic) := by simp [World.cell?, kZ]
      have q4 : Z.cell? ⟨W9.heap.size, 4, none⟩ = some (.int .i64 imm) := by simp [World.cell?, kZ]
      obtain ⟨zb, hzb⟩ : ∃ zb, W9.heap.size = zb := ⟨_, rfl⟩
      rw [hZ]
      rw [hzb] at q0 q1 q2 q3 q4 sZ ⊢
      have hsZ := HBZ.out.size
      clear hZ bZ kZ hb9 hrZ hzb z0 x0 HD dl dln
      go_upto_region 4 with (at_builtin; refine wpList_append_own_at _ rfl (.tmp 24) (.tmp 26) 36 rfl V0.heap.size 53 iN _ 5 40 Tryd.underlying36 hiN hN0 hN1 hN2 rfl (by decide) (.slice oA i ocap) _ _ rfl (HOZ.out.alloc _) ⟨Z.heap.size, 0, none⟩ 1 1 [.int .u8 op, .int .i64 ia, .int .i64 ib, .int .i64 ic, .int .i64 imm] rfl rfl (cells_new5 _ _ _ _ _ _ _) (by simp [Value.oneCell']) (by unfold maxLen; omega) (by omega) (by rw [World.size_alloc]; omega) ?_; intro v' W' hown' hgrow _ hob)
      have FO := Lib.hid hown'
      have FB := Lib.hid ((HBZ.out.alloc hsZ _).grown hgrow (by rw [World.size_alloc]; omega) (fun q hq => (HOZ.out.lt q hq).1))
      clear hown' hgrow hob q0 q1 q2 q3 q4
      go_wp2_with fail
      go_roundw
      case rel =>
        refine ⟨i + 1, by omega, by go_num, FB.out, ?_⟩
        rw [flatI_succ]
        simp only [HIT.out]
        exact FO.out
      case measure => simp [intOf]; omega
    · obtain rfl : i = n := by omega
      have dl : decide ((i : Int) < (i : Int)) = false := by simp
      have HII := Lib.hid (own_inss HO.out)
      have HOB := Lib.hid (fun q (hq : (Value.slice oA i ocap).ownBlock = some q) => (HO.out.lt q hq).1)
      go_wp2_with fail
      go_ret
      exact ⟨⟨_, rfl, HII.out, fun q hq => by have h1 := HOB.out q hq; omega⟩, BW.out⟩

end Go.Proofs.YtfceodpdipniaaaDoor
