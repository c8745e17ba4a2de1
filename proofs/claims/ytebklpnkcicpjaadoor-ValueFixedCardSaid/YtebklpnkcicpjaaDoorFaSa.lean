/-
 What is proved here: what sample returns.
-/
import Derived.Test.YtebklpnkcicpjaaDoorFaSmp
import Derived.Test.YtebklpnkcicpjaaDoorFaCb
import Derived.Test.YtebklpnkcicpjaaDoorFbCd
namespace Go.Proofs.YtebklpnkcicpjaaDoor
open Go.RowKit
set_option linter.unusedVariables false
set_option linter.unusedSimpArgs false

set_option maxHeartbeats 2000000 in
set_option maxRecDepth 20000 in
theorem sample_any (w : World) (T : Tab w) :
  Calls Tryd.prog 31 #[] w fun e w' => (∃ cv ev A cap, e = .returned (.agg #[cv, ev, .int .i64 0, .int .i64 0]) ∧ cv = .slice A 4 cap ∧ w'.ownsRow w.heap.size 67 1 cv 4 (uvs (smL.map fun i => (encI i).1)) ∧ Ents w' ev [⟨taName, 0, 4, 0⟩]) ∧ Below w.heap.size w w' := by
 have HT := Lib.hid T
 have HOP := Lib.hid (show ∀ x ∈ smL, 0 ≤ x.op by decide)
 clear T
 obtain ⟨iW, hiW, hW0, hW1, hW2⟩ := info_parts infoW
 go_enter Tryd.func31, Tryd.ntmps31
 go_upto_region 3 with fail
 obtain ⟨V, hV, kr, ke, ki, ks, bV, sV'⟩ := four_new w #[.slice none 0 0, .slice none 0 0, .int .i64 0, .int .i64 0] #[.string { data := #[116, 97] }, .int .i64 0, .int .i64 4, .int .i64 0] #[.slice none 0 0, .slice (some ⟨w.heap.size + 1, 0, none⟩) 1 1, .int .i64 0, .int .i64 0] #[.int .u8 14, .int .i64 10, .int .i64 0, .int .i64 0, .int .i64 0, .int .u8 25, .int .i64 10, .int .i64 0, .int .i64 0, .int .i64 4, .int .u8 15, .int .i64 10, .int .i64 10, .int .i64 0, .int .i64 1, .int .u8 24, .int .i64 0, .int .i64 0, .int .i64 0, .int .i64 (-3)] 38 102 38 23
 have sV : V.heap.size = w.heap.size + 4 := by rw [← hV]; simp
 have HIG := Lib.hid (show IG V V (w.heap.size + 1 + 1) (.slice none 0 0) (.slice (some ⟨w.heap.size + 1, 0, none⟩) 1 1) [] from ⟨by omega, rfl, rfl, rfl, Nat.le_refl _, fun _ _ _ => rfl, ki, World.ownsRow_nil _ _ _ _⟩)
 have hin : ∀ j i, smL[j]? = some i → V.cell? ⟨w.heap.size + 1 + 1 + 1, j * 5, none⟩ = some (.int .u8 i.op) ∧ V.cell? ⟨w.heap.size + 1 + 1 + 1, j * 5 + 1, none⟩ = some (.int .i64 i.a) ∧ V.cell? ⟨w.heap.size + 1 + 1 + 1, j * 5 + 2, none⟩ = some (.int .i64 i.b) ∧ V.cell? ⟨w.heap.size + 1 + 1 + 1, j * 5 + 3, none⟩ = some (.int .i64 i.c) ∧ V.cell? ⟨w.heap.size + 1 + 1 + 1, j * 5 + 4, none⟩ = some (.int .i64 i.imm) := fun j i hj => by
  have hl := (List.getElem?_eq_some_iff.1 hj).1
  have hl4 : j < 4 := hl
  obtain rfl | rfl | rfl | rfl : j = 0 ∨ j = 1 ∨ j = 2 ∨ j = 3 := by omega
  all_goals
   simp [smL] at hj
   subst hj
   simp [World.cell?, ks]
 rw [hV]
 obtain ⟨ib, hib⟩ : ∃ ib, w.heap.size + 1 + 1 = ib := ⟨_, rfl⟩
 obtain ⟨sb, hsb⟩ : ∃ sb, w.heap.size + 1 + 1 + 1 = sb := ⟨_, rfl⟩
 rw [hsb] at hin ⊢
 rw [hib] at HIG ⊢
 obtain ⟨eb, heb⟩ : ∃ eb, w.heap.size + 1 = eb := ⟨_, rfl⟩
 rw [heb] at HIG ke ⊢
 have BV := Lib.hid bV
 have KR := Lib.hid kr
 have KE := Lib.hid ke
 have HIN := Lib.hid hin
 clear hV ki kr ke bV ks hin
 go_loopw [3, 4, 5, 15] (fun a3 a4 a5 a15 wr => ∃ (j : Nat) (cv : Value), j ≤ 4 ∧ a15 = .int .i64 (j : Int) ∧ IG V wr ib cv (.slice (some ⟨eb, 0, none⟩) 1 1) ((smL.take j).map fun i => (encI i).1)) (fun _ _ _ a15 _ => 4 - (intOf a15).toNat)
 case atStart => exact ⟨0, _, Nat.zero_le _, rfl, HIG.out⟩
 case round =>
  obtain ⟨j, cv, hj, rfl, hG⟩ := hrel
  clear HIG
  have HG := Lib.hid hG
  have BW := Lib.hid (hG.base BV.out (by omega))
  have sB := BW.out.size
  have sB2 := hG.sz
  clear hG
  by_cases hlt : j < 4
  ·obtain ⟨i, hx⟩ : ∃ i, smL[j]? = some i := ⟨_, List.getElem?_eq_getElem (show j < smL.length from hlt)⟩
   obtain ⟨c0, c1, c2, c3, c4⟩ := HIN.out j i hx
   have x0 : wr.cell? ⟨sb, j * 5, none⟩ = some (.int .u8 i.op) := (World.cell?_of_block (HG.out.blk sb (by omega) (by omega))).trans c0
   have x1 : wr.cell? ⟨sb, j * 5 + 1, none⟩ = some (.int .i64 i.a) := (World.cell?_of_block (HG.out.blk sb (by omega) (by omega))).trans c1
   have x2 : wr.cell? ⟨sb, j * 5 + 2, none⟩ = some (.int .i64 i.b) := (World.cell?_of_block (HG.out.blk sb (by omega) (by omega))).trans c2
   have x3 : wr.cell? ⟨sb, j * 5 + 3, none⟩ = some (.int .i64 i.c) := (World.cell?_of_block (HG.out.blk sb (by omega) (by omega))).trans c3
   have x4 : wr.cell? ⟨sb, j * 5 + 4, none⟩ = some (.int .i64 i.imm) := (World.cell?_of_block (HG.out.blk sb (by omega) (by omega))).trans c4
   have HTS := Lib.hid (show (smL.take (j + 1)).map (fun i => (encI i).1) = (smL.take j).map (fun i => (encI i).1) ++ [(encI i).1] by rw [take_snoc hx]; simp)
   have hop := HOP.out i (List.mem_of_getElem? hx)
   have dl : decide ((j : Int) < (4 : Int)) = true := decide_eq_true (by omega)
   have hbw : sb < wr.heap.size := by omega
   obtain ⟨X, hX⟩ : ∃ X, wr.alloc (.cells #[.int .u8 i.op, .int .i64 i.a, .int .i64 i.b, .int .i64 i.c, .int .i64 i.imm] 23) = X := ⟨_, rfl⟩
   have bX : Below wr.heap.size wr X := hX ▸ (Below.refl _ _).alloc (Nat.le_refl _) _
   have kX : X.heap[wr.heap.size]? = some (.cells #[.int .u8 i.op, .int .i64 i.a, .int .i64 i.b, .int .i64 i.c, .int .i64 i.imm] 23) := hX ▸ heap_alloc_new _ _
   have HEN := Lib.hid (encode_any i hop X (HT.out.below (BW.out.trans (bX.mono sB))))
   obtain ⟨ec, er, hec⟩ : ∃ ec er, encI i = (ec, er) := ⟨_, _, rfl⟩
   rw [hec] at HEN HTS
   simp only at HEN HTS
   obtain ⟨ws, hws⟩ : ∃ ws, (smL.take j).map (fun i => (encI i).1) = ws := ⟨_, rfl⟩
   have hwl : ws.length = j := by rw [← hws, List.length_map, List.length_take]; show min j 4 = j; omega
   rw [hws] at HG HTS
   have HWL := Lib.hid hwl
   have o0 : X.cell? ⟨wr.heap.size, 0, none⟩ = some (.int .u8 i.op) := by simp [World.cell?, kX]
   have o1 : X.cell? ⟨wr.heap.size, 1, none⟩ = some (.int .i64 i.a) := by simp [World.cell?, kX]
   have o2 : X.cell? ⟨wr.heap.size, 2, none⟩ = some (.int .i64 i.b) := by simp [World.cell?, kX]
   have o3 : X.cell? ⟨wr.heap.size, 3, none⟩ = some (.int .i64 i.c) := by simp [World.cell?, kX]
   have o4 : X.cell? ⟨wr.heap.size, 4, none⟩ = some (.int .i64 i.imm) := by simp [World.cell?, kX]
   have HGX := Lib.hid (HG.out.below bX)
   clear c0 c1 c2 c3 c4 hx hec hws hwl kX bX hop
   go_upto_region 5 with fail
   clear hX x0 x1 x2 x3 x4
   go_upto_region 6 with (go_at_call 34; refine HEN.out.mono ?_; rintro e Y ⟨rfl, hbY⟩)
   have hGY := HGX.out.below hbY
   obtain ⟨cA, ccap, rfl⟩ : ∃ cA ccap, cv = .slice cA ws.length ccap := by
    rcases hGY.row.2 with ⟨h, h'⟩ | ⟨g, cap', cur, h, _⟩
    ·exact ⟨_, _, by rw [h, h']⟩
    ·exact ⟨_, _, h⟩
   have i0 : Y.cell? ⟨ib, 0, none⟩ = some (.slice cA ws.length ccap) := by simp [World.cell?, hGY.im]
   have f0 : Y.frozen? ⟨ib, 0, none⟩ = false := by simp [World.frozen?, hGY.im]
   have HGY := Lib.hid hGY
   have HNb := Lib.hid (show some ib ≠ Value.ownBlock (.slice cA ws.length ccap) from fun e' => by have := (hGY.row.lt ib e'.symm).1; have := hGY.ib1; omega)
   have hiY : ib < Y.heap.size := by have := hGY.sz; have := hGY.ib1; omega
   have hVY := hGY.sz
   have hw5 : ws.length ≤ 1000 := by have := HWL.out; omega
   clear hGY hbY o0 o1 o2 o3 o4 HEN HGX
   go_upto_region 7 with (at_builtin; refine wpList_append_own_at _ rfl (.tmp 25) (.tmp 27) 35 rfl V.heap.size 67 iW (.int .u32 0) 1 4 Tryd.underlying35 hiW hW0 hW1 hW2 rfl (by decide) (.slice cA ws.length ccap) _ _ rfl (HGY.out.row.alloc _) ⟨Y.heap.size, 0, none⟩ 1 1 [.int .u32 ec] rfl rfl (cell_one_new _ _ _) (by simp [Value.oneCell']) (by unfold maxLen; omega) (by omega) (by rw [World.size_alloc]; omega) ?_; intro v' W' hown' hgrow _ hob; obtain ⟨g', cap', rfl⟩ := ownsRow_succ hown'; have hc1 := hgrow.cell (a := ⟨ib, 0, none⟩) (v := .slice cA ws.length ccap) (by simp [go_sem, *]) HNb.out; have hf1 : W'.frozen? ⟨ib, 0, none⟩ = false := (World.frozen?_of_block (hgrow.block ib (by simp; omega) HNb.out)).trans (by simp [go_sem, *]))
   have HA := Lib.hid (HGY.out.app (x := ec) ((Below.refl Y.heap.size Y).alloc (Nat.le_refl _) _) hgrow (by simpa [uvs] using hown'))
   clear hc1 hf1 hob hgrow hown' i0 f0 HGY HNb
   go_wp2_with fail
   go_roundw
   case rel =>
    refine ⟨j + 1, .slice (some ⟨g', 0, none⟩) (ws.length + 1) cap', by omega, by go_num, ?_⟩
    rw [HTS.out]
    exact HA.out
   case measure => simp [intOf]; omega
  ·obtain rfl : j = 4 := by omega
   have dl : decide ((4 : Int) < (4 : Int)) = false := by simp
   rw [show smL.take 4 = smL from rfl] at HG
   have hwl : (smL.map fun i => (encI i).1).length = 4 := rfl
   have hrw := HG.out.row
   rw [hwl] at hrw
   obtain ⟨cA, ccap, rfl⟩ : ∃ cA ccap, cv = .slice cA 4 ccap := by
    rcases hrw.2 with ⟨h, h'⟩ | ⟨g, cap', cur, h, _⟩
    ·exact ⟨_, _, by rw [h, h']⟩
    ·exact ⟨_, _, h⟩
   have i0 : wr.cell? ⟨ib, 0, none⟩ = some (.slice cA 4 ccap) := by simp [World.cell?, HG.out.im]
   have i1 : wr.cell? ⟨ib, 1, none⟩ = some (.slice (some ⟨eb, 0, none⟩) 1 1) := by simp [World.cell?, HG.out.im]
   have i2 : wr.cell? ⟨ib, 2, none⟩ = some (.int .i64 0) := by simp [World.cell?, HG.out.im]
   have i3 : wr.cell? ⟨ib, 3, none⟩ = some (.int .i64 0) := by simp [World.cell?, HG.out.im]
   have kr := (HG.out.blk w.heap.size (by omega) (by omega)).trans KR.out
   have ke := (HG.out.blk eb (by omega) (by omega)).trans KE.out
   have r0 : wr.cell? ⟨w.heap.size, 0, none⟩ = some (.slice none 0 0) := by simp [World.cell?, kr]
   have r1 : wr.cell? ⟨w.heap.size, 1, none⟩ = some (.slice none 0 0) := by simp [World.cell?, kr]
   have r2 : wr.cell? ⟨w.heap.size, 2, none⟩ = some (.int .i64 0) := by simp [World.cell?, kr]
   have r3 : wr.cell? ⟨w.heap.size, 3, none⟩ = some (.int .i64 0) := by simp [World.cell?, kr]
   have f0 : wr.frozen? ⟨w.heap.size, 0, none⟩ = false := by simp [World.frozen?, kr]
   have f1 : wr.frozen? ⟨w.heap.size, 1, none⟩ = false := by simp [World.frozen?, kr]
   have f2 : wr.frozen? ⟨w.heap.size, 2, none⟩ = false := by simp [World.frozen?, kr]
   have f3 : wr.frozen? ⟨w.heap.size, 3, none⟩ = false := by simp [World.frozen?, kr]
   have HRW := Lib.hid hrw
   have KE2 := Lib.hid ke
   clear hrw kr ke hwl
   go_wp2_with fail
   refine bodyPost_ret (v := .agg #[.slice cA 4 ccap, .slice (some ⟨eb, 0, none⟩) 1 1, .int .i64 0, .int .i64 0]) (by simp [results, Tryd.results31, go_sem, *]) rfl ⟨⟨_, _, _, _, rfl, rfl, ?_, ?_⟩, ?_⟩
   ·refine ownsRow_base (base := V.heap.size) ?_ (by omega)
    have hne : ∀ q, (Value.slice cA 4 ccap).ownBlock = some q → q ≠ w.heap.size := fun q hq => by have := (HRW.out.lt q hq).1; omega
    refine ownsRow_setCell_other (ownsRow_setCell_other (ownsRow_setCell_other (ownsRow_setCell_other HRW.out ?_ _) ?_ _) ?_ _) ?_ _ <;> exact fun e => hne _ e rfl
   ·refine ⟨fun e he => by simp at he; subst he; show taName.size ≤ maxLen; unfold maxLen; decide, _, 1, rfl, Nat.le_refl _, by unfold maxLen; omega, fun _ => ⟨eb, 0, rfl, by simp; omega, fun i x hx => ?_⟩⟩
    obtain ⟨rfl, rfl⟩ : i = 0 ∧ x = ⟨taName, 0, 4, 0⟩ := by
     cases i with
     | zero => simp at hx; exact ⟨rfl, hx.symm⟩
     | succ i => simp at hx
    have hb : ((((wr.setCell ⟨w.heap.size, 0, none⟩ (.slice cA 4 ccap)).setCell ⟨w.heap.size, 1, none⟩ (.slice (some ⟨eb, 0, none⟩) 1 1)).setCell ⟨w.heap.size, 2, none⟩ (.int .i64 0)).setCell ⟨w.heap.size, 3, none⟩ (.int .i64 0)).heap[eb]? = wr.heap[eb]? := by
     have : eb ≠ w.heap.size := by omega
     rw [Below.heap_setCell _ _ _ _ this, Below.heap_setCell _ _ _ _ this, Below.heap_setCell _ _ _ _ this, Below.heap_setCell _ _ _ _ this]
    have hb2 := hb.trans KE2.out
    refine ⟨?_, ?_, ?_, ?_⟩ <;> simp [World.cell?, hb2, taName]
   ·refine Below.setCell (Below.setCell (Below.setCell (Below.setCell BW.out ?_ _) ?_ _) ?_ _) ?_ _ <;> exact Nat.le_refl _

end Go.Proofs.YtebklpnkcicpjaaDoor


