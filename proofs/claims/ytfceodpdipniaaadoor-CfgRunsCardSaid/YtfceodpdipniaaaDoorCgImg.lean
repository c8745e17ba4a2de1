/-
  What is proved here: what image returns.
-/
import Derived.Test.YtfceodpdipniaaaDoorCgVal
namespace Go.Proofs.YtfceodpdipniaaaDoor
open Go.RowKit
set_option linter.unusedVariables false
set_option linter.unusedSimpArgs false

/-- A list of instructions in memory. -/
structure InsL (w : World) (v : Value) (l : List Ins) : Prop where
  at_ : ∃ A cap, v = .slice A l.length cap ∧ l.length ≤ cap ∧ cap ≤ maxLen ∧ (0 < l.length → ∃ b off, A = some ⟨b, off, none⟩ ∧ b < w.heap.size ∧ ∀ i x, l[i]? = some x →
    w.cell? ⟨b, off + i * 5, none⟩ = some (.int .u8 x.op) ∧ w.cell? ⟨b, off + i * 5 + 1, none⟩ = some (.int .i64 x.a) ∧ w.cell? ⟨b, off + i * 5 + 2, none⟩ = some (.int .i64 x.b) ∧ w.cell? ⟨b, off + i * 5 + 3, none⟩ = some (.int .i64 x.c) ∧ w.cell? ⟨b, off + i * 5 + 4, none⟩ = some (.int .i64 x.imm))

theorem infoW : (Tryd.prog.info? 56).map (fun i => (i.zero, i.size, i.bytes)) = some (some (.int .u32 0), 1, 4) := by kernel_rfl
abbrev uvs (l : List Int) : List Value := l.map (Value.int .u32)
def taName : ByteArray := { data := #[116, 97] }
/-- The memory in image. -/
structure IG (V wr : World) (ib : Nat) (cv ev : Value) (ws : List Int) : Prop where
  ib1 : ib < V.heap.size
  os : wr.os = V.os
  tape : wr.tape = V.tape
  output : wr.output = V.output
  sz : V.heap.size ≤ wr.heap.size
  blk : ∀ k, k < V.heap.size → k ≠ ib → wr.heap[k]? = V.heap[k]?
  im : wr.heap[ib]? = some (.cells #[cv, ev, .int .i64 0, .int .i64 0] 25 (0, 0))
  row : wr.ownsRow V.heap.size 56 1 cv ws.length (uvs ws)
theorem IG.below {V wr wr' : World} {ib : Nat} {cv ev : Value} {ws : List Int} (h : IG V wr ib cv ev ws) (hb : Below wr.heap.size wr wr') : IG V wr' ib cv ev ws :=
  ⟨h.ib1, hb.os.trans h.os, hb.tape.trans h.tape, hb.output.trans h.output, Nat.le_trans h.sz hb.size, fun k h1 h2 => (hb.block k (by have := h.sz; omega)).trans (h.blk k h1 h2), (hb.block _ (by have := h.sz; have := h.ib1; omega)).trans h.im, ownsRow_below h.row hb⟩
theorem IG.base {V wr w : World} {ib : Nat} {cv ev : Value} {ws : List Int} (h : IG V wr ib cv ev ws) (hb : Below w.heap.size w V) (hi : w.heap.size ≤ ib) : Below w.heap.size w wr :=
  ⟨h.os.trans hb.os, h.tape.trans hb.tape, h.output.trans hb.output, Nat.le_trans hb.size h.sz, fun k hk => (h.blk k (by have := hb.size; omega) (by omega)).trans (hb.block k hk)⟩
theorem IG.app {V wr w2 W' : World} {ib : Nat} {cv ev v' : Value} {ws : List Int} {x : Int} (h : IG V wr ib cv ev ws) (hb : Below wr.heap.size wr w2) (hg : w2.grownBy W' cv.ownBlock) (hown : W'.ownsRow V.heap.size 56 1 v' (ws.length + 1) (uvs (ws ++ [x]))) : IG V (W'.setCell ⟨ib, 0, none⟩ v') ib v' ev (ws ++ [x]) := by
  have G := grown_of hb hg
  have i1 := h.ib1
  have hsz := h.sz
  have hgs := G.size
  have rl : ∀ q, cv.ownBlock = some q → V.heap.size ≤ q := fun q hq => (h.row.lt q hq).1
  have sm : ∀ k, k < V.heap.size → W'.heap[k]? = wr.heap[k]? := fun k hk => G.block k (by omega) (fun e => by have := rl k e.symm; omega)
  refine ⟨i1, G.os.trans h.os, G.tape.trans h.tape, G.output.trans h.output, by simp; omega, fun k h1 h2 => ?_, ?_, ?_⟩
  · rw [Below.heap_setCell _ _ _ _ h2]; exact (sm k h1).trans (h.blk k h1 h2)
  · rw [heap_setCell_same W' ib 0 _ _ v' ((sm ib i1).trans h.im)]; rfl
  · rw [show (ws ++ [x]).length = ws.length + 1 by simp]
    exact ownsRow_setCell_other hown (fun e => by have := (hown.lt ib e).1; omega) _

set_option maxHeartbeats 2000000 in
set_option maxRecDepth 20000 in
theorem image_any (v : Value) (l : List Ins) (w : World) (T : Tab w) (H : InsL w v l) (hl : l.length ≤ 1000) (hop : ∀ x ∈ l, 0 ≤ x.op) :
    Calls Tryd.prog 35 #[v] w fun e w' => (∃ cv ev A cap, e = .returned (.agg #[cv, ev, .int .i64 0, .int .i64 0]) ∧ cv = .slice A l.length cap ∧ w'.ownsRow w.heap.size 56 1 cv l.length (uvs (l.map fun i => (encI i).1)) ∧ Ents w' ev [⟨taName, 0, l.length, 0⟩]) ∧ Below w.heap.size w w' := by
  obtain ⟨A, cap, rfl, h1, h2, h3⟩ := H.at_
  have HC := Lib.hid h3
  have HT := Lib.hid T
  have HOP := Lib.hid hop
  unfold maxLen at h2
  clear h3 T hop H
  obtain ⟨iW, hiW, hW0, hW1, hW2⟩ := info_parts infoW
  go_enter Tryd.func35, Tryd.ntmps35
  go_upto_region 3 with fail
  obtain ⟨V, hV⟩ : ∃ V, ((w.alloc (.cells #[.slice none 0 0, .slice none 0 0, .int .i64 0, .int .i64 0] 25)).alloc (.cells #[.string { data := #[116, 97] }, .int .i64 0, .int .i64 (l.length : Int), .int .i64 0] 39)).alloc (.cells #[.slice none 0 0, .slice (some ⟨w.heap.size + 1, 0, none⟩) 1 1, .int .i64 0, .int .i64 0] 25) = V := ⟨_, rfl⟩
  have sV : V.heap.size = w.heap.size + 3 := by rw [← hV]; simp
  have bV : Below w.heap.size w V := hV ▸ (((Below.refl _ _).alloc (Nat.le_refl _) _).alloc (by simp) _).alloc (by simp; omega) _
  have kr : V.heap[w.heap.size]? = some (.cells #[.slice none 0 0, .slice none 0 0, .int .i64 0, .int .i64 0] 25) := by rw [← hV, heap_alloc_old _ _ (by simp; try omega), heap_alloc_old _ _ (by simp)]; exact heap_alloc_new _ _
  have ke : V.heap[w.heap.size + 1]? = some (.cells #[.string { data := #[116, 97] }, .int .i64 0, .int .i64 (l.length : Int), .int .i64 0] 39) := by rw [← hV, heap_alloc_old _ _ (by simp)]; exact heap_alloc_at _ _ (by simp)
  have ki : V.heap[w.heap.size + 1 + 1]? = some (.cells #[.slice none 0 0, .slice (some ⟨w.heap.size + 1, 0, none⟩) 1 1, .int .i64 0, .int .i64 0] 25) := by rw [← hV]; exact heap_alloc_at _ _ (by simp)
  have HIG := Lib.hid (show IG V V (w.heap.size + 1 + 1) (.slice none 0 0) (.slice (some ⟨w.heap.size + 1, 0, none⟩) 1 1) [] from ⟨by omega, rfl, rfl, rfl, Nat.le_refl _, fun _ _ _ => rfl, ki, World.ownsRow_nil _ _ _ _⟩)
  rw [hV]
  obtain ⟨ib, hib⟩ : ∃ ib, w.heap.size + 1 + 1 = ib := ⟨_, rfl⟩
  rw [hib] at HIG ⊢
  obtain ⟨eb, heb⟩ : ∃ eb, w.heap.size + 1 = eb := ⟨_, rfl⟩
  rw [heb] at HIG ke ⊢
  have BV := Lib.hid bV
  have KR := Lib.hid kr
  have KE := Lib.hid ke
  clear hV ki kr ke bV
  go_loopw [5, 6, 7, 15] (fun a5 a6 a7 a15 wr => ∃ (j : Nat) (cv : Value), j ≤ l.length ∧ a15 = .int .i64 (j : Int) ∧ IG V wr ib cv (.slice (some ⟨eb, 0, none⟩) 1 1) ((l.take j).map fun i => (encI i).1)) (fun _ _ _ a15 _ => l.length - (intOf a15).toNat)
  case atStart => exact ⟨0, _, Nat.zero_le _, rfl, HIG.out⟩
  case round =>
    obtain ⟨j, cv, hj, rfl, hG⟩ := hrel
    clear HIG
    have HG := Lib.hid hG
    have BW := Lib.hid (hG.base BV.out (by omega))
    have sB := BW.out.size
    have sB2 := hG.sz
    clear hG
    by_cases hlt : j < l.length
    · obtain ⟨b, off, rfl, hb, hc⟩ := HC.out (by omega)
      obtain ⟨i, hi⟩ : ∃ i, l[j] = i := ⟨_, rfl⟩
      have hx : l[j]? = some i := by rw [List.getElem?_eq_getElem hlt, hi]
      obtain ⟨c0, c1, c2, c3, c4⟩ := hc j i hx
      have x0 : wr.cell? ⟨b, off + j * 5, none⟩ = some (.int .u8 i.op) := by rw [BW.out.cell (p := ⟨b, _, none⟩) hb]; exact c0
      have x1 : wr.cell? ⟨b, off + j * 5 + 1, none⟩ = some (.int .i64 i.a) := by rw [BW.out.cell (p := ⟨b, _, none⟩) hb]; exact c1
      have x2 : wr.cell? ⟨b, off + j * 5 + 2, none⟩ = some (.int .i64 i.b) := by rw [BW.out.cell (p := ⟨b, _, none⟩) hb]; exact c2
      have x3 : wr.cell? ⟨b, off + j * 5 + 3, none⟩ = some (.int .i64 i.c) := by rw [BW.out.cell (p := ⟨b, _, none⟩) hb]; exact c3
      have x4 : wr.cell? ⟨b, off + j * 5 + 4, none⟩ = some (.int .i64 i.imm) := by rw [BW.out.cell (p := ⟨b, _, none⟩) hb]; exact c4
      have HTS := Lib.hid (show (l.take (j + 1)).map (fun i => (encI i).1) = (l.take j).map (fun i => (encI i).1) ++ [(encI i).1] by rw [take_snoc hx]; simp)
      have hop := HOP.out i (List.mem_of_getElem? hx)
      have dl : decide ((j : Int) < (l.length : Int)) = true := by simpa using hlt
      have hbw : b < wr.heap.size := by omega
      obtain ⟨X, hX⟩ : ∃ X, wr.alloc (.cells #[.int .u8 i.op, .int .i64 i.a, .int .i64 i.b, .int .i64 i.c, .int .i64 i.imm] 53) = X := ⟨_, rfl⟩
      have bX : Below wr.heap.size wr X := hX ▸ (Below.refl _ _).alloc (Nat.le_refl _) _
      have kX : X.heap[wr.heap.size]? = some (.cells #[.int .u8 i.op, .int .i64 i.a, .int .i64 i.b, .int .i64 i.c, .int .i64 i.imm] 53) := hX ▸ heap_alloc_new _ _
      have HEN := Lib.hid (encode_any i hop X (HT.out.below (BW.out.trans (bX.mono sB))))
      obtain ⟨ec, er, hec⟩ : ∃ ec er, encI i = (ec, er) := ⟨_, _, rfl⟩
      rw [hec] at HEN HTS
      simp only at HEN HTS
      obtain ⟨ws, hws⟩ : ∃ ws, (l.take j).map (fun i => (encI i).1) = ws := ⟨_, rfl⟩
      have hwl : ws.length = j := by rw [← hws]; simp; omega
      rw [hws] at HG HTS
      have HWL := Lib.hid hwl
      have o0 : X.cell? ⟨wr.heap.size, 0, none⟩ = some (.int .u8 i.op) := by simp [World.cell?, kX]
      have o1 : X.cell? ⟨wr.heap.size, 1, none⟩ = some (.int .i64 i.a) := by simp [World.cell?, kX]
      have o2 : X.cell? ⟨wr.heap.size, 2, none⟩ = some (.int .i64 i.b) := by simp [World.cell?, kX]
      have o3 : X.cell? ⟨wr.heap.size, 3, none⟩ = some (.int .i64 i.c) := by simp [World.cell?, kX]
      have o4 : X.cell? ⟨wr.heap.size, 4, none⟩ = some (.int .i64 i.imm) := by simp [World.cell?, kX]
      have HGX := Lib.hid (HG.out.below bX)
      clear hc c0 c1 c2 c3 c4 hx hi hec hws hwl kX bX hop
      go_upto_region 5 with fail
      clear hX x0 x1 x2 x3 x4
      go_upto_region 6 with (go_at_call 25; refine HEN.out.mono ?_; rintro e Y ⟨rfl, hbY⟩)
      have hGY := HGX.out.below hbY
      obtain ⟨cA, ccap, rfl⟩ : ∃ cA ccap, cv = .slice cA ws.length ccap := by
        rcases hGY.row.2 with ⟨h, h'⟩ | ⟨g, cap', cur, h, _⟩
        · exact ⟨_, _, by rw [h, h']⟩
        · exact ⟨_, _, h⟩
      have i0 : Y.cell? ⟨ib, 0, none⟩ = some (.slice cA ws.length ccap) := by simp [World.cell?, hGY.im]
      have f0 : Y.frozen? ⟨ib, 0, none⟩ = false := by simp [World.frozen?, hGY.im]
      have HGY := Lib.hid hGY
      have HNb := Lib.hid (show some ib ≠ Value.ownBlock (.slice cA ws.length ccap) from fun e' => by have := (hGY.row.lt ib e'.symm).1; have := hGY.ib1; omega)
      have hiY : ib < Y.heap.size := by have := hGY.sz; have := hGY.ib1; omega
      have hVY := hGY.sz
      have hw5 : ws.length ≤ 1000 := by have := HWL.out; omega
      clear hGY hbY o0 o1 o2 o3 o4 HEN HGX
      go_upto_region 7 with (at_builtin; refine wpList_append_own_at _ rfl (.tmp 25) (.tmp 27) 22 rfl V.heap.size 56 iW (.int .u32 0) 1 4 Tryd.underlying22 hiW hW0 hW1 hW2 rfl (by decide) (.slice cA ws.length ccap) _ _ rfl (HGY.out.row.alloc _) ⟨Y.heap.size, 0, none⟩ 1 1 [.int .u32 ec] rfl rfl (cell_one_new _ _ _) (by simp [Value.oneCell']) (by unfold maxLen; omega) (by omega) (by rw [World.size_alloc]; omega) ?_; intro v' W' hown' hgrow _ hob; obtain ⟨g', cap', rfl⟩ := ownsRow_succ hown'; have hc1 := hgrow.cell (a := ⟨ib, 0, none⟩) (v := .slice cA ws.length ccap) (by simp [go_sem, *]) HNb.out; have hf1 : W'.frozen? ⟨ib, 0, none⟩ = false := (World.frozen?_of_block (hgrow.block ib (by simp; omega) HNb.out)).trans (by simp [go_sem, *]))
      have HA := Lib.hid (HGY.out.app (x := ec) ((Below.refl Y.heap.size Y).alloc (Nat.le_refl _) _) hgrow (by simpa [uvs] using hown'))
      clear hc1 hf1 hob hgrow hown' i0 f0 HGY HNb
      go_wp2_with fail
      go_roundw
      case rel =>
        refine ⟨j + 1, .slice (some ⟨g', 0, none⟩) (ws.length + 1) cap', by omega, by go_num, ?_⟩
        rw [HTS.out]
        exact HA.out
      case measure => simp [intOf]; omega
    · obtain rfl : j = l.length := by omega
      have dl : decide ((l.length : Int) < (l.length : Int)) = false := by simp
      rw [List.take_length] at HG
      have hwl : (l.map fun i => (encI i).1).length = l.length := by simp
      have hrw := HG.out.row
      rw [hwl] at hrw
      obtain ⟨cA, ccap, rfl⟩ : ∃ cA ccap, cv = .slice cA l.length ccap := by
        rcases hrw.2 with ⟨h, h'⟩ | ⟨g, cap', cur, h, _⟩
        · exact ⟨_, _, by rw [h, h']⟩
        · exact ⟨_, _, h⟩
      have i0 : wr.cell? ⟨ib, 0, none⟩ = some (.slice cA l.length ccap) := by simp [World.cell?, HG.out.im]
      have i1 : wr.cell? ⟨ib, 1, none⟩ = some (.slice (some ⟨eb, 0, none⟩) 1 1) := by simp [World.cell?, HG.out.im]
      have i2 : wr.cell? ⟨ib, 2, none⟩ = some (.int .i64 0) := by simp [World.cell?, HG.out.im]
      have i3 : wr.cell? ⟨ib, 3, none⟩ = some (.int .i64 0) := by simp [World.cell?, HG.out.im]
      have kr := (HG.out.blk w.heap.size (by omega) (by omega)).trans KR.out
      have ke := (HG.out.blk eb (by omega) (by omega)).trans KE.out
      have r0 : wr.cell? ⟨w.heap.size, 0, none⟩ = some (.slice none 0 0) := by simp [World.cell?, kr]
      have r1 : wr.cell? ⟨w.heap.size, 1, none⟩ = some (.slice none 0 0) := by simp [World.cell?, kr]
      have r2 : wr.cell? ⟨w.heap.size, 2, none⟩ = some (.int .i64 0) := by simp [World.cell?, kr]
      have r3 : wr.cell? ⟨w.heap.size, 3, none⟩ = some (.int .i64 0) := by simp [World.cell?, kr]
      have f0 : wr.frozen? ⟨w.heap.size, 0, none⟩ = false := by simp [World.frozen?, kr]
      have f1 : wr.frozen? ⟨w.heap.size, 1, none⟩ = false := by simp [World.frozen?, kr]
      have f2 : wr.frozen? ⟨w.heap.size, 2, none⟩ = false := by simp [World.frozen?, kr]
      have f3 : wr.frozen? ⟨w.heap.size, 3, none⟩ = false := by simp [World.frozen?, kr]
      have HRW := Lib.hid hrw
      have KE2 := Lib.hid ke
      clear hrw kr ke hwl
      go_wp2_with fail
      refine bodyPost_ret (v := .agg #[.slice cA l.length ccap, .slice (some ⟨eb, 0, none⟩) 1 1, .int .i64 0, .int .i64 0]) (by simp [results, Tryd.results35, go_sem, *]) rfl ⟨⟨_, _, _, _, rfl, rfl, ?_, ?_⟩, ?_⟩
      · refine ownsRow_base (base := V.heap.size) ?_ (by omega)
        have hne : ∀ q, (Value.slice cA l.length ccap).ownBlock = some q → q ≠ w.heap.size := fun q hq => by have := (HRW.out.lt q hq).1; omega
        refine ownsRow_setCell_other (ownsRow_setCell_other (ownsRow_setCell_other (ownsRow_setCell_other HRW.out ?_ _) ?_ _) ?_ _) ?_ _ <;> exact fun e => hne _ e rfl
      · refine ⟨fun e he => by simp at he; subst he; show taName.size ≤ maxLen; unfold maxLen; decide, _, 1, rfl, Nat.le_refl _, by unfold maxLen; omega, fun _ => ⟨eb, 0, rfl, by simp; omega, fun i x hx => ?_⟩⟩
        obtain ⟨rfl, rfl⟩ : i = 0 ∧ x = ⟨taName, 0, l.length, 0⟩ := by
          cases i with
          | zero => simp at hx; exact ⟨rfl, hx.symm⟩
          | succ i => simp at hx
        have hb : ((((wr.setCell ⟨w.heap.size, 0, none⟩ (.slice cA l.length ccap)).setCell ⟨w.heap.size, 1, none⟩ (.slice (some ⟨eb, 0, none⟩) 1 1)).setCell ⟨w.heap.size, 2, none⟩ (.int .i64 0)).setCell ⟨w.heap.size, 3, none⟩ (.int .i64 0)).heap[eb]? = wr.heap[eb]? := by
          have : eb ≠ w.heap.size := by omega
          rw [Below.heap_setCell _ _ _ _ this, Below.heap_setCell _ _ _ _ this, Below.heap_setCell _ _ _ _ this, Below.heap_setCell _ _ _ _ this]
        have hb2 := hb.trans KE2.out
        refine ⟨?_, ?_, ?_, ?_⟩ <;> simp [World.cell?, hb2, taName]
      · refine Below.setCell (Below.setCell (Below.setCell (Below.setCell BW.out ?_ _) ?_ _) ?_ _) ?_ _ <;> exact Nat.le_refl _

end Go.Proofs.YtfceodpdipniaaaDoor
