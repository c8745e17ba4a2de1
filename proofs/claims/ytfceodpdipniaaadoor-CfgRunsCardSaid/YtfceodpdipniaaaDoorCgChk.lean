/-
  What is proved here: what linker.Check returns.
-/
import Derived.Test.YtfceodpdipniaaaDoorCgLead
namespace Go.Proofs.YtfceodpdipniaaaDoor
open Go.RowKit
set_option linter.unusedVariables false
set_option linter.unusedSimpArgs false

structure Ent where
  nm : ByteArray
  st : Int
  en : Int
  da : Int
structure Ents (w : World) (v : Value) (l : List Ent) : Prop where
  nm : ∀ e ∈ l, e.nm.size ≤ maxLen
  at_ : ∃ A cap, v = .slice A l.length cap ∧ l.length ≤ cap ∧ cap ≤ maxLen ∧ (0 < l.length → ∃ b off, A = some ⟨b, off, none⟩ ∧ b < w.heap.size ∧ ∀ i e, l[i]? = some e →
    w.cell? ⟨b, off + i * 4, none⟩ = some (.string e.nm) ∧ w.cell? ⟨b, off + i * 4 + 1, none⟩ = some (.int .i64 e.st) ∧ w.cell? ⟨b, off + i * 4 + 2, none⟩ = some (.int .i64 e.en) ∧ w.cell? ⟨b, off + i * 4 + 3, none⟩ = some (.int .i64 e.da))
theorem Ents.below {w w' : World} {v : Value} {l : List Ent} (h : Ents w v l) (hb : Below w.heap.size w w') : Ents w' v l := by
  obtain ⟨A, cap, h1, h2, h3, h4⟩ := h.at_
  refine ⟨h.nm, A, cap, h1, h2, h3, fun h0 => ?_⟩
  obtain ⟨b, off, ha, hlt, hc⟩ := h4 h0
  refine ⟨b, off, ha, by have := hb.size; omega, fun i e he => ?_⟩
  obtain ⟨c0, c1, c2, c3⟩ := hc i e he
  exact ⟨(hb.cell (p := ⟨b, _, none⟩) hlt).trans c0, (hb.cell (p := ⟨b, _, none⟩) hlt).trans c1, (hb.cell (p := ⟨b, _, none⟩) hlt).trans c2, (hb.cell (p := ⟨b, _, none⟩) hlt).trans c3⟩

structure OkIns (cd : Nat → Int) (lk st en a : Int) : Prop where
  dec : (decI (cd a.toNat)).2 = 0
  tgt : isBr (insAt cd a).op = true → st ≤ a + 1 + (insAt cd a).imm ∧ a + 1 + (insAt cd a).imm < en
  lock : (insAt cd a).op = 28 ∨ (insAt cd a).op = 29 → (insAt cd a).imm < lk

set_option maxHeartbeats 2000000 in
set_option maxRecDepth 20000 in
theorem checkInstr_any (cv ev : Value) (sh lk : Int) (nm : ByteArray) (st en da : Int) (n : Nat) (cd : Nat → Int) (k : Nat) (hk : k < n) (w : World) (T : Tab w) (HW : Words w cv n cd) :
    Calls Tryd.prog 42 #[.agg #[cv, ev, .int .i64 sh, .int .i64 lk], .agg #[.string nm, .int .i64 st, .int .i64 en, .int .i64 da], .int .i64 (k : Int)] w fun e w' => (∃ r, e = .returned (.int .i64 r) ∧ (r = 0 ↔ OkIns cd lk st en k)) ∧ Below w.heap.size w w' := by
  have hn := HW.le
  obtain ⟨A, cap, rfl, hc1, hc2, hrd⟩ := HW.at_
  obtain ⟨b, off, rfl, hb, hcell⟩ := hrd (by omega)
  have hwd := HW.wd k hk
  have x1 := hcell k hk
  clear HW hrd hcell
  obtain ⟨i, hi⟩ : ∃ i, insAt cd k = i := ⟨_, rfl⟩
  have hdi : (decI (cd k)).1 = i := by rw [← hi]; simp [insAt]
  have him := decI_imm (cd k) hwd.1
  rw [hdi] at him
  have HDE := Lib.hid (fun (W : World) (hW : Below w.heap.size w W) => decode_any (cd k) hwd.1 hwd.2 W (T.below hW))
  obtain ⟨er, her⟩ : ∃ er, (decI (cd k)).2 = er := ⟨_, rfl⟩
  simp only [hdi, her, Ins.val] at HDE
  have HK := Lib.hid (show OkIns cd lk st en k ↔ (er = 0 ∧ (isBr i.op = true → st ≤ (k : Int) + 1 + i.imm ∧ (k : Int) + 1 + i.imm < en) ∧ (i.op = 28 ∨ i.op = 29 → i.imm < lk)) from ⟨fun h => ⟨by rw [← her]; exact h.dec, by rw [← hi]; exact h.tgt, by rw [← hi]; exact h.lock⟩, fun ⟨a1, a2, a3⟩ => ⟨by rw [← her] at a1; exact a1, by rw [hi]; exact a2, by rw [hi]; exact a3⟩⟩)
  have w1 : IntKind.i64.wrap ((k : Int) + 1) = (k : Int) + 1 := IntWalk.i64_in _ (by omega)
  have w2 : IntKind.i64.wrap ((k : Int) + 1 + i.imm) = (k : Int) + 1 + i.imm := IntWalk.i64_in _ (by omega)
  have HTG := Lib.hid (fun W : World => target_any i (k : Int) W w1 w2)
  obtain ⟨op, ia, ib, ic, imm⟩ := i
  simp only at HDE HTG HK him
  obtain ⟨br, hbr⟩ : ∃ br, isBr op = br := ⟨_, rfl⟩
  rw [hbr] at HTG HK
  obtain ⟨tg, htg⟩ : ∃ tg, (if br = true then (k : Int) + 1 + imm else 0) = tg := ⟨_, rfl⟩
  rw [htg] at HTG
  have HG := Lib.hid htg
  clear hi hdi her htg w1 w2 hwd hbr T
  have fin : ∀ W, Below w.heap.size w W → Below w.heap.size w W := fun _ h => h
  obtain ⟨V0, hV0⟩ : ∃ V0, (w.alloc (.cells #[.slice (some ⟨b, off, none⟩) n cap, ev, .int .i64 sh, .int .i64 lk] 25)).alloc (.cells #[.string nm, .int .i64 st, .int .i64 en, .int .i64 da] 39) = V0 := ⟨_, rfl⟩
  have b0 : Below w.heap.size w V0 := hV0 ▸ ((Below.refl _ _).alloc (Nat.le_refl _) _).alloc (by simp) _
  have s0 : w.heap.size + 2 = V0.heap.size := by rw [← hV0]; simp
  have k0 : V0.heap[w.heap.size]? = some (.cells #[.slice (some ⟨b, off, none⟩) n cap, ev, .int .i64 sh, .int .i64 lk] 25) := by rw [← hV0, heap_alloc_old _ _ (by simp)]; exact heap_alloc_new _ _
  have k1 : V0.heap[w.heap.size + 1]? = some (.cells #[.string nm, .int .i64 st, .int .i64 en, .int .i64 da] 39) := by rw [← hV0]; exact heap_alloc_at _ _ (by simp)
  have y1 : V0.cell? ⟨w.heap.size, 0, none⟩ = some (.slice (some ⟨b, off, none⟩) n cap) := by simp [World.cell?, k0]
  have y2 : V0.cell? ⟨b, off + k, none⟩ = some (.int .u32 (cd k)) := by rw [b0.cell (p := ⟨b, off + k, none⟩) hb]; exact x1
  have HD0 := Lib.hid (HDE.out V0 b0)
  go_enter Tryd.func42, Tryd.ntmps42
  go_upto_region 1 with fail
  have K0 := Lib.hid k0
  have K1 := Lib.hid k1
  have B0 := Lib.hid b0
  clear hV0 k0 k1 b0 fin x1 HDE
  go_upto_region 2 with (go_at_call 23; refine (Calls.ext HD0.out).mono ?_; rintro e w' ⟨rfl, y, rfl⟩)
  obtain ⟨V2, hV2⟩ : ∃ V2, y.w.alloc (.cells #[.int .u8 op, .int .i64 ia, .int .i64 ib, .int .i64 ic, .int .i64 imm] 53) = V2 := ⟨_, rfl⟩
  have b2 : Below V0.heap.size V0 V2 := hV2 ▸ y.h.alloc y.h.size _
  have k2 : V2.heap[y.w.heap.size]? = some (.cells #[.int .u8 op, .int .i64 ia, .int .i64 ib, .int .i64 ic, .int .i64 imm] 53) := hV2 ▸ heap_alloc_new _ _
  have s2 : y.w.heap.size < V2.heap.size := by rw [← hV2]; simp
  have s3 := y.h.size
  obtain ⟨q, hq⟩ : ∃ q, y.w.heap.size = q := ⟨_, rfl⟩
  rw [hV2]
  rw [hq] at k2 s2 s3 ⊢
  have e1 : V2.cell? ⟨w.heap.size + 1, 1, none⟩ = some (.int .i64 st) := by rw [b2.cell (p := ⟨w.heap.size + 1, 1, none⟩) (by show w.heap.size + 1 < _; omega)]; simp [World.cell?, K1.out]
  have e2 : V2.cell? ⟨w.heap.size + 1, 2, none⟩ = some (.int .i64 en) := by rw [b2.cell (p := ⟨w.heap.size + 1, 2, none⟩) (by show w.heap.size + 1 < _; omega)]; simp [World.cell?, K1.out]
  have e3 : V2.cell? ⟨w.heap.size, 3, none⟩ = some (.int .i64 lk) := by rw [b2.cell (p := ⟨w.heap.size, 3, none⟩) (by show w.heap.size < _; omega)]; simp [World.cell?, K0.out]
  have g0 : V2.cell? ⟨q, 0, none⟩ = some (.int .u8 op) := by simp [World.cell?, k2]
  have g1 : V2.cell? ⟨q, 1, none⟩ = some (.int .i64 ia) := by simp [World.cell?, k2]
  have g2 : V2.cell? ⟨q, 2, none⟩ = some (.int .i64 ib) := by simp [World.cell?, k2]
  have g3 : V2.cell? ⟨q, 3, none⟩ = some (.int .i64 ic) := by simp [World.cell?, k2]
  have g4 : V2.cell? ⟨q, 4, none⟩ = some (.int .i64 imm) := by simp [World.cell?, k2]
  have B2 := Lib.hid (B0.out.trans (b2.mono (by omega)))
  have s4 : V0.heap.size ≤ V2.heap.size := b2.size
  have s5 : w.heap.size + 1 < V2.heap.size := by omega
  have s6 : w.heap.size < V2.heap.size := by omega
  clear hV2 hq k2 y b2 y1 y2 HD0 K0 K1 B0
  go_wp2_with (go_at_call 26; refine (Calls.ext (HTG.out _)).mono ?_; rintro e w' ⟨rfl, y, rfl⟩)
  all_goals
    go_ret
    refine ⟨⟨_, rfl, ?_⟩, ?_⟩
    · rw [HK.out]
      have hG := HG.out
      first
        | (simp_all; done)
        | (simp_all; omega)
    · first
        | exact B2.out
        | exact Ext.below B2.out (by omega) y

end Go.Proofs.YtfceodpdipniaaaDoor
