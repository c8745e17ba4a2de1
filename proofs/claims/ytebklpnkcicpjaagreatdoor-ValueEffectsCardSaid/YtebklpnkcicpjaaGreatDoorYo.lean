/-
  What is proved here: parts lEf.
-/
import Derived.Test.YtebklpnkcicpjaaGreatDoorYa
import Derived.Test.YtebklpnkcicpjaaGreatDoorYk
import Derived.Test.YtebklpnkcicpjaaGreatDoorYn
import Derived.Test.YtebklpnkcicpjaaGreatDoorYh
import Derived.BigQuiet
import Derived.Deep.RegionHeld3
namespace Go.Proofs.YtebklpnkcicpjaaGreatDoor
set_option linter.unusedVariables false
set_option linter.unusedSimpArgs false
set_option maxRecDepth 100000
set_option maxHeartbeats 8000000
section
open Go.RowKit
theorem iy {w w' : World} {b o : Nat} {cs : List Value} (h : w.rangeAt b o cs) (hb : Below w.heap.size w w') (hl : b < w.heap.size) : w'.rangeAt b o cs := fun j v hv => (hb.cell (p := ⟨b, o + j, none⟩) hl).trans (h j v hv)
theorem lf (o : Option RG) : cE o = .tuple #[.agg (aa (o.getD ak)).toArray, .bool o.isSome] := by cases o <;> rfl
structure MB (w U : World) (ins : Array Value) (r : RG) : Prop where
  aB : Below w.heap.size w U
  ki : U.heap[w.heap.size]? = some (.cells ins 64 (0, 0))
  kr : aC U (w.heap.size + 1) 56 r
theorem MB.keep {w U W : World} {ins : Array Value} {r : RG} (h : MB w U ins r) (b : Below U.heap.size U W) : MB w W ins r :=
  ⟨h.aB.trans (b.mono h.aB.size), (b.block _ (ax h.ki)).trans h.ki, h.kr.keep b⟩
theorem Ij (w : World) (cA cB : Array Value) (tA tB : TypeId) : ∃ V, (w.alloc (.cells cA tA)).alloc (.cells cB tB) = V ∧ V.heap[w.heap.size]? = some (.cells cA tA (0, 0)) ∧ V.heap[w.heap.size + 1]? = some (.cells cB tB (0, 0)) ∧ Below w.heap.size w V ∧ w.heap.size + 1 < V.heap.size := by
  refine ⟨_, rfl, ?_, bg _ _ T4, ((Below.refl _ _).alloc (Nat.le_refl _) _).alloc T4 _, by simp⟩
  rw [heap_alloc_old _ _ T4]; exact heap_alloc_new _ _
theorem Sc {i : bB} {r : RG} (h0 : 0 ≤ i.op) (hr : R16 r) : R16 ((bQ i r).getD ak) := by
  cases h3 : bQ i r with
  | none => exact R16.zero
  | some a => exact gR h0 hr h3
theorem Sb {i : bB} {r : RG} (hr : R16 r) (tk : Bool) : R16 ((cU i r tk).getD ak) := by
  cases h3 : cU i r tk with
  | none => exact R16.zero
  | some a => exact dF hr h3
def IB : Prop := ∀ (op a b c im : Int) (h0 : 0 ≤ op) (r : RG) (hr : R16 r) (w : World),
    Calls Tryz.prog 13 #[.agg #[.int .u8 op, .int .i64 a, .int .i64 b, .int .i64 c, .int .i64 im], .agg (aa r).toArray] w fun e w' => e = .returned (cE (bQ ⟨op, a, b, c, im⟩ r)) ∧ Below w.heap.size w w'
def IC : Prop := ∀ (op a b c im : Int) (h0 : 0 ≤ op) (r : RG) (hr : R16 r) (tk : Bool) (w : World),
    Calls Tryz.prog 16 #[.agg #[.int .u8 op, .int .i64 a, .int .i64 b, .int .i64 c, .int .i64 im], .agg (aa r).toArray, .bool tk] w fun e w' => e = .returned (cE (cU ⟨op, a, b, c, im⟩ r tk)) ∧ Below w.heap.size w w'
theorem BB (AW : ∀ W, fM W → Calls Tryz.prog 5 #[] W fun e w' => e = .returned (.bool true) ∧ Below W.heap.size W w') (P9 : IB) (Qa : IC) (op ia ib ic im : Int) (h0 : 0 ≤ op) (r : RG) (tk : Bool) (hr : R16 r) (w : World) (T : fM w) :
    Calls Tryz.prog 4 #[.agg #[.int .u8 op, .int .i64 ia, .int .i64 ib, .int .i64 ic, .int .i64 im], .agg (aa r).toArray, .bool tk] w fun e w' => e = .returned (.bool true) ∧ Below w.heap.size w w' := by
  obtain ⟨V, hV, k0, k1, bV, sV⟩ := Ij w #[.int .u8 op, .int .i64 ia, .int .i64 ib, .int .i64 ic, .int .i64 im] (aa r).toArray 64 56
  have vF := UZ (show MB w V #[.int .u8 op, .int .i64 ia, .int .i64 ib, .int .i64 ic, .int .i64 im] r from ⟨bV, k0, k1⟩)
  have QY := UZ (AW V (T.below bV))
  have HT := UZ (show ∀ W, Below w.heap.size w W → fM W from fun W h => T.below h)
  have R := UZ hr
  obtain ⟨oA, LW⟩ : ∃ o, bQ ⟨op, ia, ib, ic, im⟩ r = o := ⟨_, rfl⟩
  obtain ⟨oC, LV⟩ : ∃ o, cU ⟨op, ia, ib, ic, im⟩ r tk = o := ⟨_, rfl⟩
  obtain ⟨rA, LU⟩ : ∃ q, oA.getD ak = q := ⟨_, rfl⟩
  obtain ⟨cA, NF⟩ : ∃ q, oA.isSome = q := ⟨_, rfl⟩
  obtain ⟨rC, LS⟩ : ∃ q, oC.getD ak = q := ⟨_, rfl⟩
  obtain ⟨cC, ND⟩ : ∃ q, oC.isSome = q := ⟨_, rfl⟩
  have RA := UZ (show R16 rA by rw [← LU, ← LW]; exact Sc h0 hr)
  have RC := UZ (show R16 rC by rw [← LS, ← LV]; exact Sb hr tk)
  have SB := UZ (show ∀ W, Below w.heap.size w W → Calls Tryz.prog 12 #[.agg #[.int .u8 op, .int .i64 ia, .int .i64 ib, .int .i64 ic, .int .i64 im], .agg (aa r).toArray] W fun e w' => e = .returned (.tuple #[.agg (aa rA).toArray, .bool cA]) ∧ Below W.heap.size W w' from fun W hW => by
    have := iH op ia ib ic im h0 r hr W (T.below hW)
    rw [lf, LW, LU, NF] at this
    exact this)
  have SH := UZ (show ∀ W, Calls Tryz.prog 13 #[.agg #[.int .u8 op, .int .i64 ia, .int .i64 ib, .int .i64 ic, .int .i64 im], .agg (aa r).toArray] W fun e w' => e = .returned (.tuple #[.agg (aa rA).toArray, .bool cA]) ∧ Below W.heap.size W w' from fun W => by
    have := P9 op ia ib ic im h0 r hr W
    rw [lf, LW, LU, NF] at this
    exact this)
  have Ob := UZ (show ∀ W, Below w.heap.size w W → Calls Tryz.prog 15 #[.agg #[.int .u8 op, .int .i64 ia, .int .i64 ib, .int .i64 ic, .int .i64 im], .agg (aa r).toArray, .bool tk] W fun e w' => e = .returned (.tuple #[.agg (aa rC).toArray, .bool cC]) ∧ Below W.heap.size W w' from fun W hW => by
    have := refine_any op ia ib ic im h0 r hr tk W (T.below hW)
    rw [lf, LV, LS, ND] at this
    exact this)
  have Mn := UZ (show ∀ W, Calls Tryz.prog 16 #[.agg #[.int .u8 op, .int .i64 ia, .int .i64 ib, .int .i64 ic, .int .i64 im], .agg (aa r).toArray, .bool tk] W fun e w' => e = .returned (.tuple #[.agg (aa rC).toArray, .bool cC]) ∧ Below W.heap.size W w' from fun W => by
    have := Qa op ia ib ic im h0 r hr tk W
    rw [lf, LV, LS, ND] at this
    exact this)
  obtain ⟨⟨x1, x2⟩, hx⟩ : ∃ p, b8 ⟨op, ia, ib, ic, im⟩ r = p := ⟨_, rfl⟩
  have OA := UZ (show ∀ W, Below w.heap.size w W → Calls Tryz.prog 17 #[.agg #[.int .u8 op, .int .i64 ia, .int .i64 ib, .int .i64 ic, .int .i64 im], .agg (aa r).toArray] W fun e w' => e = .returned (.agg #[.int .i32 x1, .int .i32 x2]) ∧ Below W.heap.size W w' from fun W hW => by
    have := vh op ia ib ic im h0 r hr W (T.below hW)
    rw [hx] at this
    exact this)
  have ow := UZ (show ∀ W, Calls Tryz.prog 18 #[.agg #[.int .u8 op, .int .i64 ia, .int .i64 ib, .int .i64 ic, .int .i64 im], .agg (aa r).toArray] W fun e w' => e = .returned (.agg #[.int .i32 x1, .int .i32 x2]) ∧ Below W.heap.size W w' from fun W => by
    have := su op ia ib ic im h0 r hr W
    rw [hx] at this
    exact this)
  clear LW LV LU NF LS ND hx hr T k0 k1 bV P9 Qa AW
  go_enter Tryz.func4, Tryz.ntmps4
  go_upto_region 3 with (go_at_call 5; refine QY.out.mono ?_; rintro e E0 ⟨rfl, hb0⟩)
  have HE := UZ (vF.out.keep hb0)
  clear hV vF QY hb0 sV
  obtain ⟨u0, u1, u2, u3, u4, lI⟩ := aG HE.out.ki
  have rg1 := HE.out.kr.range
  go_upto_region 4 with (first | (refine wpList_load_mid rfl _ _ rfl _ _ rfl (aa r) _ rg1 Tryz.underlying56 rfl (hi3 R.out.len) ?_) | (go_at_call 12; refine (SB.out _ HE.out.aB).mono ?_; rintro e W8 ⟨rfl, hbc⟩) | (refine wpList_store_row rfl 56 (.tmp 7) (.tmp 23) rfl W8.heap.size (aa rA).toArray rfl rfl 56 _ (heap_alloc_new _ _) (hi4 RA.out.len) (hi6 RA.out.len ag) (aj rA) ?_))
  obtain ⟨qA, hq⟩ : ∃ b, W8.heap.size = b := ⟨_, rfl⟩
  obtain ⟨E1, hE⟩ : ∃ E, (W8.alloc (.cells Va.toArray 56)).setRow W8.heap.size (aa rA).toArray = E := ⟨_, rfl⟩
  rw [hE, hq]
  have bE : Below W8.heap.size W8 E1 := hE ▸ below_setRow ((Below.refl _ _).alloc (Nat.le_refl _) _) (Nat.le_refl _) _
  have Iw : Below E0.heap.size E0 E1 := hbc.trans (bE.mono hbc.size)
  have KA := UZ (show aC E1 qA 56 rA by rw [← hq, ← hE]; exact aC.row (z := ak) (heap_alloc_new _ _))
  have yt := UZ (HE.out.keep Iw)
  clear hE hq bE Iw hbc u0 u1 u2 u3 u4 lI rg1 HE 
  have HE := yt
  clear yt 
  go_cut [9, 10] from 25 to 31 (fun a9 a10 wx => ∃ g, a9 = .pointer (some ⟨g, 0, none⟩) ∧ a10 = .bool cA ∧ aC wx g 61 rA ∧ Below E1.heap.size E1 wx)
  case first =>
    have Gb : w.heap.size < E1.heap.size := ax HE.out.ki
    have Gx := UZ HE.out.ki
    have GK := UZ HE.out.kr.range
    have Ga := HE.out.kr.lt
    refine wp_region_held_drew (S := fun w' => Below E1.heap.size E1 w' ∧ w'.heap[w.heap.size]? = some (.cells #[.int .u8 op, .int .i64 ia, .int .i64 ib, .int .i64 ic, .int .i64 im] 64 (0, 0)) ∧ w'.rangeAt (w.heap.size + 1) 0 (aa r)) TY ?_ (fun hHeld => ?_)
    · have hk : Below E1.heap.size E1 E1.drew := Below.drew (Below.refl _ _)
      exact ⟨hk, (hk.block _ Gb).trans Gx.out, iy GK.out hk Ga⟩
    have hk : Below E1.heap.size E1 E1.drew := Below.drew (Below.refl _ _)
    obtain ⟨D0, yc⟩ : ∃ D, E1.drew = D := ⟨_, rfl⟩
    rw [yc] at hk
    rw [yc] at hHeld ⊢
    clear yc
    refine wpAnyH_take (i := 0) (oi := _) (v := ?_) rfl TY TY TY (fun _ _ _ h => h) (Or.inl ⟨by rfl, ?_⟩) hHeld ?_
    rotate_left
    · intro w' hSw
      obtain ⟨s0, s1, s2, s3, s4, sI⟩ := aG hSw.2.1
      clear hSw
      go_simp
      (try with_reducible rfl)
    (try simp only [U0, U3, U4, Act.put, U5, U6, U7])
    refine wpAnyH_take (i := 1) (oi := _) (v := _) rfl TY TY TY (fun _ _ _ h => h) (yieldsIf_load_mid (by rfl) _ _ rfl _ _ rfl (aa r) _ (fun w hSw => hSw.2.2) Tryz.underlying56 rfl (hi3 R.out.len)) hHeld ?_
    (try simp only [U0, U3, U4, Act.put, U5, U6, U7])
    iterate 4
      all_goals
        repeat (first | (refine wpAnyH_take (i := 4) (oi := _) (v := ?_) rfl TY T6 T6 (fun _ _ _ h => h) (Or.inl ⟨by rfl, ?_⟩) hHeld ?_; rotate_left; focus (intro w' hSw; clear hSw; go_simp; (try with_reducible rfl))) | (refine wpAnyH_take (i := 5) (oi := _) (v := ?_) rfl TY T6 T6 (fun _ _ _ h => h) (Or.inl ⟨by rfl, ?_⟩) hHeld ?_; rotate_left; focus (intro w' hSw; clear hSw; go_simp; (try with_reducible rfl))) | (refine wpAnyH_take (i := 6) (oi := _) (v := ?_) rfl TY T6 T6 (fun _ _ _ h => h) (Or.inl ⟨by rfl, ?_⟩) hHeld ?_; rotate_left; focus (intro w' hSw; clear hSw; go_simp; (try with_reducible rfl))) | (refine wpAnyH_take (i := 9) (oi := _) (v := ?_) rfl TY T6 T6 (fun _ _ _ h => h) (Or.inl ⟨by rfl, ?_⟩) hHeld ?_; rotate_left; focus (intro w' hSw; clear hSw; go_simp; (try with_reducible rfl))))
        (try simp only [U0, U3, U4, Act.put, U5, U6, U7])
        (first | refine wpAnyH_ready (rs := [2, 7]) T6 T4 ?_ | refine wpAnyH_ready (rs := [3, 7]) T6 T4 ?_ | refine wpAnyH_ready (rs := [7]) T6 T4 ?_ | refine wpAnyH_ready (rs := [8]) T6 T4 ?_ | refine wpAnyH_ready (rs := [3]) T6 T4 ?_ | refine wpAnyH_ready (rs := [2]) T6 T4 ?_)
        repeat' (first | exact AllReadyH.nil | refine AllReadyH.cons (o := _) rfl (fun K hK => ?_) ?_)
      all_goals
        first
          | (rw [if_pos (by rfl)]
             have Gi := gS (show aC D0 q7 61 ak from k7)
             refine wp_store_mid _ _ _ rfl _ _ (aa rA).toArray rfl rfl (by have h9 := Gi; rw [ag] at h9; rw [List.size_toArray, az, RA.out.len]; exact h9) (ra aZ RA.out.len) (all_oneCell_toArray (fG rA)) ?_
             clear Gi
             have hk := Below.aS hk l7 0 (aa rA)
             have k7 := iZ (show aC D0 q7 61 ak from k7) ag RA.out.len
             obtain ⟨D1, hV⟩ : ∃ V, D0.setCells q7 0 (aa rA) = V := ⟨_, rfl⟩
             rw [List.toList_toArray, hV]
             rw [hV] at hk k7
             clear hV
             obtain ⟨D0, hD⟩ : ∃ V, V = D1 := ⟨_, rfl⟩
             subst hD)
          | (go_simp
             first
               | (go_at_call 14
                  refine (((fun _ => kA r R.out.len _)) hk).mono ?_
                  rintro e D0 ⟨rfl, hb⟩
                  (try have k7 := (hb.block q7 (ax k7)).trans k7)
                  have hk := Below.trans hk (hb.mono hk.size)
                  clear hb)
               | (go_at_call 13
                  refine (((fun _ => SH.out _)) hk).mono ?_
                  rintro e D0 ⟨rfl, hb⟩
                  (try have k7 := (hb.block q7 (ax k7)).trans k7)
                  have hk := Below.trans hk (hb.mono hk.size)
                  clear hb)
               | (obtain ⟨q7, hq⟩ : ∃ q, D0.heap.size = q := ⟨_, rfl⟩
                  obtain ⟨D1, hV⟩ : ∃ V, D0.alloc (.cells Va.toArray 61) = V := ⟨_, rfl⟩
                  rw [hV, hq]
                  have hb : Below D0.heap.size D0 D1 := hV ▸ (Below.refl _ _).alloc (Nat.le_refl _) _
                  have k7 : D1.heap[q7]? = some (.cells Va.toArray 61) := by rw [← hq, ← hV]; exact heap_alloc_new _ _
                  have l7 : E1.heap.size ≤ q7 := by rw [← hq]; exact hk.size
                  have hk := Below.trans hk (hb.mono hk.size)
                  clear hb hV hq
                  obtain ⟨D0, hD⟩ : ∃ V, V = D1 := ⟨_, rfl⟩
                  subst hD))
        refine hK.out _ _ (⟨hk, (hk.block _ Gb).trans Gx.out, iy GK.out hk Ga⟩) (fun hHeld => ?_)
        clear hK K
        (try simp only [U0, U3, U4, Act.put, U5, U6, U7])
    all_goals
      repeat (first | (refine wpAnyH_take (i := 4) (oi := _) (v := ?_) rfl TY T6 T6 (fun _ _ _ h => h) (Or.inl ⟨by rfl, ?_⟩) hHeld ?_; rotate_left; focus (intro w' hSw; clear hSw; go_simp; (try with_reducible rfl))) | (refine wpAnyH_take (i := 5) (oi := _) (v := ?_) rfl TY T6 T6 (fun _ _ _ h => h) (Or.inl ⟨by rfl, ?_⟩) hHeld ?_; rotate_left; focus (intro w' hSw; clear hSw; go_simp; (try with_reducible rfl))) | (refine wpAnyH_take (i := 6) (oi := _) (v := ?_) rfl TY T6 T6 (fun _ _ _ h => h) (Or.inl ⟨by rfl, ?_⟩) hHeld ?_; rotate_left; focus (intro w' hSw; clear hSw; go_simp; (try with_reducible rfl))) | (refine wpAnyH_take (i := 9) (oi := _) (v := ?_) rfl TY T6 T6 (fun _ _ _ h => h) (Or.inl ⟨by rfl, ?_⟩) hHeld ?_; rotate_left; focus (intro w' hSw; clear hSw; go_simp; (try with_reducible rfl))))
      refine wpAnyH_done TY ?_ _
      clear hHeld
    all_goals
      go_wp2_with fail
      go_meet
      exact ⟨_, rfl, rfl, k7, hk⟩
  obtain ⟨qB, rfl, rfl, kB, hk⟩ := hcut
  obtain ⟨E2, Jd⟩ : ∃ E : World, E = wc := ⟨_, rfl⟩
  subst Jd
  have KB := UZ kB
  clear kB
  have yt := UZ (HE.out.keep hk)
  have DI := UZ (KA.out.keep hk)
  clear hk HE KA
  have HE := yt
  have KA := DI
  clear yt DI
  obtain ⟨u0, u1, u2, u3, u4, lI⟩ := aG HE.out.ki
  have rg1 := HE.out.kr.range
  go_upto_region 6 with (first | (refine wpList_load_mid rfl _ _ rfl _ _ rfl (aa r) _ rg1 Tryz.underlying56 rfl (hi3 R.out.len) ?_) | (go_at_call 15; refine (Ob.out _ HE.out.aB).mono ?_; rintro e W8 ⟨rfl, hbc⟩) | (refine wpList_store_row rfl 56 (.tmp 11) (.tmp 37) rfl W8.heap.size (aa rC).toArray rfl rfl 56 _ (heap_alloc_new _ _) (hi4 RC.out.len) (hi6 RC.out.len ag) (aj rC) ?_))
  obtain ⟨qC, hq⟩ : ∃ b, W8.heap.size = b := ⟨_, rfl⟩
  obtain ⟨E3, hE⟩ : ∃ E, (W8.alloc (.cells Va.toArray 56)).setRow W8.heap.size (aa rC).toArray = E := ⟨_, rfl⟩
  rw [hE, hq]
  have bE : Below W8.heap.size W8 E3 := hE ▸ below_setRow ((Below.refl _ _).alloc (Nat.le_refl _) _) (Nat.le_refl _) _
  have Iw : Below E2.heap.size E2 E3 := hbc.trans (bE.mono hbc.size)
  have KC := UZ (show aC E3 qC 56 rC by rw [← hq, ← hE]; exact aC.row (z := ak) (heap_alloc_new _ _))
  have yt := UZ (HE.out.keep Iw)
  have DI := UZ (KA.out.keep Iw)
  have Gy := UZ (KB.out.keep Iw)
  clear hE hq bE Iw hbc u0 u1 u2 u3 u4 lI rg1 HE KA KB
  have HE := yt
  have KA := DI
  have KB := Gy
  clear yt DI Gy
  go_cut [13, 14] from 39 to 46 (fun a13 a14 wx => ∃ g, a13 = .pointer (some ⟨g, 0, none⟩) ∧ a14 = .bool cC ∧ aC wx g 61 rC ∧ Below E3.heap.size E3 wx)
  case first =>
    have Gb : w.heap.size < E3.heap.size := ax HE.out.ki
    have Gx := UZ HE.out.ki
    have GK := UZ HE.out.kr.range
    have Ga := HE.out.kr.lt
    refine wp_region_held_drew (S := fun w' => Below E3.heap.size E3 w' ∧ w'.heap[w.heap.size]? = some (.cells #[.int .u8 op, .int .i64 ia, .int .i64 ib, .int .i64 ic, .int .i64 im] 64 (0, 0)) ∧ w'.rangeAt (w.heap.size + 1) 0 (aa r)) TY ?_ (fun hHeld => ?_)
    · have hk : Below E3.heap.size E3 E3.drew := Below.drew (Below.refl _ _)
      exact ⟨hk, (hk.block _ Gb).trans Gx.out, iy GK.out hk Ga⟩
    have hk : Below E3.heap.size E3 E3.drew := Below.drew (Below.refl _ _)
    obtain ⟨D0, yc⟩ : ∃ D, E3.drew = D := ⟨_, rfl⟩
    rw [yc] at hk
    rw [yc] at hHeld ⊢
    clear yc
    refine wpAnyH_take (i := 0) (oi := _) (v := ?_) rfl TY TY TY (fun _ _ _ h => h) (Or.inl ⟨by rfl, ?_⟩) hHeld ?_
    rotate_left
    · intro w' hSw
      obtain ⟨s0, s1, s2, s3, s4, sI⟩ := aG hSw.2.1
      clear hSw
      go_simp
      (try with_reducible rfl)
    (try simp only [U0, U3, U4, Act.put, U5, U6, U7])
    refine wpAnyH_take (i := 1) (oi := _) (v := _) rfl TY TY TY (fun _ _ _ h => h) (yieldsIf_load_mid (by rfl) _ _ rfl _ _ rfl (aa r) _ (fun w hSw => hSw.2.2) Tryz.underlying56 rfl (hi3 R.out.len)) hHeld ?_
    (try simp only [U0, U3, U4, Act.put, U5, U6, U7])
    refine wpAnyH_take (i := 3) (oi := _) (v := ?_) rfl TY TY TY (fun _ _ _ h => h) (Or.inl ⟨by rfl, ?_⟩) hHeld ?_
    rotate_left
    · intro w' hSw
      clear hSw
      go_simp
      (try with_reducible rfl)
    (try simp only [U0, U3, U4, Act.put, U5, U6, U7])
    iterate 4
      all_goals
        repeat (first | (refine wpAnyH_take (i := 5) (oi := _) (v := ?_) rfl TY T6 T6 (fun _ _ _ h => h) (Or.inl ⟨by rfl, ?_⟩) hHeld ?_; rotate_left; focus (intro w' hSw; clear hSw; go_simp; (try with_reducible rfl))) | (refine wpAnyH_take (i := 6) (oi := _) (v := ?_) rfl TY T6 T6 (fun _ _ _ h => h) (Or.inl ⟨by rfl, ?_⟩) hHeld ?_; rotate_left; focus (intro w' hSw; clear hSw; go_simp; (try with_reducible rfl))) | (refine wpAnyH_take (i := 7) (oi := _) (v := ?_) rfl TY T6 T6 (fun _ _ _ h => h) (Or.inl ⟨by rfl, ?_⟩) hHeld ?_; rotate_left; focus (intro w' hSw; clear hSw; go_simp; (try with_reducible rfl))) | (refine wpAnyH_take (i := 10) (oi := _) (v := ?_) rfl TY T6 T6 (fun _ _ _ h => h) (Or.inl ⟨by rfl, ?_⟩) hHeld ?_; rotate_left; focus (intro w' hSw; clear hSw; go_simp; (try with_reducible rfl))))
        (try simp only [U0, U3, U4, Act.put, U5, U6, U7])
        (first | refine wpAnyH_ready (rs := [2, 8]) T6 T4 ?_ | refine wpAnyH_ready (rs := [4, 8]) T6 T4 ?_ | refine wpAnyH_ready (rs := [8]) T6 T4 ?_ | refine wpAnyH_ready (rs := [9]) T6 T4 ?_ | refine wpAnyH_ready (rs := [4]) T6 T4 ?_ | refine wpAnyH_ready (rs := [2]) T6 T4 ?_)
        repeat' (first | exact AllReadyH.nil | refine AllReadyH.cons (o := _) rfl (fun K hK => ?_) ?_)
      all_goals
        first
          | (rw [if_pos (by rfl)]
             have Gi := gS (show aC D0 q7 61 ak from k7)
             refine wp_store_mid _ _ _ rfl _ _ (aa rC).toArray rfl rfl (by have h9 := Gi; rw [ag] at h9; rw [List.size_toArray, az, RC.out.len]; exact h9) (ra aZ RC.out.len) (all_oneCell_toArray (fG rC)) ?_
             clear Gi
             have hk := Below.aS hk l7 0 (aa rC)
             have k7 := iZ (show aC D0 q7 61 ak from k7) ag RC.out.len
             obtain ⟨D1, hV⟩ : ∃ V, D0.setCells q7 0 (aa rC) = V := ⟨_, rfl⟩
             rw [List.toList_toArray, hV]
             rw [hV] at hk k7
             clear hV
             obtain ⟨D0, hD⟩ : ∃ V, V = D1 := ⟨_, rfl⟩
             subst hD)
          | (go_simp
             first
               | (go_at_call 14
                  refine (((fun _ => kA r R.out.len _)) hk).mono ?_
                  rintro e D0 ⟨rfl, hb⟩
                  (try have k7 := (hb.block q7 (ax k7)).trans k7)
                  have hk := Below.trans hk (hb.mono hk.size)
                  clear hb)
               | (go_at_call 16
                  refine (((fun _ => Mn.out _)) hk).mono ?_
                  rintro e D0 ⟨rfl, hb⟩
                  (try have k7 := (hb.block q7 (ax k7)).trans k7)
                  have hk := Below.trans hk (hb.mono hk.size)
                  clear hb)
               | (obtain ⟨q7, hq⟩ : ∃ q, D0.heap.size = q := ⟨_, rfl⟩
                  obtain ⟨D1, hV⟩ : ∃ V, D0.alloc (.cells Va.toArray 61) = V := ⟨_, rfl⟩
                  rw [hV, hq]
                  have hb : Below D0.heap.size D0 D1 := hV ▸ (Below.refl _ _).alloc (Nat.le_refl _) _
                  have k7 : D1.heap[q7]? = some (.cells Va.toArray 61) := by rw [← hq, ← hV]; exact heap_alloc_new _ _
                  have l7 : E3.heap.size ≤ q7 := by rw [← hq]; exact hk.size
                  have hk := Below.trans hk (hb.mono hk.size)
                  clear hb hV hq
                  obtain ⟨D0, hD⟩ : ∃ V, V = D1 := ⟨_, rfl⟩
                  subst hD))
        refine hK.out _ _ (⟨hk, (hk.block _ Gb).trans Gx.out, iy GK.out hk Ga⟩) (fun hHeld => ?_)
        clear hK K
        (try simp only [U0, U3, U4, Act.put, U5, U6, U7])
    all_goals
      repeat (first | (refine wpAnyH_take (i := 5) (oi := _) (v := ?_) rfl TY T6 T6 (fun _ _ _ h => h) (Or.inl ⟨by rfl, ?_⟩) hHeld ?_; rotate_left; focus (intro w' hSw; clear hSw; go_simp; (try with_reducible rfl))) | (refine wpAnyH_take (i := 6) (oi := _) (v := ?_) rfl TY T6 T6 (fun _ _ _ h => h) (Or.inl ⟨by rfl, ?_⟩) hHeld ?_; rotate_left; focus (intro w' hSw; clear hSw; go_simp; (try with_reducible rfl))) | (refine wpAnyH_take (i := 7) (oi := _) (v := ?_) rfl TY T6 T6 (fun _ _ _ h => h) (Or.inl ⟨by rfl, ?_⟩) hHeld ?_; rotate_left; focus (intro w' hSw; clear hSw; go_simp; (try with_reducible rfl))) | (refine wpAnyH_take (i := 10) (oi := _) (v := ?_) rfl TY T6 T6 (fun _ _ _ h => h) (Or.inl ⟨by rfl, ?_⟩) hHeld ?_; rotate_left; focus (intro w' hSw; clear hSw; go_simp; (try with_reducible rfl))))
      refine wpAnyH_done TY ?_ _
      clear hHeld
    all_goals
      go_wp2_with fail
      go_meet
      exact ⟨_, rfl, rfl, k7, hk⟩
  obtain ⟨qD, rfl, rfl, kD, hk⟩ := hcut
  obtain ⟨E4, Jd⟩ : ∃ E : World, E = wc := ⟨_, rfl⟩
  subst Jd
  have KD := UZ kD
  clear kD
  have yt := UZ (HE.out.keep hk)
  have DI := UZ (KA.out.keep hk)
  have Gy := UZ (KB.out.keep hk)
  have K8 := UZ (KC.out.keep hk)
  clear hk HE KA KB KC
  have HE := yt
  have KA := DI
  have KB := Gy
  have KC := K8
  clear yt DI Gy K8
  go_upto_region 7 with fail
  go_cut [15, 16] from 47 to 53 (fun a15 a16 wx => ∃ g h, a15 = .pointer (some ⟨g, 0, none⟩) ∧ a16 = .pointer (some ⟨h, 0, none⟩) ∧ wx.heap[g]? = some (.cells #[.int .i32 x1, .int .i32 x2] 54 (0, 0)) ∧ wx.heap[h]? = some (.cells #[.int .i32 x1, .int .i32 x2] 58 (0, 0)) ∧ Below E4.heap.size E4 wx)
  case first =>
    have Gb : w.heap.size < E4.heap.size := ax HE.out.ki
    have Gx := UZ HE.out.ki
    have GK := UZ HE.out.kr.range
    have Ga := HE.out.kr.lt
    refine wp_region_held_drew (S := fun w' => Below E4.heap.size E4 w' ∧ w'.heap[w.heap.size]? = some (.cells #[.int .u8 op, .int .i64 ia, .int .i64 ib, .int .i64 ic, .int .i64 im] 64 (0, 0)) ∧ w'.rangeAt (w.heap.size + 1) 0 (aa r)) TY ?_ (fun hHeld => ?_)
    · have hk : Below E4.heap.size E4 E4.drew := Below.drew (Below.refl _ _)
      exact ⟨hk, (hk.block _ Gb).trans Gx.out, iy GK.out hk Ga⟩
    have hk : Below E4.heap.size E4 E4.drew := Below.drew (Below.refl _ _)
    obtain ⟨D0, yc⟩ : ∃ D, E4.drew = D := ⟨_, rfl⟩
    rw [yc] at hk
    rw [yc] at hHeld ⊢
    clear yc
    refine wpAnyH_take (i := 0) (oi := _) (v := ?_) rfl TY TY TY (fun _ _ _ h => h) (Or.inl ⟨by rfl, ?_⟩) hHeld ?_
    rotate_left
    · intro w' hSw
      obtain ⟨s0, s1, s2, s3, s4, sI⟩ := aG hSw.2.1
      clear hSw
      go_simp
      (try with_reducible rfl)
    (try simp only [U0, U3, U4, Act.put, U5, U6, U7])
    refine wpAnyH_take (i := 1) (oi := _) (v := _) rfl TY TY TY (fun _ _ _ h => h) (yieldsIf_load_mid (by rfl) _ _ rfl _ _ rfl (aa r) _ (fun w hSw => hSw.2.2) Tryz.underlying56 rfl (hi3 R.out.len)) hHeld ?_
    (try simp only [U0, U3, U4, Act.put, U5, U6, U7])
    refine wpAnyH_take (i := 3) (oi := _) (v := ?_) rfl TY TY TY (fun _ _ _ h => h) (Or.inl ⟨by rfl, ?_⟩) hHeld ?_
    rotate_left
    · intro w' hSw
      obtain ⟨s0, s1, s2, s3, s4, sI⟩ := aG hSw.2.1
      clear hSw
      go_simp
      (try with_reducible rfl)
    (try simp only [U0, U3, U4, Act.put, U5, U6, U7])
    refine wpAnyH_take (i := 4) (oi := _) (v := _) rfl TY TY TY (fun _ _ _ h => h) (yieldsIf_load_mid (by rfl) _ _ rfl _ _ rfl (aa r) _ (fun w hSw => hSw.2.2) Tryz.underlying56 rfl (hi3 R.out.len)) hHeld ?_
    (try simp only [U0, U3, U4, Act.put, U5, U6, U7])
    iterate 7
      all_goals
        (first | refine wpAnyH_ready (rs := [2, 7, 8]) T6 T4 ?_ | refine wpAnyH_ready (rs := [5, 7, 8]) T6 T4 ?_ | refine wpAnyH_ready (rs := [6, 7, 8]) T6 T4 ?_ | refine wpAnyH_ready (rs := [7, 8]) T6 T4 ?_ | refine wpAnyH_ready (rs := [8]) T6 T4 ?_ | refine wpAnyH_ready (rs := [9]) T6 T4 ?_ | refine wpAnyH_ready (rs := [10]) T6 T4 ?_ | refine wpAnyH_ready (rs := [7]) T6 T4 ?_ | refine wpAnyH_ready (rs := [6, 8]) T6 T4 ?_ | refine wpAnyH_ready (rs := [6]) T6 T4 ?_ | refine wpAnyH_ready (rs := [6, 7]) T6 T4 ?_ | refine wpAnyH_ready (rs := [5, 8]) T6 T4 ?_ | refine wpAnyH_ready (rs := [5]) T6 T4 ?_ | refine wpAnyH_ready (rs := [5, 7]) T6 T4 ?_ | refine wpAnyH_ready (rs := [2, 8]) T6 T4 ?_ | refine wpAnyH_ready (rs := [2]) T6 T4 ?_ | refine wpAnyH_ready (rs := [2, 7]) T6 T4 ?_)
        repeat' (first | exact AllReadyH.nil | refine AllReadyH.cons (o := _) rfl (fun K hK => ?_) ?_)
      all_goals
        first
          | (have b9 := ax k6
             obtain ⟨e0, e1, f0, f1, -⟩ := dA k6
             go_simp
             have hk := Below.setCell (p := ⟨q6, 1, none⟩) (Below.setCell (p := ⟨q6, 0, none⟩) hk l6 (.int .i32 x1)) l6 (.int .i32 x2)
             obtain ⟨D1, hV⟩ : ∃ V, (D0.setCell ⟨q6, 0, none⟩ (.int .i32 x1)).setCell ⟨q6, 1, none⟩ (.int .i32 x2) = V := ⟨_, rfl⟩
             rw [hV]
             rw [hV] at hk
             clear e0 e1 f0 f1 b9
             have k6 : D1.heap[q6]? = some (.cells #[.int .i32 x1, .int .i32 x2] 54 (0, 0)) := by rw [← hV, heap_setCell_same _ _ _ _ _ _ (heap_setCell_same _ _ _ _ _ _ k6)]; simp
             have k7 := (show D1.heap[q7]? = D0.heap[q7]? by rw [← hV, Below.heap_setCell _ _ _ _ (by show q7 ≠ q6; exact n67.symm), Below.heap_setCell _ _ _ _ (by show q7 ≠ q6; exact n67.symm)]).trans k7
             clear hV
             obtain ⟨D0, hD⟩ : ∃ V, V = D1 := ⟨_, rfl⟩
             subst hD)
          | (have b9 := ax k7
             obtain ⟨e0, e1, f0, f1, -⟩ := dA k7
             go_simp
             have hk := Below.setCell (p := ⟨q7, 1, none⟩) (Below.setCell (p := ⟨q7, 0, none⟩) hk l7 (.int .i32 x1)) l7 (.int .i32 x2)
             obtain ⟨D1, hV⟩ : ∃ V, (D0.setCell ⟨q7, 0, none⟩ (.int .i32 x1)).setCell ⟨q7, 1, none⟩ (.int .i32 x2) = V := ⟨_, rfl⟩
             rw [hV]
             rw [hV] at hk
             clear e0 e1 f0 f1 b9
             have k7 : D1.heap[q7]? = some (.cells #[.int .i32 x1, .int .i32 x2] 58 (0, 0)) := by rw [← hV, heap_setCell_same _ _ _ _ _ _ (heap_setCell_same _ _ _ _ _ _ k7)]; simp
             have k6 := (show D1.heap[q6]? = D0.heap[q6]? by rw [← hV, Below.heap_setCell _ _ _ _ (by show q6 ≠ q7; exact n67), Below.heap_setCell _ _ _ _ (by show q6 ≠ q7; exact n67)]).trans k6
             clear hV
             obtain ⟨D0, hD⟩ : ∃ V, V = D1 := ⟨_, rfl⟩
             subst hD)
          | (go_simp
             first
               | (go_at_call 17
                  refine (((fun h => OA.out _ (HE.out.aB.trans (h.mono HE.out.aB.size)))) hk).mono ?_
                  rintro e D0 ⟨rfl, hb⟩
                  (try have k6 := (hb.block q6 (ax k6)).trans k6)
                  (try have k7 := (hb.block q7 (ax k7)).trans k7)
                  have hk := Below.trans hk (hb.mono hk.size)
                  clear hb)
               | (go_at_call 14
                  refine (((fun _ => kA r R.out.len _)) hk).mono ?_
                  rintro e D0 ⟨rfl, hb⟩
                  (try have k6 := (hb.block q6 (ax k6)).trans k6)
                  (try have k7 := (hb.block q7 (ax k7)).trans k7)
                  have hk := Below.trans hk (hb.mono hk.size)
                  clear hb)
               | (go_at_call 18
                  refine (((fun _ => ow.out _)) hk).mono ?_
                  rintro e D0 ⟨rfl, hb⟩
                  (try have k6 := (hb.block q6 (ax k6)).trans k6)
                  (try have k7 := (hb.block q7 (ax k7)).trans k7)
                  have hk := Below.trans hk (hb.mono hk.size)
                  clear hb)
               | (obtain ⟨q6, hq⟩ : ∃ q, D0.heap.size = q := ⟨_, rfl⟩
                  obtain ⟨D1, hV⟩ : ∃ V, D0.alloc (.cells #[.int .i32 0, .int .i32 0] 54) = V := ⟨_, rfl⟩
                  rw [hV, hq]
                  have hb : Below D0.heap.size D0 D1 := hV ▸ (Below.refl _ _).alloc (Nat.le_refl _) _
                  have k6 : D1.heap[q6]? = some (.cells #[.int .i32 0, .int .i32 0] 54) := by rw [← hq, ← hV]; exact heap_alloc_new _ _
                  have l6 : E4.heap.size ≤ q6 := by rw [← hq]; exact hk.size
                  (try have n67 : q6 ≠ q7 := by have := ax k7; omega)
                  (try have k7 := (hb.block q7 (ax k7)).trans k7)
                  have hk := Below.trans hk (hb.mono hk.size)
                  clear hb hV hq
                  obtain ⟨D0, hD⟩ : ∃ V, V = D1 := ⟨_, rfl⟩
                  subst hD)
               | (obtain ⟨q7, hq⟩ : ∃ q, D0.heap.size = q := ⟨_, rfl⟩
                  obtain ⟨D1, hV⟩ : ∃ V, D0.alloc (.cells #[.int .i32 0, .int .i32 0] 58) = V := ⟨_, rfl⟩
                  rw [hV, hq]
                  have hb : Below D0.heap.size D0 D1 := hV ▸ (Below.refl _ _).alloc (Nat.le_refl _) _
                  have k7 : D1.heap[q7]? = some (.cells #[.int .i32 0, .int .i32 0] 58) := by rw [← hq, ← hV]; exact heap_alloc_new _ _
                  have l7 : E4.heap.size ≤ q7 := by rw [← hq]; exact hk.size
                  (try have n67 : q6 ≠ q7 := by have := ax k6; omega)
                  (try have k6 := (hb.block q6 (ax k6)).trans k6)
                  have hk := Below.trans hk (hb.mono hk.size)
                  clear hb hV hq
                  obtain ⟨D0, hD⟩ : ∃ V, V = D1 := ⟨_, rfl⟩
                  subst hD))
        refine hK.out _ _ (⟨hk, (hk.block _ Gb).trans Gx.out, iy GK.out hk Ga⟩) (fun hHeld => ?_)
        clear hK K
        (try simp only [U0, U3, U4, Act.put, U5, U6, U7])
    all_goals
      refine wpAnyH_done TY ?_ _
      clear hHeld
    all_goals
      go_wp2_with fail
      go_meet
      exact ⟨_, _, rfl, rfl, k6, k7, hk⟩
  obtain ⟨q6, q7, rfl, rfl, k6, k7, hk⟩ := hcut
  obtain ⟨E5, Jd⟩ : ∃ E : World, E = wc := ⟨_, rfl⟩
  subst Jd
  have K6 := UZ k6
  have K7 := UZ k7
  clear k6 k7
  have yt := UZ (HE.out.keep hk)
  have DI := UZ (KA.out.keep hk)
  have Gy := UZ (KB.out.keep hk)
  have K8 := UZ (KC.out.keep hk)
  have Qi := UZ (KD.out.keep hk)
  clear hk HE KA KB KC KD
  have HE := yt
  have KA := DI
  have KB := Gy
  have KC := K8
  have KD := Qi
  clear yt DI Gy K8 Qi
  have lA := KA.out.lt
  have lB := KB.out.lt
  have lC := KC.out.lt
  have lD := KD.out.lt
  obtain ⟨e60, e61, -, -, l66⟩ := dA K6.out
  obtain ⟨e70, e71, -, -, l77⟩ := dA K7.out
  have Lm := UZ (show ∀ w', (∃ x : Ext E5, w' = x.w) → w'.rangeAt qA 0 (aa rA) from by rintro _ ⟨x, rfl⟩; exact (KA.out.keep x.h).range)
  have S1 := UZ (show ∀ w', (∃ x : Ext E5, w' = x.w) → w'.rangeAt qB 0 (aa rA) from by rintro _ ⟨x, rfl⟩; exact (KB.out.keep x.h).range)
  have SZ := UZ (show ∀ w', (∃ x : Ext E5, w' = x.w) → w'.rangeAt qC 0 (aa rC) from by rintro _ ⟨x, rfl⟩; exact (KC.out.keep x.h).range)
  have SY := UZ (show ∀ w', (∃ x : Ext E5, w' = x.w) → w'.rangeAt qD 0 (aa rC) from by rintro _ ⟨x, rfl⟩; exact (KD.out.keep x.h).range)
  have EA : ∀ w, (binOp .eql 56 (.agg (aa rA).toArray) (.agg (aa rA).toArray)).run Tryz.prog w = .ok (.bool true) w := fun w => by rw [oq RA.out.len RA.out.len]; simp
  have EC : ∀ w, (binOp .eql 56 (.agg (aa rC).toArray) (.agg (aa rC).toArray)).run Tryz.prog w = .ok (.bool true) w := fun w => by rw [oq RC.out.len RC.out.len]; simp
  have EX : ∀ w, (binOp .eql 54 (.agg #[.int .i32 x1, .int .i32 x2]) (.agg #[.int .i32 x1, .int .i32 x2])).run Tryz.prog w = .ok (.bool true) w := fun w => by rw [fO]; simp
  rcases cA with _ | _ <;> rcases cC with _ | _
  all_goals
    go_upto_region 8 with fail
    refine ay TY TY ?_
    repeat (first | (go_big_quiet_step ((go_at_call 11; first | (with_reducible exact Calls.au (qN rA RA.out.len _)) | (with_reducible exact Calls.au (qN rC RC.out.len _))))) | (refine bH T8 _ _ rfl _ _ rfl (aa rA) _ Lm.out Tryz.underlying56 rfl (hi3 RA.out.len) ?_; (try simp only [U0, U3, U4, Act.put, U5, U6, U7])) | (refine bH T8 _ _ rfl _ _ rfl (aa rA) _ S1.out Tryz.underlying61 rfl (rn aZ RA.out.len) ?_; (try simp only [U0, U3, U4, Act.put, U5, U6, U7])) | (refine bH T8 _ _ rfl _ _ rfl (aa rC) _ SZ.out Tryz.underlying56 rfl (hi3 RC.out.len) ?_; (try simp only [U0, U3, U4, Act.put, U5, U6, U7])) | (refine bH T8 _ _ rfl _ _ rfl (aa rC) _ SY.out Tryz.underlying61 rfl (rn aZ RC.out.len) ?_; (try simp only [U0, U3, U4, Act.put, U5, U6, U7])))
    refine wpQuiet_nil ?_
    rintro _ ⟨x, rfl⟩
    go_wp2_with fail
    go_ret
    exact ⟨rfl, HE.out.aB.trans (x.h.mono HE.out.aB.size)⟩
end
end Go.Proofs.YtebklpnkcicpjaaGreatDoor
