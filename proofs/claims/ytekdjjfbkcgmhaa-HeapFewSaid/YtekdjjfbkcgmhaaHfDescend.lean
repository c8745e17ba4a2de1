/-
  What is proved here: what (*Heap).descend returns and does to the count (instance uint16).
-/
import Derived.Test.YtekdjjfbkcgmhaaHfPush
namespace Go.Proofs.Ytekdjjfbkcgmhaa
open Go.RowKit Hp
set_option linter.unusedVariables false
set_option linter.unusedSimpArgs false

theorem dbl_pow {a k n : Nat} (h : 2 ^ k ≤ a + 1) (hn : 2 * (a + 1) ≤ n) : 2 ^ (k + 1) ≤ n := by rw [Nat.pow_succ]; omega
def RetPathU (n : Nat) (c : Int) (kb : Nat) (w : World) (e : Ending) (w' : World) : Prop :=
  ∃ (ps : List Nat) (v : Value) (d d' : Nat), e = .returned v ∧ (∀ p ∈ ps, p < n) ∧ 2 ^ ps.length ≤ n + 1 ∧ 2 ^ d ≤ n + 1 ∧ d' ≤ 2 * d ∧ w'.ownsRow w.heap.size 3 1 v ps.length (pathN ps) ∧ Cx kb w w' (c + d')
set_option maxRecDepth 100000 in
set_option maxHeartbeats 4000000 in
theorem descend_u (hb kb : Nat) (L : List Iu) (n : Nat) (hn : L.length = n + 1) (hlen : n ≤ 1000) (B : Nat) (v : Value) (x : Iu) (nx c : Int) (h0c : 0 ≤ c) (h1c : c ≤ 1000) (w : World) (H : HpU w B hb kb v L nx c) :
    Calls Try.prog 43 #[.pointer (some ⟨hb, 0, none⟩), iuv x, .int .i64 n] w (RetPathU n c kb w) := by
  obtain ⟨i0, hi, hz0, hz1, hz2⟩ := info_parts infoI
  have HH := Lib.hid H
  have HN := Lib.hid hn
  obtain ⟨h1, h2, h3, h4, h5, h6, k1, k2, k3⟩ := H.cells
  clear H hn h1 h2 h3 h4 h5 k1 k2
  go_enter Try.func43, Try.ntmps43
  go_wp2_with fail
  obtain ⟨V, hV⟩ : ∃ V, w.alloc (Obj.cells #[.int .u16 x.key, .int .i64 x.ord] 73) = V := ⟨_, rfl⟩
  have hVb : Below w.heap.size w V := hV ▸ (Below.refl _ _).alloc (Nat.le_refl _) _
  have hVx : V.heap[w.heap.size]? = some (Obj.cells #[.int .u16 x.key, .int .i64 x.ord] 73) := hV ▸ alloc_new _ _
  rw [hV]
  have HD := Lib.hid (HH.out.later hVb)
  have sV := lt_of_block hVx
  have HV := Lib.hid hVb
  have HVx := Lib.hid hVx
  clear hV hVb hVx
  have hown0 : V.ownsRow V.heap.size 3 1 (.slice none 0 0) 0 (pathN []) := ⟨rfl, .inl ⟨rfl, rfl⟩⟩
  go_loopw [7, 8, 9] (fun p a d wr => ∃ (ps : List Nat) (m q : Nat), a = .int .i64 (m : Int) ∧ m ≤ n ∧ 2 ^ ps.length ≤ m + 1 ∧ q ≤ 2 * ps.length ∧ (∀ p ∈ ps, p < n) ∧ wr.ownsRow V.heap.size 3 1 p ps.length (pathN ps) ∧ Cx kb V wr (c + (q : Nat))) (fun _ a _ _ => n - (intOf a).toNat)
  case atStart => exact ⟨[], 0, 0, rfl, Nat.zero_le _, by simp, by simp, (fun q hq => by cases hq), hown0, by simpa using Cx.refl HD.out.cnt⟩
  case round =>
    obtain ⟨ps, a, q, rfl, hml, hmp, hq2, hps, hown, hC⟩ := hrel
    have hpl : ps.length ≤ 1000 := by have := len_pow hmp; omega
    have HMP := Lib.hid hmp
    have HPS := Lib.hid hps
    have HC := Lib.hid hC
    have HO := Lib.hid hown
    have D := HD.out.step hC
    have zr := hC.size
    clear hmp hps hC hown hown0
    obtain ⟨h1, h2, h3, h4, h5, h6', k1, k2, k3'⟩ := D.cells
    obtain ⟨g, cap, hv, hg, hgs, hcap, hmax, _, hcs⟩ := own_itemsU D.row (by rw [HN.out]; omega)
    subst hv
    have HCs := Lib.hid hcs
    have HDr := Lib.hid D
    rw [HN.out] at h2
    clear D hcs
    have x1 : wr.cell? ⟨w.heap.size, 0, none⟩ = some (.int .u16 x.key) := by rw [HC.out.cell _ _ sV (by omega)]; simp [World.cell?, HVx.out]
    have x2 : wr.cell? ⟨w.heap.size, 1, none⟩ = some (.int .i64 x.ord) := by rw [HC.out.cell _ _ sV (by omega)]; simp [World.cell?, HVx.out]
    have x3 : w.heap.size < wr.heap.size := by omega
    by_cases c0 : n ≤ 2 * a + 1
    · have d0 : (n : Int) ≤ 2 * (a : Int) + 1 := by omega
      have d0' := decide_eq_true d0
      go_wp2_with fail
      go_ret
      refine ⟨ps, _, ps.length, q, rfl, HPS.out, by have := HMP.out; omega, by have := HMP.out; omega, hq2, own_low HO.out (by omega), ?_⟩
      exact ((Cx.refl HH.out.cnt).later HV.out).trans HC.out
    · have d0 : ¬ (n : Int) ≤ 2 * (a : Int) + 1 := by omega
      obtain ⟨p1, p2, _, _⟩ := HCs.out (2 * a + 1) (by rw [HN.out]; omega)
      by_cases c1 : 2 * a + 2 < n
      · have d1 : decide (2 * (a : Int) + 1 + 1 < (n : Int)) = true := by simp; omega
        obtain ⟨q1, q2, _, _⟩ := HCs.out (2 * a + 1 + 1) (by rw [HN.out]; omega)
        go_wp2_with fail
        refine wp_region_ext_tail 21 (by kernel_rfl) (by kernel_rfl) ?_
        simp only [List.take_succ_cons, List.take_zero, List.drop_succ_cons, List.drop_zero]
        repeat (go_big_quiet_step (fail))
        refine wpQuiet_nil ?_
        rintro _ ⟨y, rfl⟩
        have HDy := Lib.hid (HDr.out.later y.h)
        have HCy := Lib.hid (HC.out.later y.h)
        have HOy := Lib.hid (own_ext y HO.out)
        clear h1 h2 h3 h4 h5 k1 k2 k3' x1 x2 x3 p1 p2 q1 q2 h6'
        go_upto_region 8 with (go_at_call 41; refine (before_u hb kb (at_ L (2 * a + 1 + 1)) (at_ L (2 * a + 1)) (c + (q : Nat)) y.w (by omega) (by omega) HDy.out.cells.1 (lt_of_block HDy.out.blk) HDy.out.cnt).mono ?_; rintro e W1 ⟨r, rfl, hW1⟩; cases r)
        · have HC1 := Lib.hid (show Cx kb V W1 (c + ((q + 1 : Nat) : Int)) by rw [show c + ((q + 1 : Nat) : Int) = c + (q : Nat) + 1 by omega]; exact HCy.out.trans hW1)
          have HO1 := Lib.hid (hW1.own HOy.out (fun e => by have := (HOy.out.lt _ e).1; omega))
          clear hW1
          have D1 := HD.out.step HC1.out
          have z1 := HC1.out.size
          obtain ⟨h1, h2, h3, h4, h5, h6', k1, k2, k3'⟩ := D1.cells
          obtain ⟨g', cap', hv', _, hgs1, _, _, _, hcs1⟩ := own_itemsU D1.row (by rw [HN.out]; omega)
          simp only [Value.slice.injEq, Option.some.injEq, Addr.mk.injEq, true_and, and_true] at hv'
          obtain ⟨rfl, rfl⟩ := hv'
          obtain ⟨p1, p2, _, _⟩ := hcs1 (2 * a + 1) (by rw [HN.out]; omega)
          rw [HN.out] at h2
          have HD1 := Lib.hid D1
          clear D1 hcs1
          have x1 : W1.cell? ⟨w.heap.size, 0, none⟩ = some (.int .u16 x.key) := by rw [HC1.out.cell _ _ sV (by omega)]; simp [World.cell?, HVx.out]
          have x2 : W1.cell? ⟨w.heap.size, 1, none⟩ = some (.int .i64 x.ord) := by rw [HC1.out.cell _ _ sV (by omega)]; simp [World.cell?, HVx.out]
          have x3 : w.heap.size < W1.heap.size := by omega
          have cb : 2 * a + 1 < n := by omega
          refine wp_region_ext_tail 9 (by kernel_rfl) (by kernel_rfl) ?_
          simp only [List.take_succ_cons, List.take_zero, List.drop_succ_cons, List.drop_zero]
          repeat (go_big_quiet_step (fail))
          refine wpQuiet_nil ?_
          rintro _ ⟨y1, rfl⟩
          have HD2 := Lib.hid (HD1.out.later y1.h)
          have HC2 := Lib.hid (HC1.out.later y1.h)
          have HO2 := Lib.hid (own_ext y1 HO1.out)
          clear h1 h2 h3 h4 h5 k1 k2 k3' x1 x2 x3 p1 p2 h6'
          go_upto_region 10 with (go_at_call 41; refine (before_u hb kb (at_ L (2 * a + 1)) x (c + ((q + 1 : Nat) : Int)) y1.w (by omega) (by omega) HD2.out.cells.1 (lt_of_block HD2.out.blk) HD2.out.cnt).mono ?_; rintro e W2 ⟨r, rfl, hW2⟩; cases r)
          · have hC3 : Cx kb V W2 (c + ((q + 1 + 1 : Nat) : Int)) := by rw [show c + ((q + 1 + 1 : Nat) : Int) = c + ((q + 1 : Nat) : Int) + 1 by omega]; exact HC2.out.trans hW2
            go_ret
            refine ⟨ps, _, ps.length + 1, q + 1 + 1, rfl, HPS.out, by have := HMP.out; omega, by have := dbl_pow HMP.out (show 2 * (a + 1) ≤ n by omega); omega, by omega, own_low (hW2.own HO2.out (fun e => by have := (HO2.out.lt _ e).1; omega)) (by omega), ((Cx.refl HH.out.cnt).later HV.out).trans hC3⟩
          · have hC3 : Cx kb V W2 (c + ((q + 1 + 1 : Nat) : Int)) := by rw [show c + ((q + 1 + 1 : Nat) : Int) = c + ((q + 1 : Nat) : Int) + 1 by omega]; exact HC2.out.trans hW2
            have ho := hW2.own HO2.out (fun e => by have := (HO2.out.lt _ e).1; omega)
            have HC3 := Lib.hid hC3
            have z3 := hC3.size
            clear hC3 hW2
            go_wp2_with (at_builtin; refine wpList_append_own _ rfl (.tmp 54) (.tmp 56) 22 rfl V.heap.size 3 i0 (.int .i64 0) 1 8 Try.underlying22 hi hz0 hz1 hz2 rfl (by decide) _ _ _ rfl (ho.alloc _) ⟨W2.heap.size, 0, none⟩ 1 1 [.int .i64 ((2 * a + 1 : Nat) : Int)] rfl rfl (cell_one_new _ _ _) (by simp [Value.oneCell']) (by unfold maxLen; omega) (by omega) (by rw [World.size_alloc]; omega) ?_; intro v' W' hown' hgrow _)
            go_roundw
            case rel =>
              have hx : Cx kb V (W2.alloc (Obj.cells #[.int .i64 (2 * (a : Int) + 1)] 3)) (c + ((q + 1 + 1 : Nat) : Int)) := HC3.out.later ((Below.refl _ _).alloc (Nat.le_refl _) (Obj.cells #[.int .i64 (2 * (a : Int) + 1)] 3))
              refine ⟨ps ++ [2 * a + 1], 2 * a + 1, q + 1 + 1, by simp, by omega, by rw [List.length_append]; exact dbl_pow HMP.out (by omega), by simp; omega, fun t ht => ?_, by rw [List.length_append, pathN_snoc]; exact hown', ⟨hgrow.os.trans hx.os, hgrow.tape.trans hx.tape, hgrow.output.trans hx.output, Nat.le_trans hx.size hgrow.size, fun k hk hn => (hgrow.block k (by have := hx.size; omega) (fun e => by have := (ho.lt k e.symm).1; omega)).trans (hx.block k hk hn), (hgrow.block kb (lt_of_block hx.cnt) (fun e => by have := (ho.lt kb e.symm).1; omega)).trans hx.cnt⟩⟩
              rcases List.mem_append.1 ht with h | h
              · exact HPS.out t h
              · simp only [List.mem_singleton] at h; rw [h]; exact cb
            case measure => simp [intOf]; omega
        · have HC1 := Lib.hid (show Cx kb V W1 (c + ((q + 1 : Nat) : Int)) by rw [show c + ((q + 1 : Nat) : Int) = c + (q : Nat) + 1 by omega]; exact HCy.out.trans hW1)
          have HO1 := Lib.hid (hW1.own HOy.out (fun e => by have := (HOy.out.lt _ e).1; omega))
          clear hW1
          have D1 := HD.out.step HC1.out
          have z1 := HC1.out.size
          obtain ⟨h1, h2, h3, h4, h5, h6', k1, k2, k3'⟩ := D1.cells
          obtain ⟨g', cap', hv', _, hgs1, _, _, _, hcs1⟩ := own_itemsU D1.row (by rw [HN.out]; omega)
          simp only [Value.slice.injEq, Option.some.injEq, Addr.mk.injEq, true_and, and_true] at hv'
          obtain ⟨rfl, rfl⟩ := hv'
          obtain ⟨p1, p2, _, _⟩ := hcs1 (2 * a + 1 + 1) (by rw [HN.out]; omega)
          rw [HN.out] at h2
          have HD1 := Lib.hid D1
          clear D1 hcs1
          have x1 : W1.cell? ⟨w.heap.size, 0, none⟩ = some (.int .u16 x.key) := by rw [HC1.out.cell _ _ sV (by omega)]; simp [World.cell?, HVx.out]
          have x2 : W1.cell? ⟨w.heap.size, 1, none⟩ = some (.int .i64 x.ord) := by rw [HC1.out.cell _ _ sV (by omega)]; simp [World.cell?, HVx.out]
          have x3 : w.heap.size < W1.heap.size := by omega
          have cb : 2 * a + 1 + 1 < n := by omega
          refine wp_region_ext_tail 9 (by kernel_rfl) (by kernel_rfl) ?_
          simp only [List.take_succ_cons, List.take_zero, List.drop_succ_cons, List.drop_zero]
          repeat (go_big_quiet_step (fail))
          refine wpQuiet_nil ?_
          rintro _ ⟨y1, rfl⟩
          have HD2 := Lib.hid (HD1.out.later y1.h)
          have HC2 := Lib.hid (HC1.out.later y1.h)
          have HO2 := Lib.hid (own_ext y1 HO1.out)
          clear h1 h2 h3 h4 h5 k1 k2 k3' x1 x2 x3 p1 p2 h6'
          go_upto_region 10 with (go_at_call 41; refine (before_u hb kb (at_ L (2 * a + 1 + 1)) x (c + ((q + 1 : Nat) : Int)) y1.w (by omega) (by omega) HD2.out.cells.1 (lt_of_block HD2.out.blk) HD2.out.cnt).mono ?_; rintro e W2 ⟨r, rfl, hW2⟩; cases r)
          · have hC3 : Cx kb V W2 (c + ((q + 1 + 1 : Nat) : Int)) := by rw [show c + ((q + 1 + 1 : Nat) : Int) = c + ((q + 1 : Nat) : Int) + 1 by omega]; exact HC2.out.trans hW2
            go_ret
            refine ⟨ps, _, ps.length + 1, q + 1 + 1, rfl, HPS.out, by have := HMP.out; omega, by have := dbl_pow HMP.out (show 2 * (a + 1) ≤ n by omega); omega, by omega, own_low (hW2.own HO2.out (fun e => by have := (HO2.out.lt _ e).1; omega)) (by omega), ((Cx.refl HH.out.cnt).later HV.out).trans hC3⟩
          · have hC3 : Cx kb V W2 (c + ((q + 1 + 1 : Nat) : Int)) := by rw [show c + ((q + 1 + 1 : Nat) : Int) = c + ((q + 1 : Nat) : Int) + 1 by omega]; exact HC2.out.trans hW2
            have ho := hW2.own HO2.out (fun e => by have := (HO2.out.lt _ e).1; omega)
            have HC3 := Lib.hid hC3
            have z3 := hC3.size
            clear hC3 hW2
            go_wp2_with (at_builtin; refine wpList_append_own _ rfl (.tmp 54) (.tmp 56) 22 rfl V.heap.size 3 i0 (.int .i64 0) 1 8 Try.underlying22 hi hz0 hz1 hz2 rfl (by decide) _ _ _ rfl (ho.alloc _) ⟨W2.heap.size, 0, none⟩ 1 1 [.int .i64 ((2 * a + 1 + 1 : Nat) : Int)] rfl rfl (cell_one_new _ _ _) (by simp [Value.oneCell']) (by unfold maxLen; omega) (by omega) (by rw [World.size_alloc]; omega) ?_; intro v' W' hown' hgrow _)
            go_roundw
            case rel =>
              have hx : Cx kb V (W2.alloc (Obj.cells #[.int .i64 (2 * (a : Int) + 1 + 1)] 3)) (c + ((q + 1 + 1 : Nat) : Int)) := HC3.out.later ((Below.refl _ _).alloc (Nat.le_refl _) (Obj.cells #[.int .i64 (2 * (a : Int) + 1 + 1)] 3))
              refine ⟨ps ++ [2 * a + 1 + 1], 2 * a + 1 + 1, q + 1 + 1, by simp, by omega, by rw [List.length_append]; exact dbl_pow HMP.out (by omega), by simp; omega, fun t ht => ?_, by rw [List.length_append, pathN_snoc]; exact hown', ⟨hgrow.os.trans hx.os, hgrow.tape.trans hx.tape, hgrow.output.trans hx.output, Nat.le_trans hx.size hgrow.size, fun k hk hn => (hgrow.block k (by have := hx.size; omega) (fun e => by have := (ho.lt k e.symm).1; omega)).trans (hx.block k hk hn), (hgrow.block kb (lt_of_block hx.cnt) (fun e => by have := (ho.lt kb e.symm).1; omega)).trans hx.cnt⟩⟩
              rcases List.mem_append.1 ht with h | h
              · exact HPS.out t h
              · simp only [List.mem_singleton] at h; rw [h]; exact cb
            case measure => simp [intOf]; omega
      · have d1 : decide (2 * (a : Int) + 1 + 1 < (n : Int)) = false := by simp; omega
        go_wp2_with fail
        refine wp_region_ext (by kernel_rfl) (by kernel_rfl) ?_
        repeat (go_big_quiet_step (fail))
        refine wpQuiet_nil ?_
        rintro _ ⟨y, rfl⟩
        go_upto_region 8 with fail
        have hCy := HC.out.later y.h
        have hOy := own_ext y HO.out
        obtain ⟨W1, hW1⟩ : ∃ W1, y.w = W1 := ⟨_, rfl⟩
        rw [hW1] at hCy hOy ⊢
        have HC1 := Lib.hid hCy
        have HO1 := Lib.hid hOy
        clear hW1 hCy hOy h1 h2 h3 h4 h5 k1 k2 k3' x1 x2 x3 p1 p2 h6'
        have D1 := HD.out.step HC1.out
        have z1 := HC1.out.size
        obtain ⟨h1, h2, h3, h4, h5, h6', k1, k2, k3'⟩ := D1.cells
        obtain ⟨g', cap', hv', _, hgs1, _, _, _, hcs1⟩ := own_itemsU D1.row (by rw [HN.out]; omega)
        simp only [Value.slice.injEq, Option.some.injEq, Addr.mk.injEq, true_and, and_true] at hv'
        obtain ⟨rfl, rfl⟩ := hv'
        obtain ⟨p1, p2, _, _⟩ := hcs1 (2 * a + 1) (by rw [HN.out]; omega)
        rw [HN.out] at h2
        have HD1 := Lib.hid D1
        clear D1 hcs1
        have x1 : W1.cell? ⟨w.heap.size, 0, none⟩ = some (.int .u16 x.key) := by rw [HC1.out.cell _ _ sV (by omega)]; simp [World.cell?, HVx.out]
        have x2 : W1.cell? ⟨w.heap.size, 1, none⟩ = some (.int .i64 x.ord) := by rw [HC1.out.cell _ _ sV (by omega)]; simp [World.cell?, HVx.out]
        have x3 : w.heap.size < W1.heap.size := by omega
        have cb : 2 * a + 1 < n := by omega
        refine wp_region_ext_tail 9 (by kernel_rfl) (by kernel_rfl) ?_
        simp only [List.take_succ_cons, List.take_zero, List.drop_succ_cons, List.drop_zero]
        repeat (go_big_quiet_step (fail))
        refine wpQuiet_nil ?_
        rintro _ ⟨y1, rfl⟩
        have HD2 := Lib.hid (HD1.out.later y1.h)
        have HC2 := Lib.hid (HC1.out.later y1.h)
        have HO2 := Lib.hid (own_ext y1 HO1.out)
        clear h1 h2 h3 h4 h5 k1 k2 k3' x1 x2 x3 p1 p2 h6'
        go_upto_region 10 with (go_at_call 41; refine (before_u hb kb (at_ L (2 * a + 1)) x (c + ((q : Nat) : Int)) y1.w (by omega) (by omega) HD2.out.cells.1 (lt_of_block HD2.out.blk) HD2.out.cnt).mono ?_; rintro e W2 ⟨r, rfl, hW2⟩; cases r)
        · have hC3 : Cx kb V W2 (c + ((q + 1 : Nat) : Int)) := by rw [show c + ((q + 1 : Nat) : Int) = c + ((q : Nat) : Int) + 1 by omega]; exact HC2.out.trans hW2
          go_ret
          refine ⟨ps, _, ps.length + 1, q + 1, rfl, HPS.out, by have := HMP.out; omega, by have := dbl_pow HMP.out (show 2 * (a + 1) ≤ n by omega); omega, by omega, own_low (hW2.own HO2.out (fun e => by have := (HO2.out.lt _ e).1; omega)) (by omega), ((Cx.refl HH.out.cnt).later HV.out).trans hC3⟩
        · have hC3 : Cx kb V W2 (c + ((q + 1 : Nat) : Int)) := by rw [show c + ((q + 1 : Nat) : Int) = c + ((q : Nat) : Int) + 1 by omega]; exact HC2.out.trans hW2
          have ho := hW2.own HO2.out (fun e => by have := (HO2.out.lt _ e).1; omega)
          have HC3 := Lib.hid hC3
          have z3 := hC3.size
          clear hC3 hW2
          go_wp2_with (at_builtin; refine wpList_append_own _ rfl (.tmp 54) (.tmp 56) 22 rfl V.heap.size 3 i0 (.int .i64 0) 1 8 Try.underlying22 hi hz0 hz1 hz2 rfl (by decide) _ _ _ rfl (ho.alloc _) ⟨W2.heap.size, 0, none⟩ 1 1 [.int .i64 ((2 * a + 1 : Nat) : Int)] rfl rfl (cell_one_new _ _ _) (by simp [Value.oneCell']) (by unfold maxLen; omega) (by omega) (by rw [World.size_alloc]; omega) ?_; intro v' W' hown' hgrow _)
          go_roundw
          case rel =>
            have hx : Cx kb V (W2.alloc (Obj.cells #[.int .i64 (2 * (a : Int) + 1)] 3)) (c + ((q + 1 : Nat) : Int)) := HC3.out.later ((Below.refl _ _).alloc (Nat.le_refl _) (Obj.cells #[.int .i64 (2 * (a : Int) + 1)] 3))
            refine ⟨ps ++ [2 * a + 1], 2 * a + 1, q + 1, by simp, by omega, by rw [List.length_append]; exact dbl_pow HMP.out (by omega), by simp; omega, fun t ht => ?_, by rw [List.length_append, pathN_snoc]; exact hown', ⟨hgrow.os.trans hx.os, hgrow.tape.trans hx.tape, hgrow.output.trans hx.output, Nat.le_trans hx.size hgrow.size, fun k hk hn => (hgrow.block k (by have := hx.size; omega) (fun e => by have := (ho.lt k e.symm).1; omega)).trans (hx.block k hk hn), (hgrow.block kb (lt_of_block hx.cnt) (fun e => by have := (ho.lt kb e.symm).1; omega)).trans hx.cnt⟩⟩
            rcases List.mem_append.1 ht with h | h
            · exact HPS.out t h
            · simp only [List.mem_singleton] at h; rw [h]; exact cb
          case measure => simp [intOf]; omega

end Go.Proofs.Ytekdjjfbkcgmhaa
