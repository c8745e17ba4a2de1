/-
  What is proved here: what Block, Exits, Edges, the reference's Find, and ints return.
-/
import Derived.Test.YtfceodpdipniaaaDoorCgWide
namespace Go.Proofs.YtfceodpdipniaaaDoor
open Go.RowKit
set_option linter.unusedVariables false
set_option linter.unusedSimpArgs false

set_option maxHeartbeats 1000000 in
theorem ints_any (u v : Value) (l1 l2 : List Int) (w : World) (H1 : Ints w u l1) (H2 : Ints w v l2) :
    Calls Tryd.prog 28 #[u, v] w fun e w' => e = .returned (.bool (decide (l1 = l2))) ∧ Below w.heap.size w w' := by
  obtain ⟨A, cap, rfl, h2, h3, h4⟩ := H1
  obtain ⟨A2, cap2, rfl, k2, k3, k4⟩ := H2
  have HC := Lib.hid h4
  have HK := Lib.hid k4
  unfold maxLen at h3 k3
  clear h4 k4
  go_enter Tryd.func28, Tryd.ntmps28
  by_cases hl : l1.length = l2.length
  case neg =>
    have d : ((l1.length : Int) != (l2.length : Int)) = true := by simp; omega
    have HL := Lib.hid hl
    clear hl
    go_wp2_with fail
    go_ret
    exact ⟨ret_bool (by symm; simp; intro h; exact HL.out (by rw [h])), Below.refl _ _⟩
  have d : ((l1.length : Int) != (l2.length : Int)) = false := by simp; omega
  have HL := Lib.hid hl
  clear hl
  go_upto_region 4 with fail
  go_loopw [5, 13] (fun a5 a13 wr => ∃ j : Nat, j ≤ l1.length ∧ a13 = .int .i64 (j : Int) ∧ l1.take j = l2.take j ∧ Below w.heap.size w wr) (fun _ a13 _ => l1.length - (intOf a13).toNat)
  case atStart => exact ⟨0, Nat.zero_le _, rfl, by simp, Below.refl _ _⟩
  case round =>
    obtain ⟨j, hj, rfl, htk, hb⟩ := hrel
    have HTK := Lib.hid htk
    have HB := Lib.hid hb
    have hs := hb.size
    clear htk hb
    by_cases hlt : j < l1.length
    · have hlt2 : j < l2.length := by have := HL.out; omega
      obtain ⟨b, off, rfl, hb1, hc⟩ := HC.out (by omega)
      obtain ⟨b2, off2, rfl, hb2, hc2⟩ := HK.out (by omega)
      obtain ⟨s, hs1⟩ : ∃ s, l1[j] = s := ⟨_, rfl⟩
      obtain ⟨t, hs2⟩ : ∃ t, l2[j] = t := ⟨_, rfl⟩
      have x1 : wr.cell? ⟨b, off + j, none⟩ = some (.int .i64 s) := by rw [HB.out.cell (p := ⟨b, off + j, none⟩) hb1, hc j hlt, ← hs1]; simp [List.getD, List.getElem?_eq_getElem hlt]
      have x2 : wr.cell? ⟨b2, off2 + j, none⟩ = some (.int .i64 t) := by rw [HB.out.cell (p := ⟨b2, off2 + j, none⟩) hb2, hc2 j hlt2, ← hs2]; simp [List.getD, List.getElem?_eq_getElem hlt2]
      have HS1 := Lib.hid (show l1[j]? = some s by rw [List.getElem?_eq_getElem hlt, hs1])
      have HS2 := Lib.hid (show l2[j]? = some t by rw [List.getElem?_eq_getElem hlt2, hs2])
      have dl : decide ((j : Int) < (l1.length : Int)) = true := by simpa using hlt
      have g1 : b < wr.heap.size := by omega
      have g2 : b2 < wr.heap.size := by omega
      clear hc hc2 hs1 hs2
      by_cases q : s = t
      · have dq : (s != t) = false := by simp [q]
        have HQ := Lib.hid q
        clear q
        go_upto_region 6 with fail
        refine wp_region_ext (by kernel_rfl) (by kernel_rfl) ?_
        repeat (go_big_quiet_step (fail))
        refine wpQuiet_nil ?_
        rintro _ ⟨y, rfl⟩
        go_wp2_with fail
        go_roundw
        case rel => exact ⟨j + 1, by omega, by go_num, take_eq_snoc HS1.out HS2.out HTK.out HQ.out, Ext.below HB.out hs y⟩
        case measure => simp [intOf]; omega
      · have dq : (s != t) = true := by simp [q]
        have HQ := Lib.hid q
        clear q
        go_upto_region 6 with fail
        refine wp_region_ext (by kernel_rfl) (by kernel_rfl) ?_
        repeat (go_big_quiet_step (fail))
        refine wpQuiet_nil ?_
        rintro _ ⟨y, rfl⟩
        go_wp2_with fail
        go_ret
        refine ⟨ret_bool (by symm; simp; intro h; subst h; have h1 := HS1.out; rw [HS2.out] at h1; exact HQ.out (Option.some.inj h1).symm), Ext.below HB.out hs y⟩
    · obtain rfl : j = l1.length := by omega
      have dl : decide ((l1.length : Int) < (l1.length : Int)) = false := by simp
      have e : l1 = l2 := by
        have h := HTK.out
        have hL := HL.out
        rw [List.take_length, hL, List.take_length] at h
        exact h
      have HE := Lib.hid e
      clear e
      go_wp2_with fail
      go_ret
      exact ⟨ret_bool (by symm; simp; exact HE.out), HB.out⟩


def inB (pc : Int) (x : Blk) : Prop := x.lo ≤ pc ∧ pc < x.hi
instance (pc : Int) (x : Blk) : Decidable (inB pc x) := by unfold inB; infer_instance
def findB (G : List Blk) (pc : Int) : Option Nat := G.findIdx? (fun x => decide (inB pc x))
theorem findB_some {G : List Blk} {pc : Int} {j : Nat} {x : Blk} (hx : G[j]? = some x) (hin : inB pc x) (hno : ∀ y ∈ G.take j, ¬ inB pc y) : findB G pc = some j := by
  unfold findB
  obtain ⟨hj, e⟩ := List.getElem?_eq_some_iff.1 hx
  rw [List.findIdx?_eq_some_iff_getElem]
  refine ⟨hj, by rw [e]; simpa using hin, fun i hi => ?_⟩
  have : G[i] ∈ G.take j := by
    rw [List.mem_iff_getElem?]
    exact ⟨i, by rw [List.getElem?_take, if_pos hi, List.getElem?_eq_getElem (by omega)]⟩
  simpa using hno _ this
theorem findB_none {G : List Blk} {pc : Int} (hno : ∀ y ∈ G, ¬ inB pc y) : findB G pc = none := by
  unfold findB
  rw [List.findIdx?_eq_none_iff]
  intro x hx
  simpa using hno x hx

set_option maxHeartbeats 1000000 in
theorem block_any (bv pv : Value) (G : List Blk) (pc : Int) (w : World) (HG : Blks w bv G) :
    Calls Tryd.prog 30 #[.agg #[bv, pv], .int .i64 pc] w fun e w' => e = .returned (.tuple #[.int .i64 (((findB G pc).getD 0 : Nat) : Int), .bool (findB G pc).isSome]) ∧ Below w.heap.size w w' := by
  obtain ⟨A, cap, rfl, hc1, hc2⟩ := HG.slice
  have HGH := Lib.hid HG
  clear HG
  obtain ⟨V0, hV0⟩ : ∃ V0, w.alloc (.cells #[.slice A G.length cap, pv] 31) = V0 := ⟨_, rfl⟩
  have b0 : Below w.heap.size w V0 := hV0 ▸ (Below.refl _ _).alloc (Nat.le_refl _) _
  have s0 : w.heap.size < V0.heap.size := by rw [← hV0]; simp
  have k0 : V0.heap[w.heap.size]? = some (.cells #[.slice A G.length cap, pv] 31) := by rw [← hV0]; exact heap_alloc_new _ _
  have y0 : V0.cell? ⟨w.heap.size, 0, none⟩ = some (.slice A G.length cap) := by simp [World.cell?, k0]
  have B0 := Lib.hid b0
  clear k0 b0
  go_enter Tryd.func30, Tryd.ntmps30
  go_upto_region 2 with fail
  clear hV0
  go_loopw [6, 7, 11] (fun a6 a7 a11 wr => ∃ j : Nat, j ≤ G.length ∧ a11 = .int .i64 (j : Int) ∧ (∀ x ∈ G.take j, ¬ inB pc x) ∧ Below V0.heap.size V0 wr) (fun _ _ a11 _ => G.length - (intOf a11).toNat)
  case atStart => exact ⟨0, Nat.zero_le _, rfl, by simp, Below.refl _ _⟩
  case round =>
    obtain ⟨j, hj, rfl, hno, hb⟩ := hrel
    have HNO := Lib.hid hno
    have HB := Lib.hid hb
    have BW := Lib.hid (B0.out.trans (hb.mono (by omega)))
    have s1 := hb.size
    clear hno hb
    by_cases hlt : j < G.length
    · obtain ⟨x, nv, b, off, hx, rfl, hbl, c0, c1, c2, hI⟩ := HGH.out.at_ BW.out hlt
      obtain ⟨NA, ncap, rfl, hn1, hn2⟩ := hI.slice
      have HX := Lib.hid hx
      have dl : decide ((j : Int) < (G.length : Int)) = true := decide_eq_true (by omega)
      clear hx hI
      by_cases q : inB pc x
      · have d1 : decide (x.lo ≤ pc) = true := decide_eq_true q.1
        have d2 : decide (pc < x.hi) = true := decide_eq_true q.2
        have HQ := Lib.hid (findB_some HX.out q HNO.out)
        clear q
        go_wp2_with fail
        go_ret2
        refine ⟨?_, BW.out.alloc (by omega) _⟩
        rw [HQ.out]; rfl
      · have HQ := Lib.hid q
        by_cases q1 : x.lo ≤ pc
        · have d1 : decide (x.lo ≤ pc) = true := decide_eq_true q1
          have d2 : decide (pc < x.hi) = false := decide_eq_false (fun h => q ⟨q1, h⟩)
          clear q q1
          go_wp2_with fail
          go_roundw
          case rel =>
            refine ⟨j + 1, by omega, by go_num, fun t ht => ?_, HB.out.alloc (by omega) _⟩
            rw [take_snoc HX.out] at ht
            rcases List.mem_append.1 ht with h | h
            · exact HNO.out t h
            · simp at h; rw [h]; exact HQ.out
          case measure => simp [intOf]; omega
        · have d1 : decide (x.lo ≤ pc) = false := decide_eq_false q1
          clear q q1
          go_wp2_with fail
          go_roundw
          case rel =>
            refine ⟨j + 1, by omega, by go_num, fun t ht => ?_, HB.out.alloc (by omega) _⟩
            rw [take_snoc HX.out] at ht
            rcases List.mem_append.1 ht with h | h
            · exact HNO.out t h
            · simp at h; rw [h]; exact HQ.out
          case measure => simp [intOf]; omega
    · obtain rfl : j = G.length := by omega
      have dl : decide ((G.length : Int) < (G.length : Int)) = false := by simp
      rw [List.take_length] at HNO
      have HQ := Lib.hid (findB_none HNO.out)
      go_wp2_with fail
      go_ret2
      refine ⟨?_, BW.out⟩
      rw [HQ.out]; rfl

def findI (G : List Blk) (pc : Int) : Int := match findB G pc with | some k => (k : Int) | none => -1
set_option maxHeartbeats 1000000 in
theorem find_any (v : Value) (G : List Blk) (pc : Int) (w : World) (HG : Blks w v G) :
    Calls Tryd.prog 31 #[v, .int .i64 pc] w fun e w' => e = .returned (.int .i64 (findI G pc)) ∧ w = w' := by
  obtain ⟨A, cap, rfl, hc1, hc2⟩ := HG.slice
  have HGH := Lib.hid HG
  clear HG
  go_enter Tryd.func31, Tryd.ntmps31
  go_upto_region 2 with fail
  go_loopw [5] (fun a5 wr => ∃ j : Nat, j ≤ G.length ∧ a5 = .int .i64 (j : Int) ∧ (∀ x ∈ G.take j, ¬ inB pc x) ∧ wr = w) (fun a5 _ => G.length - (intOf a5).toNat)
  case atStart => exact ⟨0, Nat.zero_le _, rfl, by simp, rfl⟩
  case round =>
    obtain ⟨j, hj, rfl, hno, hw⟩ := hrel
    subst hw
    have HNO := Lib.hid hno
    clear hno
    by_cases hlt : j < G.length
    · obtain ⟨x, nv, b, off, hx, rfl, hbl, c0, c1, c2, hI⟩ := HGH.out.at_ (Below.refl _ _) hlt
      have HX := Lib.hid hx
      have dl : decide ((j : Int) < (G.length : Int)) = true := decide_eq_true (by omega)
      clear hx hI
      by_cases q : inB pc x
      · have d1 : decide (x.lo ≤ pc) = true := decide_eq_true q.1
        have d2 : decide (pc < x.hi) = true := decide_eq_true q.2
        have HQ := Lib.hid (findB_some HX.out q HNO.out)
        clear q
        go_wp2_with fail
        go_ret
        refine ⟨ret_int ?_, rfl⟩
        unfold findI; rw [HQ.out]
      · have HQ := Lib.hid q
        by_cases q1 : x.lo ≤ pc
        · have d1 : decide (x.lo ≤ pc) = true := decide_eq_true q1
          have d2 : decide (pc < x.hi) = false := decide_eq_false (fun h => q ⟨q1, h⟩)
          clear q q1
          go_wp2_with fail
          go_roundw
          case rel =>
            refine ⟨j + 1, by omega, by go_num, fun t ht => ?_, by first | rfl | trivial⟩
            rw [take_snoc HX.out] at ht
            rcases List.mem_append.1 ht with h | h
            · exact HNO.out t h
            · simp at h; rw [h]; exact HQ.out
          case measure => simp [intOf]; omega
        · have d1 : decide (x.lo ≤ pc) = false := decide_eq_false q1
          clear q q1
          go_wp2_with fail
          go_roundw
          case rel =>
            refine ⟨j + 1, by omega, by go_num, fun t ht => ?_, by first | rfl | trivial⟩
            rw [take_snoc HX.out] at ht
            rcases List.mem_append.1 ht with h | h
            · exact HNO.out t h
            · simp at h; rw [h]; exact HQ.out
          case measure => simp [intOf]; omega
    · obtain rfl : j = G.length := by omega
      have dl : decide ((G.length : Int) < (G.length : Int)) = false := by simp
      rw [List.take_length] at HNO
      have HQ := Lib.hid (findB_none HNO.out)
      go_wp2_with fail
      go_ret
      refine ⟨ret_int ?_, rfl⟩
      unfold findI; rw [HQ.out]

/-- The blocks without successors, of the first j. -/
def exits (G : List Blk) (j : Nat) : List Int := ((List.range j).filter (fun i => decide ((G.getD i ⟨0, 0, []⟩).nx.length = 0))).map (fun (i : Nat) => (i : Int))
theorem exits_succ {G : List Blk} {j : Nat} {x : Blk} (hx : G[j]? = some x) : exits G (j + 1) = if x.nx.length = 0 then exits G j ++ [(j : Int)] else exits G j := by
  unfold exits
  rw [List.range_succ, List.filter_append, List.map_append]
  have e : G.getD j ⟨0, 0, []⟩ = x := by simp [List.getD, hx]
  by_cases h : x.nx.length = 0
  · rw [if_pos h]; simp only [List.filter_cons, List.filter_nil, e, h, decide_true, if_true]; rfl
  · rw [if_neg h]; simp only [List.filter_cons, List.filter_nil, e, h, decide_false, Bool.false_eq_true, if_false]; simp
theorem exits_len (G : List Blk) (j : Nat) : (exits G j).length ≤ j := by
  unfold exits
  rw [List.length_map]
  exact Nat.le_trans (List.length_filter_le _ _) (by simp)

set_option maxHeartbeats 1000000 in
theorem exits_any (bv pv : Value) (G : List Blk) (w : World) (HG : Blks w bv G) (hn : G.length ≤ 5000) :
    Calls Tryd.prog 29 #[.agg #[bv, pv]] w fun e w' => (∃ v, e = .returned v ∧ Ints w' v (exits G G.length)) ∧ Below w.heap.size w w' := by
  obtain ⟨A, cap, rfl, hc1, hc2⟩ := HG.slice
  have HGH := Lib.hid HG
  clear HG
  obtain ⟨V0, hV0⟩ : ∃ V0, w.alloc (.cells #[.slice A G.length cap, pv] 31) = V0 := ⟨_, rfl⟩
  have b0 : Below w.heap.size w V0 := hV0 ▸ (Below.refl _ _).alloc (Nat.le_refl _) _
  have s0 : w.heap.size < V0.heap.size := by rw [← hV0]; simp
  have k0 : V0.heap[w.heap.size]? = some (.cells #[.slice A G.length cap, pv] 31) := by rw [← hV0]; exact heap_alloc_new _ _
  have y0 : V0.cell? ⟨w.heap.size, 0, none⟩ = some (.slice A G.length cap) := by simp [World.cell?, k0]
  have B0 := Lib.hid b0
  clear k0 b0
  obtain ⟨iI, hiI, hI0, hI1, hI2⟩ := info_parts infoI
  go_enter Tryd.func29, Tryd.ntmps29
  go_upto_region 3 with fail
  clear hV0
  go_loopw [3, 4, 5, 9] (fun a3 a4 a5 a9 wr => ∃ j : Nat, j ≤ G.length ∧ a9 = .int .i64 (j : Int) ∧ wr.ownsRow V0.heap.size 3 1 a3 (exits G j).length (ivs (exits G j)) ∧ Below V0.heap.size V0 wr) (fun _ _ _ a9 _ => G.length - (intOf a9).toNat)
  case atStart => exact ⟨0, Nat.zero_le _, rfl, World.ownsRow_nil _ _ _ _, Below.refl _ _⟩
  case round =>
    obtain ⟨j, hj, rfl, hown, hb⟩ := hrel
    have HO := Lib.hid hown
    have HB := Lib.hid hb
    have BW := Lib.hid (B0.out.trans (hb.mono (by omega)))
    have s1 := hb.size
    clear hown hb
    by_cases hlt : j < G.length
    · obtain ⟨x, nx, b, off, hx, rfl, hbl, c0, c1, c2, hIx⟩ := HGH.out.at_ BW.out hlt
      obtain ⟨NA, ncap, rfl, hn1, hn2⟩ := hIx.slice
      have HX := Lib.hid (exits_succ hx)
      have hel := exits_len G j
      have dl : decide ((j : Int) < (G.length : Int)) = true := decide_eq_true (by omega)
      clear hx hIx
      obtain ⟨X, hX⟩ : ∃ X, wr.alloc (.cells #[.int .i64 x.lo, .int .i64 x.hi, .slice NA x.nx.length ncap] 51) = X := ⟨_, rfl⟩
      have bX : Below wr.heap.size wr X := hX ▸ (Below.refl _ _).alloc (Nat.le_refl _) _
      have kX : X.heap[wr.heap.size]? = some (.cells #[.int .i64 x.lo, .int .i64 x.hi, .slice NA x.nx.length ncap] 51) := hX ▸ heap_alloc_new _ _
      have o2 : X.cell? ⟨wr.heap.size, 2, none⟩ = some (.slice NA x.nx.length ncap) := by simp [World.cell?, kX]
      have HOX := Lib.hid (ownsRow_below HO.out bX)
      have HBX := Lib.hid (HB.out.trans (bX.mono s1))
      have sX := HBX.out.size
      clear kX bX
      by_cases q : x.nx.length = 0
      · rw [if_pos q] at HX
        have d : ((x.nx.length : Int) == 0) = true := beq_iff_eq.2 (by omega)
        clear q
        go_upto_region 5 with fail
        clear hX c0 c1 c2
        go_wp2_with (at_builtin; refine wpList_append_own_at _ rfl (.tmp 18) (.tmp 20) 49 rfl V0.heap.size 3 iI (.int .i64 0) 1 8 Tryd.underlying49 hiI hI0 hI1 hI2 rfl (by decide) u3 _ _ rfl (HOX.out.alloc _) ⟨X.heap.size, 0, none⟩ 1 1 [.int .i64 (j : Int)] rfl rfl (cell_one_new _ _ _) (by simp [Value.oneCell']) (by unfold maxLen; omega) (by omega) (by rw [World.size_alloc]; omega) ?_; intro v' W' hown' hgrow _ hob)
        have HN := Lib.hid hown'
        have HBN := Lib.hid ((HBX.out.alloc sX _).grown hgrow (by rw [World.size_alloc]; omega) (fun k hk => (HOX.out.lt k hk).1))
        go_roundw
        case rel =>
          refine ⟨j + 1, by omega, by go_num, ?_, HBN.out⟩
          rw [HX.out]
          simpa [ivs] using HN.out
        case measure => simp [intOf]; omega
      · rw [if_neg q] at HX
        have d : ((x.nx.length : Int) == 0) = false := beq_eq_false_iff_ne.2 (by omega)
        clear q
        go_upto_region 5 with fail
        clear hX c0 c1 c2
        go_wp2_with fail
        go_roundw
        case rel =>
          refine ⟨j + 1, by omega, by go_num, ?_, HBX.out⟩
          rw [HX.out]
          exact HOX.out
        case measure => simp [intOf]; omega
    · obtain rfl : j = G.length := by omega
      have dl : decide ((G.length : Int) < (G.length : Int)) = false := by simp
      go_wp2_with fail
      go_ret
      exact ⟨⟨u3, rfl, own_ints HO.out⟩, BW.out⟩

end Go.Proofs.YtfceodpdipniaaaDoor
