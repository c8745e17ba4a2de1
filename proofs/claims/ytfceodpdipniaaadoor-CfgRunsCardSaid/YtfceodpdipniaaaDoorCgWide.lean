/-
  What is proved here: what wide, blocks and the reference's same return.
-/
import Derived.Test.YtfceodpdipniaaaDoorCgOpen
namespace Go.Proofs.YtfceodpdipniaaaDoor
open Go.RowKit
set_option linter.unusedVariables false
set_option linter.unusedSimpArgs false

def wideB (G : List Blk) (P : List (List Int)) : Bool := decide (30 < G.length) || decide (30 < P.length) || G.any (fun x => decide (10 < x.nx.length)) || P.any (fun l => decide (60 < l.length))
theorem wideB_no {G : List Blk} {P : List (List Int)} (h : wideB G P = false) : G.length ≤ 30 ∧ P.length ≤ 30 ∧ (∀ x ∈ G, x.nx.length ≤ 10) ∧ ∀ l ∈ P, l.length ≤ 60 := by
  unfold wideB at h
  simp only [Bool.or_eq_false_iff, decide_eq_false_iff_not, List.any_eq_false, decide_eq_true_eq] at h
  obtain ⟨⟨⟨h1, h2⟩, h3⟩, h4⟩ := h
  exact ⟨by omega, by omega, fun x hx => by have := h3 x hx; omega, fun x hx => by have := h4 x hx; omega⟩

set_option maxHeartbeats 1000000 in
theorem wide_any (bv pv : Value) (G : List Blk) (P : List (List Int)) (w : World) (HG : Blks w bv G) (HP : Lls w pv P) :
    Calls Tryd.prog 18 #[.agg #[bv, pv]] w fun e w' => e = .returned (.bool (wideB G P)) ∧ Below w.heap.size w w' := by
  obtain ⟨A, cap, rfl, hc1, hc2⟩ := HG.slice
  obtain ⟨PA, pcap, rfl, hp1, hp2⟩ := HP.slice
  have HGH := Lib.hid HG
  have HPH := Lib.hid HP
  clear HG HP
  obtain ⟨V0, hV0⟩ : ∃ V0, w.alloc (.cells #[.slice A G.length cap, .slice PA P.length pcap] 31) = V0 := ⟨_, rfl⟩
  have b0 : Below w.heap.size w V0 := hV0 ▸ (Below.refl _ _).alloc (Nat.le_refl _) _
  have s0 : w.heap.size < V0.heap.size := by rw [← hV0]; simp
  have k0 : V0.heap[w.heap.size]? = some (.cells #[.slice A G.length cap, .slice PA P.length pcap] 31) := by rw [← hV0]; exact heap_alloc_new _ _
  have y0 : V0.cell? ⟨w.heap.size, 0, none⟩ = some (.slice A G.length cap) := by simp [World.cell?, k0]
  have y1 : V0.cell? ⟨w.heap.size, 1, none⟩ = some (.slice PA P.length pcap) := by simp [World.cell?, k0]
  have B0 := Lib.hid b0
  clear k0 b0
  go_enter Tryd.func18, Tryd.ntmps18
  by_cases q1 : 30 < G.length
  · have d1 : decide ((30 : Int) < (G.length : Int)) = true := decide_eq_true (by omega)
    have HQ := Lib.hid (show wideB G P = true by simp [wideB, q1])
    clear q1
    go_wp2_with fail
    go_ret
    exact ⟨ret_bool HQ.out.symm, B0.out⟩
  have d1 : decide ((30 : Int) < (G.length : Int)) = false := decide_eq_false (by omega)
  by_cases q2 : 30 < P.length
  · have d2 : decide ((30 : Int) < (P.length : Int)) = true := decide_eq_true (by omega)
    have HQ := Lib.hid (show wideB G P = true by simp [wideB, q2])
    clear q2
    go_wp2_with fail
    go_ret
    exact ⟨ret_bool HQ.out.symm, B0.out⟩
  have d2 : decide ((30 : Int) < (P.length : Int)) = false := decide_eq_false (by omega)
  go_upto_region 4 with fail
  clear hV0
  go_loopw [4, 20] (fun a4 a20 wr => ∃ j : Nat, j ≤ G.length ∧ a20 = .int .i64 (j : Int) ∧ (∀ x ∈ G.take j, ¬ 10 < x.nx.length) ∧ Below V0.heap.size V0 wr) (fun _ a20 _ => G.length - (intOf a20).toNat)
  case atStart => exact ⟨0, Nat.zero_le _, rfl, by simp, Below.refl _ _⟩
  case round =>
    obtain ⟨j, hj, rfl, hno, hb⟩ := hrel
    have HNO := Lib.hid hno
    have HB := Lib.hid hb
    have BW := Lib.hid (B0.out.trans (hb.mono (by omega)))
    have s1 := hb.size
    clear hno hb
    by_cases hlt : j < G.length
    · obtain ⟨x, nv, b, off, hx, rfl, hbl, c0, c1, c2, hI⟩ := HGH.out.at_ BW.out hlt
      obtain ⟨NA, ncap, rfl, hn1, hn2⟩ := hI.slice
      have HX := Lib.hid (take_snoc hx)
      have HXM := Lib.hid (List.mem_of_getElem? hx)
      have dl : decide ((j : Int) < (G.length : Int)) = true := decide_eq_true (by omega)
      clear hx hI
      by_cases q3 : 10 < x.nx.length
      · have d3 : decide ((10 : Int) < (x.nx.length : Int)) = true := decide_eq_true (by omega)
        have HQ := Lib.hid (show wideB G P = true by
          unfold wideB
          have : G.any (fun x => decide (10 < x.nx.length)) = true := List.any_eq_true.2 ⟨x, HXM.out, by simpa using q3⟩
          simp [this])
        clear q3
        go_wp2_with fail
        go_ret
        exact ⟨ret_bool HQ.out.symm, BW.out.alloc (by omega) _⟩
      · have d3 : decide ((10 : Int) < (x.nx.length : Int)) = false := decide_eq_false (by omega)
        go_wp2_with fail
        go_roundw
        case rel =>
          refine ⟨j + 1, by omega, by go_num, fun t ht => ?_, HB.out.alloc (by omega) _⟩
          rw [HX.out] at ht
          rcases List.mem_append.1 ht with h | h
          · exact HNO.out t h
          · simp at h; rw [h]; exact q3
        case measure => simp [intOf]; omega
    · obtain rfl : j = G.length := by omega
      have dl : decide ((G.length : Int) < (G.length : Int)) = false := by simp
      rw [List.take_length] at HNO
      obtain ⟨V1, rfl⟩ : ∃ V1 : World, V1 = wr := ⟨_, rfl⟩
      have z1 : V1.cell? ⟨w.heap.size, 1, none⟩ = some (.slice PA P.length pcap) := by rw [HB.out.cell (p := ⟨w.heap.size, 1, none⟩) s0]; exact y1
      go_upto_region 10 with fail
      go_loopw [6, 32] (fun a6 a32 wr => ∃ j : Nat, j ≤ P.length ∧ a32 = .int .i64 (j : Int) ∧ (∀ x ∈ P.take j, ¬ 60 < x.length) ∧ wr = V1) (fun _ a32 _ => P.length - (intOf a32).toNat)
      case atStart => exact ⟨0, Nat.zero_le _, rfl, by simp, rfl⟩
      case round =>
        obtain ⟨j, hj', rfl, hno, hw⟩ := hrel
        subst hw
        have HNO2 := Lib.hid hno
        clear hno dl hlt
        by_cases hlt : j < P.length
        · obtain ⟨l, nv, b, off, hx, rfl, hbl, c0, hI⟩ := HPH.out.at_ BW.out hlt
          obtain ⟨NA, ncap, rfl, hn1, hn2⟩ := hI.slice
          have HX := Lib.hid (take_snoc hx)
          have HXM := Lib.hid (List.mem_of_getElem? hx)
          have dl : decide ((j : Int) < (P.length : Int)) = true := decide_eq_true (by omega)
          clear hx hI
          by_cases q3 : 60 < l.length
          · have d3 : decide ((60 : Int) < (l.length : Int)) = true := decide_eq_true (by omega)
            have HQ := Lib.hid (show wideB G P = true by
              unfold wideB
              have : P.any (fun x => decide (60 < x.length)) = true := List.any_eq_true.2 ⟨l, HXM.out, by simpa using q3⟩
              simp [this])
            clear q3
            go_wp2_with fail
            go_ret
            exact ⟨ret_bool HQ.out.symm, BW.out⟩
          · have d3 : decide ((60 : Int) < (l.length : Int)) = false := decide_eq_false (by omega)
            go_wp2_with fail
            go_roundw
            case rel =>
              refine ⟨j + 1, by omega, by go_num, fun t ht => ?_, by first | rfl | trivial⟩
              rw [HX.out] at ht
              rcases List.mem_append.1 ht with h | h
              · exact HNO2.out t h
              · simp at h; rw [h]; exact q3
            case measure => simp [intOf]; omega
        · obtain rfl : j = P.length := by omega
          have dl : decide ((P.length : Int) < (P.length : Int)) = false := by simp
          rw [List.take_length] at HNO2
          have HQ := Lib.hid (show wideB G P = false by
            unfold wideB
            simp only [Bool.or_eq_false_iff, decide_eq_false_iff_not, List.any_eq_false, decide_eq_true_eq]
            exact ⟨⟨⟨q1, q2⟩, HNO.out⟩, HNO2.out⟩)
          go_wp2_with fail
          go_ret
          exact ⟨ret_bool HQ.out.symm, BW.out⟩

theorem infoRB : (Tryd.prog.info? 105).map (fun i => (i.zero, i.size, i.bytes)) = some (some (.agg #[.int .i64 0, .int .i64 0, .slice none 0 0]), 3, 40) := by kernel_rfl
/-- The cells of the first blocks. -/
def bcells (G : List Blk) (nv : Nat → Value) : List Value := (List.range G.length).flatMap fun i => [.int .i64 (G.getD i ⟨0, 0, []⟩).lo, .int .i64 (G.getD i ⟨0, 0, []⟩).hi, nv i]

theorem bcells_snoc {G : List Blk} {j : Nat} {x : Blk} {nv : Nat → Value} {v : Value} (hx : G[j]? = some x) : bcells (G.take (j + 1)) (upd nv j v) = bcells (G.take j) nv ++ [.int .i64 x.lo, .int .i64 x.hi, v] := by
  have hlt := (List.getElem?_eq_some_iff.1 hx).1
  have hjl : (G.take j).length = j := by simp; omega
  unfold bcells
  rw [take_snoc hx, List.length_append, hjl, List.length_singleton, List.range_succ, List.flatMap_append]
  congr 1
  · rw [List.flatMap_def, List.flatMap_def]
    congr 1
    apply List.map_congr_left
    intro i hi
    have hi' := List.mem_range.1 hi
    have h1 : i ≠ j := by omega
    have h2 : (G.take j ++ [x]).getD i ⟨0, 0, []⟩ = (G.take j).getD i ⟨0, 0, []⟩ := by
      simp only [List.getD]
      rw [List.getElem?_append_left (by omega)]
    rw [h2]
    simp [upd, h1]
  · have h2 : (G.take j ++ [x]).getD j ⟨0, 0, []⟩ = x := by
      simp only [List.getD]
      rw [List.getElem?_append_right (by omega), hjl]
      simp
    simp only [List.flatMap_cons, List.flatMap_nil, List.append_nil]
    rw [h2]
    simp [upd]
theorem nv_snoc {w : World} {G : List Blk} {j : Nat} {x : Blk} {nv : Nat → Value} {v : Value} (hx : G[j]? = some x) (h : ∀ i y, (G.take j)[i]? = some y → Ints w (nv i) y.nx) (hv : Ints w v x.nx) : ∀ i y, (G.take (j + 1))[i]? = some y → Ints w (upd nv j v i) y.nx := by
  intro i y hy
  have hlt := (List.getElem?_eq_some_iff.1 hx).1
  have hjl : (G.take j).length = j := by simp; omega
  rw [take_snoc hx] at hy
  unfold upd
  by_cases e : i = j
  · rw [if_pos e]
    rw [List.getElem?_append_right (by omega), hjl, e] at hy
    simp at hy
    subst hy
    exact hv
  · rw [if_neg e]
    by_cases hi : i < j
    · rw [List.getElem?_append_left (by omega)] at hy
      exact h i y hy
    · rw [List.getElem?_eq_none (by simp; omega)] at hy
      cases hy
theorem bcells_at {G : List Blk} {nv : Nat → Value} {i : Nat} {x : Blk} (hx : G[i]? = some x) {j : Nat} (hj : j < 3) : (bcells G nv)[i * 3 + j]? = [.int .i64 x.lo, .int .i64 x.hi, nv i][j]? := by
  have hi := (List.getElem?_eq_some_iff.1 hx).1
  have e : G.getD i ⟨0, 0, []⟩ = x := by simp [List.getD, hx]
  have := flat3_at (f := fun i => [Value.int .i64 (G.getD i ⟨0, 0, []⟩).lo, .int .i64 (G.getD i ⟨0, 0, []⟩).hi, nv i]) (fun _ => rfl) G.length i j hi hj
  unfold bcells
  rw [this, e]
/-- A row of blocks. -/
theorem own_blks {w w0 : World} {B : Nat} {e : TypeId} {v : Value} {G : List Blk} {nv : Nat → Value} (h : w.ownsRow B e 3 v G.length (bcells G nv)) (hI : ∀ i x, G[i]? = some x → Ints w (nv i) x.nx) : Blks w v G := by
  rcases h.2 with ⟨rfl, h0⟩ | ⟨g, cap', cur, rfl, h1, h2, h3, h4, _, _⟩
  · exact ⟨none, 0, by rw [h0], by omega, by unfold maxLen; omega, fun h => by omega⟩
  · refine ⟨_, cap', rfl, h3, h4, fun _ => ⟨g, 0, rfl, (Array.getElem?_eq_some_iff.1 h2).1, fun i x hx => ?_⟩⟩
    have hi := (List.getElem?_eq_some_iff.1 hx).1
    have key : ∀ j, j < 3 → w.cell? ⟨g, i * 3 + j, none⟩ = [Value.int .i64 x.lo, .int .i64 x.hi, nv i][j]? := fun j hj => by
      rw [h.cellAt _ (by omega)]
      exact bcells_at hx hj
    refine ⟨?_, ?_, nv i, ?_, hI i x hx⟩
    · rw [Nat.zero_add]; exact key 0 (by omega)
    · rw [Nat.zero_add]; exact key 1 (by omega)
    · rw [Nat.zero_add]; exact key 2 (by omega)

set_option maxHeartbeats 1000000 in
theorem blocks_any (bv pv : Value) (G : List Blk) (w : World) (HG : Blks w bv G) (hn : G.length ≤ 5000) :
    Calls Tryd.prog 21 #[.agg #[bv, pv]] w fun e w' => (∃ v, e = .returned v ∧ Blks w' v G) ∧ Below w.heap.size w w' := by
  obtain ⟨A, cap, rfl, hc1, hc2⟩ := HG.slice
  have HGH := Lib.hid HG
  clear HG
  obtain ⟨V0, hV0⟩ : ∃ V0, w.alloc (.cells #[.slice A G.length cap, pv] 31) = V0 := ⟨_, rfl⟩
  have b0 : Below w.heap.size w V0 := hV0 ▸ (Below.refl _ _).alloc (Nat.le_refl _) _
  have s0 : w.heap.size < V0.heap.size := by rw [← hV0]; simp
  have k0 : V0.heap[w.heap.size]? = some (.cells #[.slice A G.length cap, pv] 31) := by rw [← hV0]; exact heap_alloc_new _ _
  have y0 : V0.cell? ⟨w.heap.size, 0, none⟩ = some (.slice A G.length cap) := by simp [World.cell?, k0]
  have B0 := Lib.hid b0
  clear k0 b0
  obtain ⟨i1, hi1, hy0, hy1, hy2⟩ := info_parts infoRB
  go_enter Tryd.func21, Tryd.ntmps21
  go_upto_region 3 with fail
  clear hV0
  go_loopw [3, 5, 9] (fun a3 a5 a9 wr => ∃ (j : Nat) (nv : Nat → Value), j ≤ G.length ∧ a9 = .int .i64 (j : Int) ∧ wr.ownsRow V0.heap.size 105 3 a3 j (bcells (G.take j) nv) ∧ (∀ i x, (G.take j)[i]? = some x → Ints w (nv i) x.nx) ∧ Below V0.heap.size V0 wr) (fun _ _ a9 _ => G.length - (intOf a9).toNat)
  case atStart => exact ⟨0, fun _ => .slice none 0 0, Nat.zero_le _, rfl, World.ownsRow_nil _ _ _ _, by simp, Below.refl _ _⟩
  case round =>
    obtain ⟨j, nv, hj, rfl, hown, hI, hb⟩ := hrel
    have HO := Lib.hid hown
    have HI := Lib.hid hI
    have HB := Lib.hid hb
    have BW := Lib.hid (B0.out.trans (hb.mono (by omega)))
    have s1 := hb.size
    obtain ⟨vA, vcap, rfl⟩ : ∃ vA vcap, u3 = .slice vA j vcap := by
      rcases hown.2 with ⟨h, h'⟩ | ⟨g, cap', cur, h, _⟩
      · exact ⟨_, _, by rw [h, h']⟩
      · exact ⟨_, _, h⟩
    clear hown hI hb
    by_cases hlt : j < G.length
    · obtain ⟨x, nx, b, off, hx, rfl, hbl, c0, c1, c2, hIx⟩ := HGH.out.at_ BW.out hlt
      obtain ⟨NA, ncap, rfl, hn1, hn2⟩ := hIx.slice
      have HX := Lib.hid hx
      have HIX := Lib.hid hIx
      have dl : decide ((j : Int) < (G.length : Int)) = true := decide_eq_true (by omega)
      clear hx hIx
      go_upto_region 5 with fail
      obtain ⟨X, hX⟩ : ∃ X, wr.alloc (.cells #[.int .i64 x.lo, .int .i64 x.hi, .slice NA x.nx.length ncap] 51) = X := ⟨_, rfl⟩
      have kX : X.heap[wr.heap.size]? = some (.cells #[.int .i64 x.lo, .int .i64 x.hi, .slice NA x.nx.length ncap] 51) := hX ▸ heap_alloc_new _ _
      have bX : Below wr.heap.size wr X := hX ▸ (Below.refl _ _).alloc (Nat.le_refl _) _
      have o0 : X.cell? ⟨wr.heap.size, 0, none⟩ = some (.int .i64 x.lo) := by simp [World.cell?, kX]
      have o1 : X.cell? ⟨wr.heap.size, 1, none⟩ = some (.int .i64 x.hi) := by simp [World.cell?, kX]
      have o2 : X.cell? ⟨wr.heap.size, 2, none⟩ = some (.slice NA x.nx.length ncap) := by simp [World.cell?, kX]
      have HOX := Lib.hid (ownsRow_below HO.out bX)
      have HBX := Lib.hid (HB.out.trans (bX.mono s1))
      have sX := HBX.out.size
      rw [hX]
      clear hX kX bX c0 c1 c2
      go_upto_region 6 with (at_builtin; refine wpList_append_own_at _ rfl (.tmp 13) (.tmp 21) 42 rfl V0.heap.size 105 i1 _ 3 40 Tryd.underlying42 hi1 hy0 hy1 hy2 rfl (by decide) (.slice vA j vcap) _ _ rfl (HOX.out.alloc _) ⟨X.heap.size, 0, none⟩ 1 1 [.int .i64 x.lo, .int .i64 x.hi, .slice NA x.nx.length ncap] rfl rfl (cells_new3 _ _ _ _ _) (by simp [Value.oneCell']) (by unfold maxLen; omega) (by omega) (by rw [World.size_alloc]; omega) ?_; intro v' W' hown' hgrow _ hob)
      have HN := Lib.hid hown'
      have HBN := Lib.hid ((HBX.out.alloc sX _).grown hgrow (by rw [World.size_alloc]; omega) (fun k hk => (HOX.out.lt k hk).1))
      clear hown' hgrow hob o0 o1 o2
      go_wp2_with fail
      go_roundw
      case rel =>
        exact ⟨j + 1, upd nv j (.slice NA x.nx.length ncap), by omega, by go_num, by rw [bcells_snoc HX.out]; exact HN.out, nv_snoc HX.out HI.out HIX.out, HBN.out⟩
      case measure => simp [intOf]; omega
    · obtain rfl : j = G.length := by omega
      have dl : decide ((G.length : Int) < (G.length : Int)) = false := by simp
      rw [List.take_length] at HO HI
      go_wp2_with fail
      go_ret
      exact ⟨⟨.slice vA G.length vcap, rfl, own_blks (w0 := w) HO.out (fun i x hx => (HI.out i x hx).below BW.out)⟩, BW.out⟩

end Go.Proofs.YtfceodpdipniaaaDoor
