/-
  What is proved here: what Edges returns.
-/
import Derived.Test.YtfceodpdipniaaaDoorCgQ
namespace Go.Proofs.YtfceodpdipniaaaDoor
open Go.RowKit
set_option linter.unusedVariables false
set_option linter.unusedSimpArgs false

def edg (G : List Blk) (k : Nat) (l : List Int) : List (Int × Int) := ((List.range k).flatMap fun b => ((G.getD b ⟨0, 0, []⟩).nx).map fun t => ((b : Int), t)) ++ l.map fun t => ((k : Int), t)
theorem edg_add (G : List Blk) (k : Nat) (l : List Int) (t : Int) : edg G k (l ++ [t]) = edg G k l ++ [((k : Int), t)] := by simp [edg]
theorem edg_step {G : List Blk} {k : Nat} {x : Blk} (hx : G[k]? = some x) : edg G k x.nx = edg G (k + 1) [] := by
  unfold edg
  have e : G.getD k ⟨0, 0, []⟩ = x := by simp [List.getD, hx]
  rw [List.range_succ, List.flatMap_append]
  simp only [List.flatMap_cons, List.flatMap_nil, List.append_nil, List.map_nil, e]
theorem edg_len (G : List Blk) (hn : ∀ x ∈ G, x.nx.length ≤ 5000) (k : Nat) (hk : k ≤ G.length) (l : List Int) : (edg G k l).length ≤ 5000 * k + l.length := by
  have c2 : ∀ k, k ≤ G.length → ((List.range k).flatMap fun b => ((G.getD b ⟨0, 0, []⟩).nx).map fun t => ((b : Int), t)).length ≤ 5000 * k := by
    intro k
    induction k with
    | zero => simp
    | succ k ih =>
      intro hk
      have := ih (by omega)
      rw [List.range_succ, List.flatMap_append, List.length_append]
      have h2 : (G.getD k ⟨0, 0, []⟩).nx.length ≤ 5000 := by
        have hk' : k < G.length := by omega
        rw [show G.getD k ⟨0, 0, []⟩ = G[k] by simp [List.getD, List.getElem?_eq_getElem hk']]
        exact hn _ (List.getElem_mem hk')
      simp only [List.flatMap_cons, List.flatMap_nil, List.append_nil, List.length_map]
      omega
  have := c2 k hk
  unfold edg
  rw [List.length_append, List.length_map]
  omega
def pvs (L : List (Int × Int)) : List Value := L.flatMap fun p => [.int .i64 p.1, .int .i64 p.2]
theorem pvs_snoc (L : List (Int × Int)) (a b : Int) : pvs (L ++ [(a, b)]) = pvs L ++ [.int .i64 a, .int .i64 b] := by simp [pvs]
theorem pvs_at : ∀ (L : List (Int × Int)) (i j : Nat) (p : Int × Int), L[i]? = some p → j < 2 → (pvs L)[i * 2 + j]? = [Value.int .i64 p.1, .int .i64 p.2][j]?
  | y :: L, 0, j, p, h, hj => by
    simp at h; subst h
    have e : pvs (y :: L) = [.int .i64 y.1, .int .i64 y.2] ++ pvs L := by simp [pvs]
    rw [e, Nat.zero_mul, Nat.zero_add, List.getElem?_append_left (by simpa using hj)]
  | y :: L, i + 1, j, p, h, hj => by
    have h' : L[i]? = some p := by simpa using h
    have e : pvs (y :: L) = [.int .i64 y.1, .int .i64 y.2] ++ pvs L := by simp [pvs]
    rw [e, List.getElem?_append_right (by simp; omega), show (i + 1) * 2 + j - [Value.int .i64 y.1, .int .i64 y.2].length = i * 2 + j by simp; omega]
    exact pvs_at L i j p h' hj
/-- A list of pairs in memory. -/
def Prs (w : World) (v : Value) (L : List (Int × Int)) : Prop :=
  ∃ A cap, v = .slice A L.length cap ∧ L.length ≤ cap ∧ cap ≤ 2 ^ 63 - 1 ∧ (0 < L.length → ∃ b off, A = some ⟨b, off, none⟩ ∧ b < w.heap.size ∧ ∀ i p, L[i]? = some p → w.cell? ⟨b, off + i * 2, none⟩ = some (.int .i64 p.1) ∧ w.cell? ⟨b, off + i * 2 + 1, none⟩ = some (.int .i64 p.2))
theorem Prs.below {w w' : World} {v : Value} {L : List (Int × Int)} (h : Prs w v L) (hb : Below w.heap.size w w') : Prs w' v L := by
  obtain ⟨A, cap, h1, h2, h3, h4⟩ := h
  refine ⟨A, cap, h1, h2, h3, fun h0 => ?_⟩
  obtain ⟨b, off, ha, hlt, hc⟩ := h4 h0
  refine ⟨b, off, ha, by have := hb.size; omega, fun i p hp => ?_⟩
  obtain ⟨c0, c1⟩ := hc i p hp
  exact ⟨(hb.cell (p := ⟨b, _, none⟩) hlt).trans c0, (hb.cell (p := ⟨b, _, none⟩) hlt).trans c1⟩
theorem own_prs {w : World} {B : Nat} {e : TypeId} {v : Value} {L : List (Int × Int)} (h : w.ownsRow B e 2 v L.length (pvs L)) : Prs w v L := by
  rcases h.2 with ⟨rfl, h0⟩ | ⟨g, cap', cur, rfl, h1, h2, h3, h4, _, _⟩
  · exact ⟨none, 0, by rw [h0], by omega, by omega, fun h => by omega⟩
  · unfold maxLen at h4
    refine ⟨_, cap', rfl, h3, h4, fun _ => ⟨g, 0, rfl, (Array.getElem?_eq_some_iff.1 h2).1, fun i p hp => ?_⟩⟩
    have hi := (List.getElem?_eq_some_iff.1 hp).1
    refine ⟨?_, ?_⟩
    · rw [Nat.zero_add, h.cellAt _ (by omega), show i * 2 = i * 2 + 0 from rfl, pvs_at L i 0 p hp (by omega)]; rfl
    · rw [Nat.zero_add, h.cellAt _ (by omega), pvs_at L i 1 p hp (by omega)]; rfl
theorem cells_new2 (w : World) (a b : Value) (t : TypeId) : ∀ j u, [a, b][j]? = some u → (w.alloc (.cells #[a, b] t)).cell? ((⟨w.heap.size, 0, none⟩ : Addr).add j) = some u := by
  intro j u h
  have e : (⟨w.heap.size, 0, none⟩ : Addr).add j = ⟨w.heap.size, j, none⟩ := by cases j <;> simp [Addr.add]
  rw [e]
  unfold World.cell?
  rw [heap_alloc_new]
  simpa using h
theorem infoP : (Tryd.prog.info? 72).map (fun i => (i.zero, i.size, i.bytes)) = some (some (.agg #[.int .i64 0, .int .i64 0]), 2, 16) := by kernel_rfl

set_option maxHeartbeats 1000000 in
theorem edges_any (bv pv : Value) (G : List Blk) (w : World) (HG : Blks w bv G) (hn : G.length ≤ 5000) (hnx : ∀ x ∈ G, x.nx.length ≤ 5000) :
    Calls Tryd.prog 27 #[.agg #[bv, pv]] w fun e w' => (∃ v, e = .returned v ∧ Prs w' v (edg G G.length [])) ∧ Below w.heap.size w w' := by
  obtain ⟨A, cap, rfl, hc1, hc2⟩ := HG.slice
  have HGH := Lib.hid HG
  have HNX := Lib.hid hnx
  clear HG hnx
  obtain ⟨V0, hV0⟩ : ∃ V0, w.alloc (.cells #[.slice A G.length cap, pv] 31) = V0 := ⟨_, rfl⟩
  have b0 : Below w.heap.size w V0 := hV0 ▸ (Below.refl _ _).alloc (Nat.le_refl _) _
  have s0 : w.heap.size < V0.heap.size := by rw [← hV0]; simp
  have k0 : V0.heap[w.heap.size]? = some (.cells #[.slice A G.length cap, pv] 31) := by rw [← hV0]; exact heap_alloc_new _ _
  have y0 : V0.cell? ⟨w.heap.size, 0, none⟩ = some (.slice A G.length cap) := by simp [World.cell?, k0]
  have B0 := Lib.hid b0
  clear k0 b0
  obtain ⟨iP, hiP, hP0, hP1, hP2⟩ := info_parts infoP
  go_enter Tryd.func27, Tryd.ntmps27
  go_upto_region 3 with fail
  clear hV0
  go_loopw [3, 4, 5, 7, 11] (fun a3 a4 a5 a7 a11 wr => ∃ k : Nat, k ≤ G.length ∧ a11 = .int .i64 (k : Int) ∧ wr.ownsRow V0.heap.size 72 2 a3 (edg G k []).length (pvs (edg G k [])) ∧ Below V0.heap.size V0 wr) (fun _ _ _ _ a11 _ => G.length - (intOf a11).toNat)
  case atStart => exact ⟨0, Nat.zero_le _, rfl, World.ownsRow_nil _ _ _ _, Below.refl _ _⟩
  case round =>
    obtain ⟨k, hk, rfl, hown, hb⟩ := hrel
    have HO := Lib.hid hown
    have HB := Lib.hid hb
    have BW := Lib.hid (B0.out.trans (hb.mono (by omega)))
    have s1 := hb.size
    clear hown hb
    by_cases hlt : k < G.length
    · obtain ⟨x, nx, b, off, hx, rfl, hbl, c0, c1, c2, hIx⟩ := HGH.out.at_ BW.out hlt
      obtain ⟨NA, ncap, rfl, hn1, hn2⟩ := hIx.slice
      have HX := Lib.hid (edg_step hx)
      have hxl := HNX.out x (List.mem_of_getElem? hx)
      have HIX := Lib.hid hIx
      have dl : decide ((k : Int) < (G.length : Int)) = true := decide_eq_true (by omega)
      clear hx hIx
      obtain ⟨X, hX⟩ : ∃ X, wr.alloc (.cells #[.int .i64 x.lo, .int .i64 x.hi, .slice NA x.nx.length ncap] 51) = X := ⟨_, rfl⟩
      have bX : Below wr.heap.size wr X := hX ▸ (Below.refl _ _).alloc (Nat.le_refl _) _
      have kX : X.heap[wr.heap.size]? = some (.cells #[.int .i64 x.lo, .int .i64 x.hi, .slice NA x.nx.length ncap] 51) := hX ▸ heap_alloc_new _ _
      have o2 : X.cell? ⟨wr.heap.size, 2, none⟩ = some (.slice NA x.nx.length ncap) := by simp [World.cell?, kX]
      have HOX := Lib.hid (ownsRow_below HO.out bX)
      have HBX := Lib.hid (HB.out.trans (bX.mono s1))
      clear kX bX
      go_upto_region 6 with fail
      clear hX c0 c1 c2 o2 HO HB BW
      obtain ⟨wo, rfl⟩ : ∃ wo : World, wo = wr := ⟨_, rfl⟩
      go_loopw [3, 7, 19] (fun a3 a7 a19 wr => ∃ j : Nat, j ≤ x.nx.length ∧ a19 = .int .i64 (j : Int) ∧ wr.ownsRow V0.heap.size 72 2 a3 (edg G k (x.nx.take j)).length (pvs (edg G k (x.nx.take j))) ∧ Below V0.heap.size V0 wr) (fun _ _ a19 _ => x.nx.length - (intOf a19).toNat)
      case atStart => exact ⟨0, Nat.zero_le _, rfl, HOX.out, HBX.out⟩
      case round =>
        obtain ⟨j, hj, rfl, hown, hb⟩ := hrel
        have HO := Lib.hid hown
        have HB := Lib.hid hb
        have BW := Lib.hid (B0.out.trans (hb.mono (by omega)))
        have s2 := hb.size
        clear hown hb HOX HBX dl
        by_cases hjl : j < x.nx.length
        · obtain ⟨s, nb, noff, hs, rfl, hnb, x1⟩ := HIX.out.at_ BW.out hjl
          have HS := Lib.hid (take_snoc hs)
          have dl : decide ((j : Int) < (x.nx.length : Int)) = true := decide_eq_true (by omega)
          have hel := edg_len G HNX.out k (by omega) (x.nx.take j)
          have hel2 : (edg G k (x.nx.take j)).length ≤ 30000000 := by
            have : (x.nx.take j).length ≤ 5000 := by simp; omega
            omega
          clear hs hel
          go_wp2_with (at_builtin; refine wpList_append_own_at _ rfl (.tmp 23) (.tmp 27) 65 rfl V0.heap.size 72 iP _ 2 16 Tryd.underlying65 hiP hP0 hP1 hP2 rfl (by decide) u3 _ _ rfl (HO.out.alloc _) ⟨wr.heap.size, 0, none⟩ 1 1 [.int .i64 (k : Int), .int .i64 s] rfl rfl (cells_new2 _ _ _ _) (by simp [Value.oneCell']) (by unfold maxLen; omega) (by omega) (by rw [World.size_alloc]; omega) ?_; intro v' W' hown' hgrow _ hob)
          have HN := Lib.hid hown'
          have HBN := Lib.hid ((HB.out.alloc s2 _).grown hgrow (by rw [World.size_alloc]; omega) (fun k hk => (HO.out.lt k hk).1))
          go_roundw
          case rel =>
            refine ⟨j + 1, by omega, by go_num, ?_, HBN.out⟩
            rw [HS.out, edg_add, pvs_snoc, List.length_append]
            exact HN.out
          case measure => simp [intOf]; omega
        · obtain rfl : j = x.nx.length := by omega
          have dl : decide ((x.nx.length : Int) < (x.nx.length : Int)) = false := by simp
          rw [List.take_length] at HO
          go_wp2_with fail
          go_roundw
          case rel =>
            refine ⟨k + 1, by omega, by go_num, ?_, HB.out⟩
            rw [← HX.out]
            exact HO.out
          case measure => simp [intOf]; omega
    · obtain rfl : k = G.length := by omega
      have dl : decide ((G.length : Int) < (G.length : Int)) = false := by simp
      go_wp2_with fail
      go_ret
      exact ⟨⟨u3, rfl, own_prs HO.out⟩, BW.out⟩

end Go.Proofs.YtfceodpdipniaaaDoor
