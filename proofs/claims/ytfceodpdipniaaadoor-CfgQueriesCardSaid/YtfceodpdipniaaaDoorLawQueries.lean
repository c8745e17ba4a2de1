/-
  What is proved here: CfgQueries returns true for every graph and index, and changes nothing of its input.
-/
import Derived.Test.YtfceodpdipniaaaDoorCgEdges
namespace Go.Proofs.YtfceodpdipniaaaDoor
open Go.RowKit
set_option linter.unusedVariables false
set_option linter.unusedSimpArgs false

theorem eqInt {P : Program} (d : Nat) {t : TypeId} {k : IntKind} (h : P.underlying t = some (.int k)) (a b : Int) (w : World) : (Op.equalIn (d + 1) t (.int k a) (.int k b)).run P w = .ok (a == b) w := by
  simp [Op.equalIn, run_underlying h]
theorem partA0 (a b : Int) (w : World) : (part 3 #[.int .i64 a, .int .i64 b] 0).run Tryd.prog w = .ok (.int .i64 a) w := by kernel_rfl
theorem partA1 (a b : Int) (w : World) : (part 3 #[.int .i64 a, .int .i64 b] 1).run Tryd.prog w = .ok (.int .i64 b) w := by kernel_rfl

theorem eqIn_p (d : Nat) (a b c e : Int) (w : World) : (Op.equalIn (d + 1 + 1) 72 (.agg #[.int .i64 a, .int .i64 b]) (.agg #[.int .i64 c, .int .i64 e])).run Tryd.prog w = .ok (a == c && b == e) w := by
  rw [Op.equalIn]
  have hr : List.range' 0 2 = [0, 1] := rfl
  by_cases h1 : a = c <;> by_cases h2 : b = e <;> simp [run_underlying Tryd.underlying72, eqInt d Tryd.underlying3, partA0, partA1, Sem.run_bind, hr, List.forIn_cons, List.forIn_nil, h1, h2, Result.andThen]
theorem ne_same (a b : Int) (w : World) : (binOp .neq 72 (.agg #[.int .i64 a, .int .i64 b]) (.agg #[.int .i64 a, .int .i64 b])).run Tryd.prog w = .ok (.bool false) w := by
  simp only [binOp]
  simp [Op.equal, Op.maxDepth, eqIn_p 9998]
theorem edg_prefix (G : List Blk) (m : Nat) : ∀ d, ∃ r, edg G (m + d) [] = edg G m [] ++ r
  | 0 => ⟨[], by simp⟩
  | d + 1 => by
    obtain ⟨r, hr⟩ := edg_prefix G m d
    refine ⟨r ++ ((G.getD (m + d) ⟨0, 0, []⟩).nx).map fun t => (((m + d : Nat) : Int), t), ?_⟩
    have : edg G (m + (d + 1)) [] = edg G (m + d) [] ++ ((G.getD (m + d) ⟨0, 0, []⟩).nx).map fun t => (((m + d : Nat) : Int), t) := by
      unfold edg
      rw [show m + (d + 1) = (m + d) + 1 by omega, List.range_succ, List.flatMap_append]
      simp
    rw [this, hr, List.append_assoc]
theorem edg_at {G : List Blk} {k : Nat} {x : Blk} (hx : G[k]? = some x) {j : Nat} {s : Int} (hs : x.nx[j]? = some s) : (edg G G.length [])[(edg G k (x.nx.take j)).length]? = some ((k : Int), s) := by
  have hk : k < G.length := (List.getElem?_eq_some_iff.1 hx).1
  obtain ⟨r, hr⟩ := edg_prefix G (k + 1) (G.length - (k + 1))
  rw [show k + 1 + (G.length - (k + 1)) = G.length by omega] at hr
  have h1 : edg G (k + 1) [] = edg G k (x.nx.take j) ++ ((x.nx.drop j).map fun t => ((k : Int), t)) := by
    rw [← edg_step hx]
    unfold edg
    rw [List.append_assoc, ← List.map_append, List.take_append_drop]
  rw [hr, h1, List.append_assoc, List.getElem?_append_right (Nat.le_refl _), Nat.sub_self]
  have hj := (List.getElem?_eq_some_iff.1 hs).1
  rw [List.getElem?_append_left (by simp; omega), List.getElem?_map, List.getElem?_drop, Nat.add_zero, hs]
  rfl

theorem find_facts (G : List Blk) (pc : Int) : ((findB G pc).isSome == decide (0 ≤ findI G pc)) = true ∧ (if findI G pc < 0 then 0 else findI G pc) = (((findB G pc).getD 0 : Nat) : Int) := by
  unfold findI
  cases findB G pc with
  | none => simp
  | some k => simp; try omega

set_option maxHeartbeats 4000000 in
set_option maxRecDepth 20000 in
theorem queries_any (bv pv : Value) (pc : Int) (G : List Blk) (P : List (List Int)) (w : World) (T : Tab w) (HG : Blks w bv G) (HP : Lls w pv P) :
    Calls Tryd.prog 8 #[.agg #[bv, pv], .int .i64 pc] w fun e w' => e = .returned (.bool true) ∧ Below w.heap.size w w' := by
  obtain ⟨A, cap, rfl, hc1, hc2⟩ := HG.slice
  obtain ⟨PA, pcap, rfl, hp1, hp2⟩ := HP.slice
  have HGH := Lib.hid HG
  have HPH := Lib.hid HP
  have HT := Lib.hid T
  clear HG HP T
  obtain ⟨V0, hV0⟩ : ∃ V0, w.alloc (.cells #[.slice A G.length cap, .slice PA P.length pcap] 31) = V0 := ⟨_, rfl⟩
  have b0 : Below w.heap.size w V0 := hV0 ▸ (Below.refl _ _).alloc (Nat.le_refl _) _
  have s0 : w.heap.size < V0.heap.size := by rw [← hV0]; simp
  have k0 : V0.heap[w.heap.size]? = some (.cells #[.slice A G.length cap, .slice PA P.length pcap] 31) := by rw [← hV0]; exact heap_alloc_new _ _
  have y0 : V0.cell? ⟨w.heap.size, 0, none⟩ = some (.slice A G.length cap) := by simp [World.cell?, k0]
  have y1 : V0.cell? ⟨w.heap.size, 1, none⟩ = some (.slice PA P.length pcap) := by simp [World.cell?, k0]
  have B0 := Lib.hid b0
  have HAW := Lib.hid (awake_any V0 (HT.out.below b0))
  clear k0 b0
  go_enter Tryd.func8, Tryd.ntmps8
  go_upto_region 1 with fail
  clear hV0
  go_upto_region 3 with (go_at_call 10; refine HAW.out.mono ?_; rintro e W1 ⟨rfl, hb1⟩)
  have z0 : W1.cell? ⟨w.heap.size, 0, none⟩ = some (.slice A G.length cap) := by rw [hb1.cell (p := ⟨w.heap.size, 0, none⟩) s0]; exact y0
  have z1 : W1.cell? ⟨w.heap.size, 1, none⟩ = some (.slice PA P.length pcap) := by rw [hb1.cell (p := ⟨w.heap.size, 1, none⟩) s0]; exact y1
  have B1 := Lib.hid (B0.out.trans (hb1.mono (by omega)))
  have HWI := Lib.hid (wide_any _ _ G P W1 (HGH.out.below B1.out) (HPH.out.below B1.out))
  have BV1 := Lib.hid hb1
  have s1 := hb1.size
  clear hb1 HAW
  rcases hwd : wideB G P
  case true =>
    rw [hwd] at HWI
    go_wp2_with (go_at_call 18; refine HWI.out.mono ?_; rintro e W2 ⟨rfl, hb2⟩)
    go_ret
    exact ⟨rfl, B1.out.trans (hb2.mono (by have := B1.out.size; omega))⟩
  rw [hwd] at HWI
  obtain ⟨hw1, hw2, hw3, hw4⟩ := wideB_no hwd
  have HW3 := Lib.hid (show ∀ x ∈ G, x.nx.length ≤ 5000 from fun x hx => by have := hw3 x hx; omega)
  clear hwd hw3 hw4
  go_upto_region 5 with (go_at_call 18; refine HWI.out.mono ?_; rintro e W2 ⟨rfl, hb2⟩)
  have BV2 := Lib.hid (BV1.out.trans (hb2.mono s1))
  have B2 := Lib.hid (B0.out.trans (BV2.out.mono (by omega)))
  have a0 : W2.cell? ⟨w.heap.size, 0, none⟩ = some (.slice A G.length cap) := by rw [BV2.out.cell (p := ⟨w.heap.size, 0, none⟩) s0]; exact y0
  have a1 : W2.cell? ⟨w.heap.size, 1, none⟩ = some (.slice PA P.length pcap) := by rw [BV2.out.cell (p := ⟨w.heap.size, 1, none⟩) s0]; exact y1
  have HBL := Lib.hid (block_any _ (.slice PA P.length pcap) G pc W2 (HGH.out.below B2.out))
  have s2 := BV2.out.size
  clear hb2 z0 z1 HWI BV1 B1
  have HFF := find_facts G pc
  have HFN := fun (v : Value) (W : World) (h : Blks W v G) => find_any v G pc W h
  obtain ⟨kb, hkb⟩ : ∃ kb : Int, (((findB G pc).getD 0 : Nat) : Int) = kb := ⟨_, rfl⟩
  obtain ⟨okb, hokb⟩ : ∃ okb, (findB G pc).isSome = okb := ⟨_, rfl⟩
  obtain ⟨fi, hfi⟩ : ∃ fi, findI G pc = fi := ⟨_, rfl⟩
  rw [hkb, hokb] at HBL
  rw [hkb, hokb, hfi] at HFF
  rw [hfi] at HFN
  obtain ⟨d1, d2⟩ := HFF
  clear hkb hokb hfi
  go_upto_region 6 with (go_at_call 30; refine HBL.out.mono ?_; rintro e W3 ⟨rfl, hb3⟩)
  have BV3 := Lib.hid (BV2.out.trans (hb3.mono s2))
  have B3 := Lib.hid (B0.out.trans (BV3.out.mono (by omega)))
  have c0 : W3.cell? ⟨w.heap.size, 0, none⟩ = some (.slice A G.length cap) := by rw [BV3.out.cell (p := ⟨w.heap.size, 0, none⟩) s0]; exact y0
  have c1 : W3.cell? ⟨w.heap.size, 1, none⟩ = some (.slice PA P.length pcap) := by rw [BV3.out.cell (p := ⟨w.heap.size, 1, none⟩) s0]; exact y1
  have HBK := Lib.hid (blocks_any _ (.slice PA P.length pcap) G W3 (HGH.out.below B3.out) (by omega))
  have s3 := BV3.out.size
  clear hb3 a0 a1 HBL BV2 B2
  go_upto_region 7 with (first | (go_at_call 21; refine HBK.out.mono ?_; rintro e W4 ⟨⟨rv, rfl, hrv⟩, hb4⟩) | (go_at_call 31; refine (HFN rv W4 hrv).mono ?_; rintro e w' ⟨rfl, rfl⟩))
  have BV4 := Lib.hid (BV3.out.trans (hb4.mono s3))
  have B4 := Lib.hid (B0.out.trans (BV4.out.mono (by omega)))
  have e0 : W4.cell? ⟨w.heap.size, 0, none⟩ = some (.slice A G.length cap) := by rw [BV4.out.cell (p := ⟨w.heap.size, 0, none⟩) s0]; exact y0
  have e1 : W4.cell? ⟨w.heap.size, 1, none⟩ = some (.slice PA P.length pcap) := by rw [BV4.out.cell (p := ⟨w.heap.size, 1, none⟩) s0]; exact y1
  have HED := Lib.hid (edges_any _ (.slice PA P.length pcap) G W4 (HGH.out.below B4.out) (by omega) HW3.out)
  have s4 := BV4.out.size
  clear hb4 c0 c1 HBK hrv BV3 B3 HFN
  go_upto_region 10 with fail
  go_upto_region 13 with (go_at_call 27; refine HED.out.mono ?_; rintro e W5 ⟨⟨ev, rfl, hPr⟩, hb5⟩; obtain ⟨eA, ecap, rfl, hpr1, hpr2, hpr3⟩ := id hPr; have g0 : W5.cell? ⟨w.heap.size, 0, none⟩ = some (.slice A G.length cap) := (hb5.cell (p := ⟨w.heap.size, 0, none⟩) (by show w.heap.size < _; omega)).trans e0)
  have BV5 := Lib.hid (BV4.out.trans (hb5.mono s4))
  have B5 := Lib.hid (B0.out.trans (BV5.out.mono (by omega)))
  have HPR := Lib.hid hPr
  have s5 := BV5.out.size
  obtain ⟨iI, hiI, hI0, hI1, hI2⟩ := info_parts infoI
  have hne := ne_same
  clear hb5 e0 e1 HED BV4 B4 hPr hpr3 g0 d1 d2
  go_loopw [8, 10, 11, 12, 14, 44] (fun a8 a10 a11 a12 a14 a44 wr => ∃ k : Nat, k ≤ G.length ∧ a44 = .int .i64 (k : Int) ∧ a10 = .int .i64 ((edg G k []).length : Int) ∧ wr.ownsRow W5.heap.size 3 1 a8 (exits G k).length (ivs (exits G k)) ∧ Below W5.heap.size W5 wr) (fun _ _ _ _ _ a44 _ => G.length - (intOf a44).toNat)
  case atStart => exact ⟨0, Nat.zero_le _, rfl, rfl, World.ownsRow_nil _ _ _ _, Below.refl _ _⟩
  case round =>
    obtain ⟨k, hk, rfl, rfl, hown, hb⟩ := hrel
    have HO := Lib.hid hown
    have HB := Lib.hid hb
    have hb5s := B5.out.size
    have BW := Lib.hid (B5.out.trans (hb.mono (by omega)))
    have s6 := hb.size
    clear hown hb
    by_cases hlt : k < G.length
    · obtain ⟨x, nx, b, off, hx, rfl, hbl, c0, c1, c2, hIx⟩ := HGH.out.at_ BW.out hlt
      obtain ⟨NA, ncap, rfl, hn1, hn2⟩ := hIx.slice
      have HEX := Lib.hid (exits_succ hx)
      have HX := Lib.hid hx
      have hxl := HW3.out x (List.mem_of_getElem? hx)
      have HIX := Lib.hid hIx
      have hel := exits_len G k
      have dl : decide ((k : Int) < (G.length : Int)) = true := decide_eq_true (by omega)
      clear hx hIx
      obtain ⟨X, hX⟩ : ∃ X, wr.alloc (.cells #[.int .i64 x.lo, .int .i64 x.hi, .slice NA x.nx.length ncap] 51) = X := ⟨_, rfl⟩
      have bX : Below wr.heap.size wr X := hX ▸ (Below.refl _ _).alloc (Nat.le_refl _) _
      have kX : X.heap[wr.heap.size]? = some (.cells #[.int .i64 x.lo, .int .i64 x.hi, .slice NA x.nx.length ncap] 51) := hX ▸ heap_alloc_new _ _
      have o2 : X.cell? ⟨wr.heap.size, 2, none⟩ = some (.slice NA x.nx.length ncap) := by simp [World.cell?, kX]
      have HOX := Lib.hid (ownsRow_below HO.out bX)
      have HBX := Lib.hid (HB.out.trans (bX.mono s6))
      have KX := Lib.hid kX
      have sX : wr.heap.size < X.heap.size := by rw [← hX]; simp
      have sX2 := HBX.out.size
      clear kX bX
      go_upto_region 15 with fail
      clear hX c0 c1 c2 HO HB BW
      obtain ⟨q, hq⟩ : ∃ q, wr.heap.size = q := ⟨_, rfl⟩
      rw [hq] at o2 KX sX ⊢
      clear hq
      go_upto_if 52 with fail
      go_cut [8] from 51 to 56 (fun a8 wx => wx.ownsRow W5.heap.size 3 1 a8 (exits G (k + 1)).length (ivs (exits G (k + 1))) ∧ Below W5.heap.size W5 wx ∧ wx.cell? ⟨q, 2, none⟩ = some (.slice NA x.nx.length ncap))
      case first =>
        by_cases q1 : x.nx.length = 0
        · rw [if_pos q1] at HEX
          have d : ((x.nx.length : Int) == 0) = true := beq_iff_eq.2 (by omega)
          clear q1
          go_wp2_with (at_builtin; refine wpList_append_own_at _ rfl (.tmp 53) (.tmp 55) 49 rfl W5.heap.size 3 iI (.int .i64 0) 1 8 Tryd.underlying49 hiI hI0 hI1 hI2 rfl (by decide) u8 _ _ rfl (HOX.out.alloc _) ⟨X.heap.size, 0, none⟩ 1 1 [.int .i64 (k : Int)] rfl rfl (cell_one_new _ _ _) (by simp [Value.oneCell']) (by unfold maxLen; omega) (by omega) (by rw [World.size_alloc]; omega) ?_; intro v' W' hown' hgrow _ hob)
          have HN := Lib.hid hown'
          have HBN := Lib.hid ((HBX.out.alloc sX2 _).grown hgrow (by rw [World.size_alloc]; omega) (fun k hk => (HOX.out.lt k hk).1))
          have hq2 : W'.cell? ⟨q, 2, none⟩ = some (.slice NA x.nx.length ncap) := by
            have h1 := hgrow.block q (by rw [World.size_alloc]; omega) (fun e' => own_box KX.out HOX.out (by decide) e')
            rw [heap_alloc_old _ _ sX, KX.out] at h1
            simp [World.cell?, h1]
          have HQ2 := Lib.hid hq2
          clear hown' hgrow hob hq2
          go_meet
          case rel =>
            refine ⟨?_, HBN.out, HQ2.out⟩
            rw [HEX.out]
            simpa [ivs] using HN.out
        · rw [if_neg q1] at HEX
          have d : ((x.nx.length : Int) == 0) = false := beq_eq_false_iff_ne.2 (by omega)
          clear q1
          go_wp2_with fail
          go_meet
          case rel =>
            refine ⟨?_, HBX.out, o2⟩
            rw [HEX.out]
            exact HOX.out
      case rest =>
        obtain ⟨hO, hBc, v2⟩ := hcut
        have HO := Lib.hid hO
        have HB := Lib.hid hBc
        clear hO hBc HOX HBX o2 KX
        go_upto_region 18 with fail
        clear v2
        have BVc := Lib.hid (B5.out.trans (HB.out.mono (by omega)))
        clear BVc
        go_loopw [10, 14, 60] (fun a10 a14 a60 wx => ∃ j : Nat, j ≤ x.nx.length ∧ a60 = .int .i64 (j : Int) ∧ a10 = .int .i64 ((edg G k (x.nx.take j)).length : Int) ∧ wx = wc) (fun _ _ a60 _ => x.nx.length - (intOf a60).toNat)
        case atStart => exact ⟨0, Nat.zero_le _, rfl, rfl, rfl⟩
        case round =>
          obtain ⟨j, hj, rfl, rfl, hw⟩ := hrel
          subst hw
          have BW := Lib.hid (B5.out.trans (HB.out.mono (by omega)))
          by_cases hjl : j < x.nx.length
          · obtain ⟨s, nb, noff, hs, rfl, hnb, x1⟩ := HIX.out.at_ BW.out hjl
            have hed := edg_at HX.out hs
            obtain ⟨eA', ecap', hv, hpr1', hpr2', hpr3'⟩ := HPR.out
            cases hv
            obtain ⟨eb, eoff, rfl, heb, hec⟩ := hpr3' (by have := (List.getElem?_eq_some_iff.1 hed).1; omega)
            obtain ⟨m0, m1⟩ := hec _ _ hed
            have hnl := (List.getElem?_eq_some_iff.1 hed).1
            have HS := Lib.hid (show (edg G k (x.nx.take (j + 1))).length = (edg G k (x.nx.take j)).length + 1 by rw [take_snoc hs, edg_add]; simp)
            obtain ⟨m, hm⟩ : ∃ m, (edg G k (x.nx.take j)).length = m := ⟨_, rfl⟩
            rw [hm] at m0 m1 hnl HS ⊢
            have n0 : wr.cell? ⟨eb, eoff + m * 2, none⟩ = some (.int .i64 (k : Int)) := by rw [HB.out.cell (p := ⟨eb, _, none⟩) heb]; exact m0
            have n1 : wr.cell? ⟨eb, eoff + m * 2 + 1, none⟩ = some (.int .i64 s) := by rw [HB.out.cell (p := ⟨eb, _, none⟩) heb]; exact m1
            have dl2 : decide ((j : Int) < (x.nx.length : Int)) = true := decide_eq_true (by omega)
            have dm : decide (((edg G G.length []).length : Int) ≤ (m : Int)) = false := decide_eq_false (by omega)
            clear hs hed hec m0 m1 hm
            go_wp2_with fail
            go_roundw
            case rel => exact ⟨j + 1, by omega, by go_num, by rw [HS.out]; go_num, by first | rfl | trivial⟩
            case measure => simp [intOf]; omega
          · obtain rfl : j = x.nx.length := by omega
            have dl2 : decide ((x.nx.length : Int) < (x.nx.length : Int)) = false := by simp
            have HS := Lib.hid (show (edg G k (x.nx.take x.nx.length)).length = (edg G (k + 1) []).length by rw [List.take_length, edg_step HX.out])
            go_wp2_with fail
            go_roundw
            case rel => exact ⟨k + 1, by omega, by go_num, by rw [HS.out], HO.out, HB.out⟩
            case measure => simp [intOf]; omega
    · obtain rfl : k = G.length := by omega
      have dl : decide ((G.length : Int) < (G.length : Int)) = false := by simp
      have z0 : wr.cell? ⟨w.heap.size, 0, none⟩ = some (.slice A G.length cap) := by rw [HB.out.cell (p := ⟨w.heap.size, 0, none⟩) (by show w.heap.size < _; omega), BV5.out.cell (p := ⟨w.heap.size, 0, none⟩) s0]; exact y0
      have z1 : wr.cell? ⟨w.heap.size, 1, none⟩ = some (.slice PA P.length pcap) := by rw [HB.out.cell (p := ⟨w.heap.size, 1, none⟩) (by show w.heap.size < _; omega), BV5.out.cell (p := ⟨w.heap.size, 1, none⟩) s0]; exact y1
      have HEXc := Lib.hid (exits_any _ (.slice PA P.length pcap) G wr (HGH.out.below BW.out) (by omega))
      go_wp2_with (first | (go_at_call 29; refine HEXc.out.mono ?_; rintro e W7 ⟨⟨xv, rfl, hxv⟩, hb7⟩) | (go_at_call 28; refine (ints_any xv u8 (exits G G.length) (exits G G.length) W7 hxv ((own_ints HO.out).below hb7)).mono ?_; rintro e W8 ⟨rfl, hb8⟩))
      go_ret
      refine ⟨ret_bool (by simp), BW.out.trans ((hb7.mono (by have := BW.out.size; omega)).trans (hb8.mono (by have := BW.out.size; have := hb7.size; omega)))⟩

end Go.Proofs.YtfceodpdipniaaaDoor
