/-
  What is proved here: what the reference's Build returns: the blocks that the program's Build makes.
-/
import Derived.Test.YtfceodpdipniaaaDoorCgR24m
namespace Go.Proofs.YtfceodpdipniaaaDoor
open Go.RowKit
set_option linter.unusedVariables false
set_option linter.unusedSimpArgs false

theorem own_at4 {w : World} {B n size : Nat} {e : TypeId} {v : Value} {xs : List Value} (h : w.ownsRow B e size v n xs) (hx : 0 < n) : ∃ g cap, v = .slice (some ⟨g, 0, none⟩) n cap ∧ B ≤ g ∧ n ≤ cap := by
  have hl := h.lt
  rcases h.2 with ⟨rfl, h0⟩ | ⟨g, cap, cur, rfl, hb, _, h1, _⟩
  · omega
  · exact ⟨g, cap, rfl, (hl g rfl).1, h1⟩
theorem own_sl {w : World} {B n size : Nat} {e : TypeId} {v : Value} {xs : List Value} (h : w.ownsRow B e size v n xs) : ∃ A cap, v = .slice A n cap := by
  rcases h.2 with ⟨rfl, h0⟩ | ⟨g, cap, cur, rfl, hb, _⟩
  · exact ⟨_, _, by rw [h0]⟩
  · exact ⟨_, _, rfl⟩
theorem blk_last {C : Int → Ins} {st en : Nat} {D : List Int} {L0 : List (Int × Int)} (GI : GInv C st en D L0) {p : Nat} (hp : (p : Int) ∈ D) (h1 : st ≤ p) (hl : ldB C st D (p : Int) = false) : (∃ M a, blk C st D (p - st) = M ++ [(a, (p : Int))]) ∧ endB (C ((p - 1 : Nat) : Int)).op = false ∧ st < p := by
  have hi := GI.inner hp hl
  have hne : p ≠ st := fun e => hi.ne (by omega)
  have hg : ∀ x ∈ D, ldB C st D x = false → x ≠ (st : Int) ∧ x - 1 ∈ D := fun x hx hl' => ⟨(GI.inner hx hl').ne, (GI.inner hx hl').before⟩
  have e1 : ((p - 1 : Nat) : Int) = (p : Int) - 1 := by omega
  refine ⟨?_, ?_, by omega⟩
  · obtain ⟨M, a, h⟩ := (blk_inner hg (p - st)).2 (by omega) (by rw [show (st : Int) + ((p - st : Nat) : Int) - 1 = (p : Int) - 1 by omega]; exact hi.before)
    exact ⟨M, a, by rw [h, show (st : Int) + ((p - st : Nat) : Int) = (p : Int) by omega]⟩
  · rw [e1]
    have hbr := hi.br
    unfold isBr at hbr
    unfold endB
    simp only [Bool.or_eq_false_iff, decide_eq_false_iff_not] at hbr ⊢
    exact ⟨⟨⟨hi.halt, hbr.2⟩, hbr.1.1⟩, hbr.1.2⟩

set_option maxHeartbeats 8000000 in
set_option maxRecDepth 20000 in
theorem buildR_any (v : Value) (n : Nat) (c : Nat → Ins) (C : Int → Ins) (st en : Nat) (D : List Int) (w : World) (HV : Inss w v n c) (h1 : st < en) (h2 : en ≤ n) (hn : n ≤ 5000) (him : ∀ i, i < n → -1000000 ≤ (c i).imm ∧ (c i).imm ≤ 1000000) (hC : ∀ i : Nat, i < n → C (i : Int) = c i) (hR : RInv C st en D [] (-1)) :
    Calls Tryd.prog 17 #[v, .int .i64 (st : Int), .int .i64 (en : Int)] w fun e w' => (∃ rv : Value, e = .returned rv ∧ Blks w' rv (gBlks C (blk C st D (en - st)))) ∧ Below w.heap.size w w' := by
  obtain ⟨A, cap, rfl, hc1, hc2⟩ := HV.slice
  have HRE := Lib.hid (reachR_any _ n c C st en w HV h1 h2 hn him hC)
  have GI := Lib.hid (GInv.of (by omega) (by omega) hR)
  have hstD : (st : Int) ∈ D := by rcases hR.s with h | h; exact h; cases h
  have HSD := Lib.hid hstD
  have HVH := Lib.hid HV
  have HIM := Lib.hid him
  have HCC := Lib.hid hC
  obtain ⟨iI, hiI, hI0, hI1, hI2⟩ := info_parts infoI
  obtain ⟨iB, hiB, hB0, hB1, hB2⟩ := info_parts infoB4
  clear HV him hC hR hstD
  go_enter Tryd.func17, Tryd.ntmps17
  go_upto_region 2 with (go_at_call 44; refine HRE.out.mono ?_; rintro e' W1 ⟨⟨sn, rv, rfl, hB, hsn⟩, hb1⟩; obtain ⟨g, rfl, hg, hgc⟩ := hB)
  have HGC := Lib.hid hgc
  have HSN := Lib.hid hsn
  have B1 := Lib.hid hb1
  have hs1 := hb1.size
  have HLR := Lib.hid (fun (x : Nat) (hx : (x : Int) ∈ D) => leadR_iff (sn := sn) GI.out.mem h1 hsn hx)
  obtain ⟨W2, hW2⟩ : ∃ W2, W1.alloc (.cells #[] 105) = W2 := ⟨_, rfl⟩
  have bW2 : Below W1.heap.size W1 W2 := hW2 ▸ (Below.refl _ _).alloc (Nat.le_refl _) _
  have HB2 := Lib.hid bW2
  have HO2 := Lib.hid (show W2.ownsRow W1.heap.size 105 3 (.slice (some ⟨W1.heap.size, 0, none⟩) 0 0) 0 [] by rw [← hW2]; exact World.ownsRow_made (e := 105) (size := 3) W1 #[] 0 (Nat.le_refl W1.heap.size) (Nat.zero_le _) rfl)
  clear HRE hgc hsn hb1 bW2
  go_upto_region 4 with fail
  clear hW2
  go_loopw [8, 9, 10] (fun a8 a9 a10 wr => ∃ p : Nat, st ≤ p ∧ p ≤ en ∧ a9 = .int .i64 (p : Int) ∧ Below W1.heap.size W1 wr ∧ wr.ownsRow W1.heap.size 105 3 a8 (blk C st D (p - st)).length (flatB (blk C st D (p - st)))) (fun _ a9 _ _ => en - (intOf a9).toNat)
  case atStart => exact ⟨st, Nat.le_refl _, by omega, rfl, HB2.out, by rw [Nat.sub_self]; exact HO2.out⟩
  case round =>
    obtain ⟨p, hp1, hp2, rfl, hb, ho⟩ := hrel
    obtain ⟨bA, bcap, rfl⟩ := own_sl ho
    have HB := Lib.hid hb
    have HO := Lib.hid ho
    have BW := Lib.hid (B1.out.trans (hb.mono hs1))
    have hsb := hb.size
    clear hb ho HB2 HO2
    by_cases hlt : p < en
    · have hpn : p < n := by omega
      have hm5 := blk_len C st D (p - st)
      have r0 : wr.cell? ⟨g, p, none⟩ = some (.bool (sn p)) := by rw [HB.out.cell (p := ⟨g, p, none⟩) hg]; exact HGC.out p hpn
      have dl : decide ((p : Int) < (en : Int)) = true := decide_eq_true (by omega)
      have dln : decide (p < en) = true := decide_eq_true hlt
      have HS1 := Lib.hid (show blk C st D (p + 1 - st) = if (p : Int) ∈ D then (if ldB C st D (p : Int) = true then blk C st D (p - st) ++ [((p : Int), (p : Int) + 1)] else setTo (blk C st D (p - st)) ((p : Int) + 1)) else blk C st D (p - st) by
        rw [show p + 1 - st = (p - st) + 1 by omega, blk, show (st : Int) + ((p - st : Nat) : Int) = (p : Int) by omega])
      by_cases hD : (p : Int) ∈ D
      case neg =>
        have hs : sn p = false := by
          rcases h : sn p
          · rfl
          · exact absurd ((GI.out.mem _).2 ((HSN.out p hp1 hlt).1 h)) hD
        rw [hs] at r0
        rw [if_neg hD] at HS1
        clear hs hD
        go_wp2_with fail
        go_roundw
        case rel => exact ⟨p + 1, by omega, by omega, by go_num, HB.out, by rw [HS1.out]; exact HO.out⟩
        case measure => simp [intOf]; omega
      have hs : sn p = true := (HSN.out p hp1 hlt).2 ((GI.out.mem _).1 hD)
      rw [hs] at r0
      rw [if_pos hD] at HS1
      have HLAST := Lib.hid (fun h => blk_last GI.out hD hp1 h)
      have HLDR := Lib.hid (HLR.out p hD)
      have HBI := Lib.hid (blk_inv C st D (p - st))
      obtain ⟨L, hL⟩ : ∃ L, blk C st D (p - st) = L := ⟨_, rfl⟩
      rw [hL] at HS1 HO HLAST hm5 HBI ⊢
      obtain ⟨lb, hlb⟩ : ∃ lb, ldB C st D (p : Int) = lb := ⟨_, rfl⟩
      rw [hlb] at HS1 HLAST HLDR
      have HLE := Lib.hid (show ∀ W, Below wr.heap.size wr W → Calls Tryd.prog 48 #[.slice A n cap, .slice (some ⟨g, 0, none⟩) n n, .int .i64 (st : Int), .int .i64 (en : Int), .int .i64 (p : Int)] W fun e w' => e = .returned (.bool lb) ∧ Below W.heap.size W w' from fun W hW =>
        (leader_any _ _ n c C sn st en p W (HVH.out.below (BW.out.trans (hW.mono BW.out.size))) ((show Bools W1 (.slice (some ⟨g, 0, none⟩) n n) n sn from ⟨g, rfl, hg, HGC.out⟩).below (HB.out.trans (hW.mono hsb))) h1 h2 hn hpn HIM.out HCC.out).mono fun e w' ⟨⟨r, h3, h4⟩, h5⟩ => ⟨by rw [h3, show r = lb from Bool.eq_iff_iff.2 (h4.trans HLDR.out)], h5⟩)
      have HEN := Lib.hid (fun (o : Int) (W : World) => ends_any o W)
      clear hs hL hlb hD
      go_upto_region 8 with fail
      clear r0
      go_cut [8, 10, 64] from 32 to 63 (fun a8 a10 a64 wx => a8 = .slice bA L.length bcap ∧ a10 = .int .i64 (L.length : Int) ∧ a64 = .bool (!lb) ∧ Below wr.heap.size wr wx)
      case first =>
        have HNL := Lib.hid (show (∀ M a, L ≠ M ++ [(a, (p : Int))]) ∨ endB (C ((p - 1 : Nat) : Int)).op = true → lb = true from fun h => by
          cases lb with
          | true => rfl
          | false =>
            obtain ⟨⟨M, a, h3⟩, h4, _⟩ := HLAST.out rfl
            rcases h with h | h
            · exact absurd h3 (h M a)
            · rw [h4] at h; cases h)
        by_cases hL0 : L.length = 0
        · have d : decide ((0 : Int) < (L.length : Int)) = false := decide_eq_false (by omega)
          have dn : decide (0 < L.length) = false := decide_eq_false (by omega)
          have hlb := HNL.out (.inl fun M a e => by rw [e] at hL0; simp at hL0)
          clear hL0
          go_wp2_with fail
          go_meet
          case rel => exact ⟨by simp, by simp, by rw [hlb]; rfl, Below.refl _ _⟩
        obtain ⟨M, pa, pb, rfl⟩ := snoc_pair L (by intro h; rw [h] at hL0; simp at hL0)
        have hrw := HO.out
        rw [show (M ++ [(pa, pb)]).length = M.length + 1 by simp] at hrw hm5 ⊢
        obtain ⟨g', cap', hv, hg1, hcp⟩ := own_at4 hrw (by omega)
        cases hv
        have t4 : wr.cell? ⟨g', M.length * 3 + 1, none⟩ = some (.int .i64 pb) := by rw [hrw.cellAt _ (by omega)]; exact flatB_at M _ _
        have d : decide ((0 : Int) < ((M.length + 1 : Nat) : Int)) = true := decide_eq_true (by omega)
        have dn : decide (0 < M.length + 1) = true := decide_eq_true (by omega)
        clear hrw hL0
        by_cases hpb : pb = (p : Int)
        case neg =>
          have e : (pb == (p : Int)) = false := beq_eq_false_iff_ne.2 hpb
          have hlb := HNL.out (.inl fun M' a e => by
            have := (List.append_inj' e rfl).2
            simp at this
            exact hpb this.2)
          clear hpb
          go_wp2_with fail
          go_meet
          case rel => exact ⟨by simp, by simp, by rw [hlb]; rfl, Below.refl _ _⟩
        subst hpb
        have hsp : st < p := by have := HBI.out.lo (pa, (p : Int)) (by simp); simp only at this; omega
        obtain ⟨q, hq⟩ : ∃ q, p - 1 = q := ⟨_, rfl⟩
        have hqn : q < n := by omega
        have wp1 : IntKind.i64.wrap ((p : Int) - 1) = (q : Int) := by rw [IntWalk.i64_in _ (by omega)]; omega
        obtain ⟨b', off', rfl, hbl', c0, c1, c2, c3, c4⟩ := HVH.out.at_ BW.out hqn
        rw [← HCC.out q hqn] at c0
        rw [hq] at HNL
        have e : ((p : Int) == (p : Int)) = true := beq_self_eq_true _
        clear c1 c2 c3 c4
        have HE := Lib.hid (HEN.out (C (q : Int)).op)
        rcases he : endB (C (q : Int)).op
        · rw [he] at HE
          have HL0 := Lib.hid (HLE.out wr (Below.refl _ _))
          clear he
          go_wp2_with (first | (go_at_call 47; refine (HE.out _).mono ?_; rintro e' W4 ⟨rfl, rfl⟩) | (go_at_call 48; refine HL0.out.mono ?_; rintro e' W5 ⟨rfl, hb5⟩))
          go_meet
          case rel => exact ⟨by simp, by simp, by simp, hb5⟩
        · rw [he] at HE
          have hlb := HNL.out (.inr he)
          clear he
          go_wp2_with (go_at_call 47; refine (HE.out _).mono ?_; rintro e' W4 ⟨rfl, rfl⟩)
          go_meet
          case rel => exact ⟨by simp, by simp, by rw [hlb]; rfl, Below.refl _ _⟩
      case rest =>
        obtain ⟨rfl, rfl, rfl, hbc⟩ := hcut
        have HBc := Lib.hid (HB.out.trans (hbc.mono hsb))
        have HOc := Lib.hid (ownsRow_below HO.out hbc)
        have sc := hbc.size
        clear hbc HLE HLDR HEN HO HB
        cases lb with
        | true =>
          rw [if_pos rfl] at HS1
          go_upto_region 5 with (at_builtin; refine wpList_append_own_at _ rfl (.tmp 72) (.tmp 77) 42 rfl W1.heap.size 105 iB _ 3 40 Tryd.underlying42 hiB hB0 hB1 hB2 rfl (by decide) (.slice bA L.length bcap) _ _ rfl (HOc.out.alloc _) ⟨wc.heap.size, 0, none⟩ 1 1 [.int .i64 (p : Int), .int .i64 ((p : Int) + 1), .slice none 0 0] rfl rfl (cells_new3 _ _ _ _ _) (by simp [Value.oneCell']) (by unfold maxLen; omega) (by omega) (by rw [World.size_alloc]; omega) ?_; intro v' W' hown' hgrow _ hob)
          have FO := Lib.hid hown'
          have FB := Lib.hid ((HBc.out.alloc (by omega) _).grown hgrow (by rw [World.size_alloc]; omega) (fun q hq => (HOc.out.lt q hq).1))
          clear hown' hgrow hob
          go_wp2_with fail
          go_roundw
          case rel =>
            refine ⟨p + 1, by omega, by omega, by go_num, FB.out, ?_⟩
            rw [HS1.out, flatB_snoc, show (L ++ [((p : Int), (p : Int) + 1)]).length = L.length + 1 by simp]
            exact FO.out
          case measure => simp [intOf]; omega
        | false =>
          rw [if_neg (by simp)] at HS1
          obtain ⟨⟨M, pa, hLM⟩, _, _⟩ := HLAST.out rfl
          subst hLM
          rw [setTo_snoc] at HS1
          have hrw := HOc.out
          rw [show (M ++ [(pa, (p : Int))]).length = M.length + 1 by simp] at hrw hm5 ⊢
          obtain ⟨g', cap', hv, hg1, hcp⟩ := own_at4 hrw (by omega)
          cases hv
          have t4 : wc.cell? ⟨g', M.length * 3 + 1, none⟩ = some (.int .i64 (p : Int)) := by rw [hrw.cellAt _ (by omega)]; exact flatB_at M _ _
          have t5 : wc.frozen? ⟨g', M.length * 3 + 1, none⟩ = false := hrw.frozenAt _
          have FO := Lib.hid (hrw.stored (M.length * 3 + 1) (.int .i64 ((p : Int) + 1))).1
          have FB := Lib.hid (HBc.out.setCell (p := ⟨g', M.length * 3 + 1, none⟩) hg1 (.int .i64 ((p : Int) + 1)))
          rw [flatB_set] at FO
          clear hrw
          go_wp2_with fail
          go_roundw
          case rel =>
            refine ⟨p + 1, by omega, by omega, by go_num, FB.out, ?_⟩
            rw [HS1.out, show (M ++ [(pa, (p : Int) + 1)]).length = M.length + 1 by simp]
            exact FO.out
          case measure => simp [intOf]; omega
    · obtain rfl : p = en := by omega
      have dl : decide ((p : Int) < (p : Int)) = false := by simp
      have hBI := blk_inv C st D (p - st)
      have hbl5 := blk_len C st D (p - st)
      obtain ⟨L, hL⟩ : ∃ L, blk C st D (p - st) = L := ⟨_, rfl⟩
      have hGL : GInv C st p D L := by
        have h := GI.out
        rw [show ((p : Int) - (st : Int)).toNat = p - st by omega, hL] at h
        exact h
      have HGL := Lib.hid hGL
      rw [hL] at HO hBI hbl5 ⊢
      have HBI := Lib.hid hBI
      have HLQ := Lib.hid hL
      have hL0 : 0 < L.length := List.length_pos_iff.2 (hBI.ne HSD.out (by omega))
      obtain ⟨go, gcap, hv, hgo, hgc1⟩ := own_at4 HO.out hL0
      cases hv
      have hgc2 : bcap ≤ maxLen := by
        rcases HO.out.2 with ⟨e, _⟩ | ⟨_, _, _, e, _, _, h1, h2, _⟩
        · cases e
        · cases e; exact h2
      unfold maxLen at hgc2
      have HQM := Lib.hid (QM.first HB.out HO.out)
      rw [← nxAt_zero C L] at HQM
      clear hL hGL hBI HO HB BW hsb
      go_upto_region 12 with fail
      clear dl
      go_loopw [11, 12, 13, 14, 15] (fun a11 a12 a13 a14 a15 wr => ∃ (k : Nat) (val : Nat → Value), k ≤ L.length ∧ a11 = .int .i64 (k : Int) ∧ QM W1 wr go bcap L val (nxAt C L k [])) (fun a11 _ _ _ _ _ => L.length - (intOf a11).toNat)
      case atStart => exact ⟨0, _, Nat.zero_le _, rfl, HQM.out⟩
      case round =>
        obtain ⟨k, val, hk, rfl, hQ⟩ := hrel
        have HQ := Lib.hid hQ
        have BW := Lib.hid (B1.out.trans (hQ.bel.mono hs1))
        clear hQ HQM
        by_cases hlt : k < L.length
        · obtain ⟨c0, c1, c2, c2f⟩ := HQ.out.cells hlt
          have hin := HGL.out.range (HBI.out.last _ (List.getElem_mem hlt))
          obtain ⟨q, hq⟩ : ∃ q : Nat, (L[k]).2 - 1 = (q : Int) := ⟨((L[k]).2 - 1).toNat, by omega⟩
          have hq2 : (L[k]).2 = (q : Int) + 1 := by omega
          have hqn : q < n := by omega
          rw [hq2] at c1
          obtain ⟨b', off', rfl, hbl', d0, d1, d2, d3, d4⟩ := HVH.out.at_ BW.out hqn
          have HAF := Lib.hid (after_any (c q) q wr (by omega) (by omega) (HIM.out q hqn).1 (HIM.out q hqn).2)
          rw [← HCC.out q hqn] at d0 d1 d2 d3 d4 HAF
          have HSU := Lib.hid (show ∀ s ∈ succI (C (q : Int)) (q : Int), ∃ p' ∈ L, p'.1 = s from fun s hs => (HGL.out.succ (List.getElem_mem hlt) (by rw [hq]; exact hs)).2)
          have hnx : nextOf C L k = nxl L (succI (C (q : Int)) (q : Int)) := by
            unfold nextOf lastI
            rw [show L.getD k (0, 0) = L[k] by simp [List.getD, List.getElem?_eq_getElem hlt], hq]
          obtain ⟨it, hit⟩ : ∃ it, C (q : Int) = it := ⟨_, rfl⟩
          rw [hit] at d0 d1 d2 d3 d4 HAF HSU hnx
          obtain ⟨S, hS⟩ : ∃ S, succI it (q : Int) = S := ⟨_, rfl⟩
          have hSl : S.length ≤ 2 := by rw [← hS]; exact succI_len _ _
          rw [hS] at HAF HSU hnx
          have HNX := Lib.hid hnx
          have dl : decide ((k : Int) < (L.length : Int)) = true := decide_eq_true (by omega)
          have hq2w : IntKind.i64.wrap ((q : Int) + 1 - 1) = (q : Int) := by rw [IntWalk.i64_in _ (by omega)]; omega
          clear hit hS hin hq hq2 hnx c0 c2 c2f
          go_upto_region 16 with (go_at_call 45; refine HAF.out.mono ?_; rintro e' W3 ⟨⟨sv, rfl, hsv, hown⟩, hb3⟩; obtain ⟨SA, scap, rfl, hsl1, hsl2⟩ := hsv.slice)
          have HSV := Lib.hid hsv
          have HQ3 := Lib.hid (HQ.out.below hb3)
          have hgw := HQ.out.rg
          have HNE := Lib.hid (show ∀ t, (Value.slice SA S.length scap).ownBlock = some t → t ≠ go ∧ (val k).ownBlock ≠ some t from fun t ht => ⟨by have := hown t ht; omega, fun e => by have := hown t ht; have := ((HQ.out.own k hlt).lt t e).2; omega⟩)
          clear hsv hb3 hown c1 d0 d1 d2 d3 d4 HAF dl hq2w HQ
          go_upto_region 17 with fail
          go_loopw [14, 15] (fun a14 a15 wr => ∃ (j : Nat) (val : Nat → Value), j ≤ S.length ∧ a14 = .int .i64 (j : Int) ∧ QM W1 wr go bcap L val (nxAt C L k (nxl L (S.take j))) ∧ Ints wr (.slice SA S.length scap) S ∧ ∀ t, (Value.slice SA S.length scap).ownBlock = some t → t ≠ go ∧ (val k).ownBlock ≠ some t) (fun a14 _ _ => S.length - (intOf a14).toNat)
          case atStart => exact ⟨0, val, Nat.zero_le _, rfl, by simpa [nxl] using HQ3.out, HSV.out, HNE.out⟩
          case round =>
            clear HQ3 HSV HNE val
            obtain ⟨j, val, hj, rfl, hQ, hSI, hne⟩ := hrel
            have HQ := Lib.hid hQ
            have HSI := Lib.hid hSI
            have HNE := Lib.hid hne
            have hrg := hQ.rg
            have hqb := hQ.bel.size
            clear hQ hSI hne
            by_cases hjl : j < S.length
            · obtain ⟨s, nb, noff, hs, hSA, hnb, x1⟩ := HSI.out.at_ (Below.refl _ _) hjl
              subst hSA
              have hfi := pBlks_find (nxAt C L k (nxl L (S.take j))) HBI.out.ordd (fun p' hp' => (HBI.out.lo p' hp').2.1) (HSU.out s (List.mem_of_getElem? hs))
              have HTK := Lib.hid (nxl_take L S j s hs)
              have HFI := Lib.hid (find_any _ _ s wr HQ.out.blks)
              rw [hfi] at HFI
              obtain ⟨t, ht⟩ : ∃ t, idx L s = t := ⟨_, rfl⟩
              rw [ht] at HFI HTK
              obtain ⟨l, hl⟩ : ∃ l, nxl L (S.take j) = l := ⟨_, rfl⟩
              have hll : l.length ≤ 2 := by rw [← hl]; have := nxl_len L (S.take j); simp at this; omega
              rw [hl] at HQ HTK
              have hop := HQ.out.own k hlt
              rw [nxAt_self] at hop
              obtain ⟨c0, c1, c2, c2f⟩ := HQ.out.cells hlt
              obtain ⟨pA, pcap2, hvp⟩ := own_sl hop
              rw [hvp] at hop c2
              have HIN := Lib.hid (in_any _ l (t : Int) wr (own_ints hop))
              have HVP := Lib.hid hvp
              have HOP := Lib.hid hop
              have dl2 : decide ((j : Int) < (S.length : Int)) = true := decide_eq_true (by omega)
              have dk : decide ((L.length : Int) ≤ (k : Int)) = false := decide_eq_false (by omega)
              clear hs hfi ht hl hop hvp c0 c1
              by_cases hm : (t : Int) ∈ l
              · rw [decide_eq_true hm] at HIN
                have HAD := Lib.hid (show addN l (t : Int) = l by unfold addN; rw [if_pos hm])
                clear hm
                go_wp2_with (first | (go_at_call 31; refine HFI.out.mono ?_; rintro e' W4 ⟨rfl, rfl⟩) | (go_at_call 49; refine HIN.out.mono ?_; rintro e' W5 ⟨rfl, rfl⟩))
                go_roundw
                case rel => exact ⟨j + 1, val, by omega, by go_num, by rw [HTK.out, HAD.out]; exact HQ.out, HSI.out, HNE.out⟩
                case measure => simp [intOf]; omega
              · rw [decide_eq_false hm] at HIN
                have HAD := Lib.hid (show addN l (t : Int) = l ++ [(t : Int)] by unfold addN; rw [if_neg hm])
                clear hm
                have HNg := Lib.hid (show some go ≠ Value.ownBlock (.slice pA l.length pcap2) from fun e' => own_ne HOP.out HQ.out.brow (by decide) go e'.symm rfl)
                have FIN := Lib.hid (show ∀ (W2 : World) (v2 : Value), (wr.alloc (.cells #[.int .i64 (t : Int)] 3)).grownBy W2 (Value.slice pA l.length pcap2).ownBlock → W2.ownsRow W1.heap.size 3 1 v2 (l.length + 1) (ivs l ++ [.int .i64 (t : Int)]) → (v2.ownBlock = (Value.slice pA l.length pcap2).ownBlock ∨ v2.ownBlock = some (wr.alloc (.cells #[.int .i64 (t : Int)] 3)).heap.size) →
                    QM W1 (W2.setCell ⟨go, k * 3 + 2, none⟩ v2) go bcap L (upd val k v2) (nxAt C L k (nxl L (S.take (j + 1)))) ∧ Ints (W2.setCell ⟨go, k * 3 + 2, none⟩ v2) (.slice (some ⟨nb, noff, none⟩) S.length scap) S ∧ ∀ t', (Value.slice (some ⟨nb, noff, none⟩) S.length scap).ownBlock = some t' → t' ≠ go ∧ (upd val k v2 k).ownBlock ≠ some t' from fun W2 v2 hg2 ho2 hb2 => by
                  have bD : Below wr.heap.size wr (wr.alloc (.cells #[.int .i64 (t : Int)] 3)) := (Below.refl _ _).alloc (Nat.le_refl _) _
                  refine ⟨?_, ?_, fun t' ht' => ⟨(HNE.out t' ht').1, ?_⟩⟩
                  · have h3 := HQ.out.app (y := (t : Int)) hlt bD (by rw [HVP.out]; exact hg2) (by rw [nxAt_self]; simpa [ivs] using ho2) (by rw [HVP.out]; exact hb2)
                    rw [nxAt_self, nxAt_upd] at h3
                    rw [HTK.out, HAD.out]
                    exact h3
                  · refine ((HSI.out.below bD).grown hg2 (fun t' ht' e => ?_)).grown (grown_setCell W2 go (k * 3 + 2) v2) (fun t' ht' e => (HNE.out t' ht').1 (by simpa using e.symm))
                    have := (HNE.out t' ht').2
                    rw [HVP.out] at this
                    exact this e
                  · rw [show upd val k v2 k = v2 by simp [upd]]
                    intro e
                    rcases hb2 with h | h
                    · rw [h] at e
                      have := (HNE.out t' ht').2
                      rw [HVP.out] at this
                      exact this e
                    · rw [h] at e
                      cases ht'
                      rw [World.size_alloc] at e
                      simp at e
                      omega)
                go_upto_region 18 with (first | (go_at_call 31; refine HFI.out.mono ?_; rintro e' W4 ⟨rfl, rfl⟩) | (go_at_call 49; refine HIN.out.mono ?_; rintro e' W5 ⟨rfl, rfl⟩) | (at_builtin; refine wpList_append_own_at _ rfl (.tmp 123) (.tmp 125) 49 rfl W1.heap.size 3 iI (.int .i64 0) 1 8 Tryd.underlying49 hiI hI0 hI1 hI2 rfl (by decide) (.slice pA l.length pcap2) l.length (ivs l) rfl (HOP.out.alloc _) ⟨wr.heap.size, 0, none⟩ 1 1 [.int .i64 (t : Int)] rfl rfl (cell_one_new _ _ _) (by simp [Value.oneCell']) (by unfold maxLen; omega) (by omega) (by rw [World.size_alloc]; omega) ?_; intro v' W' hown' hgrow _ hob; obtain ⟨g2, cap2, rfl⟩ := ownsRow_succ hown'; have hc1 := hgrow.cell (a := ⟨go, k * 3 + 2, none⟩) (v := .slice pA l.length pcap2) (by simp [go_sem, *]) HNg.out; have hf1 : W'.frozen? ⟨go, k * 3 + 2, none⟩ = false := (World.frozen?_of_block (hgrow.block go (by simp; omega) HNg.out)).trans (by simp [go_sem, *])))
                have F1 := Lib.hid (FIN.out W' _ hgrow hown' hob)
                clear hgrow hown' hob hc1 hf1 c2 c2f x1
                go_wp2_with fail
                go_roundw
                case rel => exact ⟨j + 1, _, by omega, by go_num, F1.out.1, F1.out.2.1, F1.out.2.2⟩
                case measure => simp [intOf]; omega
            · obtain rfl : j = S.length := by omega
              have dl2 : decide ((S.length : Int) < (S.length : Int)) = false := by simp
              rw [List.take_length, ← HNX.out, nxAt_step] at HQ
              go_wp2_with fail
              go_roundw
              case rel => exact ⟨k + 1, val, by omega, by go_num, HQ.out⟩
              case measure => simp [intOf]; omega
        · obtain rfl : k = L.length := by omega
          have dl : decide ((L.length : Int) < (L.length : Int)) = false := by simp
          have hbk := HQ.out.blks
          rw [pBlks_gBlks] at hbk
          have HBK := Lib.hid hbk
          clear hbk
          go_wp2_with fail
          go_ret
          exact ⟨⟨_, rfl, by rw [HLQ.out]; exact HBK.out⟩, BW.out⟩

end Go.Proofs.YtfceodpdipniaaaDoor
