/-
  What is proved here: what the reference's leader and Leave return.
-/
import Derived.Test.YtfceodpdipniaaaDoorCgR24b
namespace Go.Proofs.YtfceodpdipniaaaDoor
open Go.RowKit
set_option linter.unusedVariables false
set_option linter.unusedSimpArgs false

/-- An instruction that makes 'x' a leader. -/
def MkL (C : Int → Ins) (sn : Nat → Bool) (k : Nat) (x : Int) : Prop := sn k = true ∧ x ∈ succI (C (k : Int)) (k : Int) ∧ (endB (C (k : Int)).op = true ∨ (C (k : Int)).op = 29)
def LeadR (C : Int → Ins) (sn : Nat → Bool) (st en : Nat) (x : Nat) : Prop := x = st ∨ (C (x : Int)).op = 28 ∨ ∃ k, st ≤ k ∧ k < en ∧ MkL C sn k (x : Int)

set_option maxHeartbeats 4000000 in
set_option maxRecDepth 20000 in
theorem leader_any (v rv : Value) (n : Nat) (c : Nat → Ins) (C : Int → Ins) (sn : Nat → Bool) (st en x : Nat) (w : World) (HV : Inss w v n c) (HR : Bools w rv n sn) (h1 : st < en) (h2 : en ≤ n) (hn : n ≤ 5000) (hx : x < n) (him : ∀ i, i < n → -1000000 ≤ (c i).imm ∧ (c i).imm ≤ 1000000) (hC : ∀ i : Nat, i < n → C (i : Int) = c i) :
    Calls Tryd.prog 48 #[v, rv, .int .i64 (st : Int), .int .i64 (en : Int), .int .i64 (x : Int)] w fun e w' => (∃ r : Bool, e = .returned (.bool r) ∧ (r = true ↔ LeadR C sn st en x)) ∧ Below w.heap.size w w' := by
  obtain ⟨A, cap, rfl, hc1, hc2⟩ := HV.slice
  obtain ⟨g, rfl, hg, hgc⟩ := HR
  obtain ⟨b, off, rfl, hbl, c0, c1, c2, c3, c4⟩ := HV.at_ (Below.refl _ _) hx
  have HVH := Lib.hid HV
  have HIM := Lib.hid him
  have HCC := Lib.hid hC
  have HGC := Lib.hid hgc
  rw [← HCC.out x hx] at c0
  clear HV him hC c1 c2 c3 c4 hgc
  have dx1 : decide ((n : Int) ≤ (x : Int)) = false := decide_eq_false (by omega)
  go_enter Tryd.func48, Tryd.ntmps48
  by_cases q1 : x = st
  · have d1 : ((x : Int) == (st : Int)) = true := by simp [q1]
    have d1' : (x == st) = true := by simp [q1]
    have HQ := Lib.hid q1
    clear q1
    go_wp2_with fail
    go_ret
    exact ⟨⟨true, rfl, by simp; exact .inl HQ.out⟩, Below.refl _ _⟩
  have d1 : ((x : Int) == (st : Int)) = false := by simp; omega
  have d1' : (x == st) = false := by simp; omega
  by_cases q2 : (C (x : Int)).op = 28
  · have d2 : ((C (x : Int)).op == 28) = true := by simp [q2]
    have HQ := Lib.hid q2
    clear q2
    go_wp2_with fail
    go_ret
    exact ⟨⟨true, rfl, by simp; exact .inr (.inl HQ.out)⟩, Below.refl _ _⟩
  have d2 : ((C (x : Int)).op == 28) = false := by simp [q2]
  have HQ1 := Lib.hid q1
  have HQ2 := Lib.hid q2
  clear q1 q2
  go_upto_region 4 with fail
  clear c0 d1 d2 d1'
  go_loopw [11] (fun a11 wr => ∃ k : Nat, st ≤ k ∧ k ≤ en ∧ a11 = .int .i64 (k : Int) ∧ (∀ k', st ≤ k' → k' < k → ¬ MkL C sn k' (x : Int)) ∧ Below w.heap.size w wr) (fun a11 _ => en - (intOf a11).toNat)
  case atStart => exact ⟨st, Nat.le_refl _, by omega, rfl, fun k' h1 h2 => by omega, Below.refl _ _⟩
  case round =>
    obtain ⟨k, hk1, hk2, rfl, hno, hb⟩ := hrel
    have HNO := Lib.hid hno
    have HB := Lib.hid hb
    have hsb := hb.size
    clear hno hb
    by_cases hlt : k < en
    · have hkn : k < n := by omega
      obtain ⟨b', off', hA, hbl', c0, c1, c2, c3, c4⟩ := HVH.out.at_ HB.out hkn
      cases hA
      have r0 : wr.cell? ⟨g, k, none⟩ = some (.bool (sn k)) := by rw [HB.out.cell (p := ⟨g, k, none⟩) hg]; exact HGC.out k hkn
      have HAF := Lib.hid (after_any (c k) k wr (by omega) (by omega) (HIM.out k hkn).1 (HIM.out k hkn).2)
      rw [← HCC.out k hkn] at c0 c1 c2 c3 c4 HAF
      obtain ⟨it, hit⟩ : ∃ it, C (k : Int) = it := ⟨_, rfl⟩
      have HMK := Lib.hid (show MkL C sn k (x : Int) ↔ sn k = true ∧ (x : Int) ∈ succI it (k : Int) ∧ (endB it.op = true ∨ it.op = 29) by unfold MkL; rw [hit])
      rw [hit] at c0 c1 c2 c3 c4 HAF
      obtain ⟨L, hL⟩ : ∃ L, succI it (k : Int) = L := ⟨_, rfl⟩
      rw [hL] at HAF HMK
      have dl : decide ((k : Int) < (en : Int)) = true := decide_eq_true (by omega)
      have dln : decide (k < en) = true := decide_eq_true hlt
      have HNX := Lib.hid (show ¬ MkL C sn k (x : Int) → ∀ k', st ≤ k' → k' < k + 1 → ¬ MkL C sn k' (x : Int) from fun h k' h1 h2 => by
        by_cases e : k' = k
        · rw [e]; exact h
        · exact HNO.out k' h1 (by omega))
      clear hit hL
      rcases hsk : sn k
      · rw [hsk] at r0 HMK
        have HN := Lib.hid (show ¬ MkL C sn k (x : Int) by rw [HMK.out]; simp)
        clear hsk
        go_wp2_with fail
        go_roundw
        case rel => exact ⟨k + 1, by omega, by omega, by go_num, HNX.out HN.out, HB.out⟩
        case measure => simp [intOf]; omega
      rw [hsk] at r0 HMK
      clear hsk
      by_cases hm : (x : Int) ∈ L
      case neg =>
        have HN := Lib.hid (show ¬ MkL C sn k (x : Int) by rw [HMK.out]; simp [hm])
        have HD := Lib.hid (show decide ((x : Int) ∈ L) = false from decide_eq_false hm)
        clear hm
        go_wp2_with (first | (go_at_call 45; refine HAF.out.mono ?_; rintro e' W3 ⟨⟨lv, rfl, hlv, hown⟩, hb3⟩) | (go_at_call 49; refine (in_any lv L x W3 hlv).mono ?_; rintro e' W4 ⟨rfl, rfl⟩; rw [HD.out]))
        go_roundw
        case rel => exact ⟨k + 1, by omega, by omega, by go_num, HNX.out HN.out, HB.out.trans (hb3.mono hsb)⟩
        case measure => simp [intOf]; omega
      have HD := Lib.hid (show decide ((x : Int) ∈ L) = true from decide_eq_true hm)
      have HE := Lib.hid (fun W : World => ends_any it.op W)
      have HM := Lib.hid hm
      clear hm
      go_upto_region 7 with (first | (go_at_call 45; refine HAF.out.mono ?_; rintro e' W3 ⟨⟨lv, rfl, hlv, hown⟩, hb3⟩) | (go_at_call 49; refine (in_any lv L x W3 hlv).mono ?_; rintro e' W4 ⟨rfl, rfl⟩; rw [HD.out]))
      have HB3 := Lib.hid (HB.out.trans (hb3.mono hsb))
      have hbw : b < wr.heap.size := by omega
      have c0' : W3.cell? ⟨b, off + k * 5, none⟩ = some (.int .u8 it.op) := by rw [hb3.cell (p := ⟨b, off + k * 5, none⟩) hbw]; exact c0
      clear hb3 hlv hown c0 c1 c2 c3 c4 HAF r0 dl dln
      rcases he : endB it.op
      case true =>
        rw [he] at HE
        have HN := Lib.hid (show MkL C sn k (x : Int) by rw [HMK.out]; exact ⟨by first | rfl | trivial, HM.out, .inl he⟩)
        clear he
        go_wp2_with (go_at_call 47; refine (HE.out _).mono ?_; rintro e' W4 ⟨rfl, rfl⟩)
        go_ret
        exact ⟨⟨true, rfl, by simp; exact .inr (.inr ⟨k, hk1, hlt, HN.out⟩)⟩, HB3.out⟩
      rw [he] at HE
      by_cases q : it.op = 29
      · have d : (it.op == 29) = true := by simp [q]
        have HN := Lib.hid (show MkL C sn k (x : Int) by rw [HMK.out]; exact ⟨by first | rfl | trivial, HM.out, .inr q⟩)
        clear he q
        go_wp2_with (go_at_call 47; refine (HE.out _).mono ?_; rintro e' W4 ⟨rfl, rfl⟩)
        go_ret
        exact ⟨⟨true, rfl, by simp; exact .inr (.inr ⟨k, hk1, hlt, HN.out⟩)⟩, HB3.out⟩
      · have d : (it.op == 29) = false := by simp [q]
        have HN := Lib.hid (show ¬ MkL C sn k (x : Int) by rw [HMK.out]; simp [he, q])
        clear he q
        go_wp2_with (go_at_call 47; refine (HE.out _).mono ?_; rintro e' W4 ⟨rfl, rfl⟩)
        go_roundw
        case rel => exact ⟨k + 1, by omega, by omega, by go_num, HNX.out HN.out, HB3.out⟩
        case measure => simp [intOf]; omega
    · obtain rfl : k = en := by omega
      have dl : decide ((k : Int) < (k : Int)) = false := by simp
      go_wp2_with fail
      go_ret
      refine ⟨⟨false, rfl, ?_⟩, HB.out⟩
      simp only [Bool.false_eq_true, false_iff]
      rintro (h | h | ⟨k', h3, h4, h5⟩)
      · exact HQ1.out h
      · exact HQ2.out h
      · exact HNO.out k' h3 h4 h5

/-- A successor of the instruction leaves the range. -/
def LvR (C : Int → Ins) (sn : Nat → Bool) (st en k : Nat) : Prop := sn k = true ∧ Bads C st en (k : Int)

set_option maxHeartbeats 4000000 in
set_option maxRecDepth 20000 in
theorem leave_any (v : Value) (n : Nat) (c : Nat → Ins) (C : Int → Ins) (st en : Nat) (w : World) (HV : Inss w v n c) (h1 : st < en) (h2 : en ≤ n) (hn : n ≤ 5000) (him : ∀ i, i < n → -1000000 ≤ (c i).imm ∧ (c i).imm ≤ 1000000) (hC : ∀ i : Nat, i < n → C (i : Int) = c i) :
    Calls Tryd.prog 15 #[v, .int .i64 (st : Int), .int .i64 (en : Int)] w fun e w' => (∃ r : Int, e = .returned (.int .i64 r) ∧ ((r = -1 ∧ ∀ k : Nat, st ≤ k → k < en → Rch C st en (k : Int) → ¬ Bads C st en (k : Int)) ∨ (∃ k : Nat, r = (k : Int) ∧ st ≤ k ∧ k < en ∧ Rch C st en (k : Int) ∧ Bads C st en (k : Int) ∧ ∀ k' : Nat, st ≤ k' → k' < k → Rch C st en (k' : Int) → ¬ Bads C st en (k' : Int)))) ∧ Below w.heap.size w w' := by
  obtain ⟨A, cap, rfl, hc1, hc2⟩ := HV.slice
  have HRE := Lib.hid (reachR_any _ n c C st en w HV h1 h2 hn him hC)
  have HVH := Lib.hid HV
  have HIM := Lib.hid him
  have HCC := Lib.hid hC
  clear HV him hC
  go_enter Tryd.func15, Tryd.ntmps15
  go_upto_region 3 with (go_at_call 44; refine HRE.out.mono ?_; rintro e' W1 ⟨⟨sn, rv, rfl, hB, hsn⟩, hb1⟩; obtain ⟨g, rfl, hg, hgc⟩ := hB)
  have HGC := Lib.hid hgc
  have HSN := Lib.hid hsn
  have B1 := Lib.hid hb1
  have hs1 := hb1.size
  clear HRE hgc hsn hb1
  go_loopw [8, 9, 10] (fun a8 a9 a10 wr => ∃ k : Nat, st ≤ k ∧ k ≤ en ∧ a8 = .int .i64 (k : Int) ∧ (∀ k' : Nat, st ≤ k' → k' < k → Rch C st en (k' : Int) → ¬ Bads C st en (k' : Int)) ∧ Below W1.heap.size W1 wr) (fun a8 _ _ _ => en - (intOf a8).toNat)
  case atStart => exact ⟨st, Nat.le_refl _, by omega, rfl, fun k' h1 h2 => by omega, Below.refl _ _⟩
  case round =>
    obtain ⟨k, hk1, hk2, rfl, hno, hb⟩ := hrel
    have HNO := Lib.hid hno
    have HB := Lib.hid hb
    have BW := Lib.hid (B1.out.trans (hb.mono hs1))
    have hsb := hb.size
    clear hno hb
    by_cases hlt : k < en
    · have hkn : k < n := by omega
      obtain ⟨b', off', rfl, hbl', c0, c1, c2, c3, c4⟩ := HVH.out.at_ BW.out hkn
      have r0 : wr.cell? ⟨g, k, none⟩ = some (.bool (sn k)) := by rw [HB.out.cell (p := ⟨g, k, none⟩) hg]; exact HGC.out k hkn
      have hrk := HSN.out k hk1 hlt
      have HAF := Lib.hid (after_any (c k) k wr (by omega) (by omega) (HIM.out k hkn).1 (HIM.out k hkn).2)
      rw [← HCC.out k hkn] at c0 c1 c2 c3 c4 HAF
      have dl : decide ((k : Int) < (en : Int)) = true := decide_eq_true (by omega)
      have dln : decide (k < en) = true := decide_eq_true hlt
      have HNX := Lib.hid (show (Rch C st en (k : Int) → ¬ Bads C st en (k : Int)) → ∀ k' : Nat, st ≤ k' → k' < k + 1 → Rch C st en (k' : Int) → ¬ Bads C st en (k' : Int) from fun h k' h1 h2 => by
        by_cases e : k' = k
        · rw [e]; exact h
        · exact HNO.out k' h1 (by omega))
      rcases hsk : sn k
      · rw [hsk] at r0 hrk
        have HN := Lib.hid (show ¬ Rch C st en (k : Int) from fun h => by have := hrk.2 h; cases this)
        clear hsk hrk
        go_wp2_with fail
        go_roundw
        case rel => exact ⟨k + 1, by omega, by omega, by go_num, HNX.out (fun h => absurd h HN.out), HB.out⟩
        case measure => simp [intOf]; omega
      rw [hsk] at r0 hrk
      have HRK := Lib.hid (hrk.1 rfl)
      have HBD := Lib.hid (show Bads C st en (k : Int) ↔ ∃ t ∈ succI (C (k : Int)) (k : Int), ¬ ((st : Int) ≤ t ∧ t < (en : Int)) from Iff.rfl)
      obtain ⟨it, hit⟩ : ∃ it, C (k : Int) = it := ⟨_, rfl⟩
      rw [hit] at c0 c1 c2 c3 c4 HAF HBD
      obtain ⟨L, hL⟩ : ∃ L, succI it (k : Int) = L := ⟨_, rfl⟩
      rw [hL] at HAF HBD
      clear hit hL hsk hrk
      go_upto_region 8 with (go_at_call 45; refine HAF.out.mono ?_; rintro e' W3 ⟨⟨lv, rfl, hlv, hown⟩, hb3⟩; obtain ⟨LA, lcap, rfl, hl1, hl2⟩ := hlv.slice)
      have HLV := Lib.hid hlv
      have HB3 := Lib.hid (HB.out.trans (hb3.mono hsb))
      have BW3 := Lib.hid (BW.out.trans (hb3.mono BW.out.size))
      clear hb3 hlv hown c0 c1 c2 c3 c4 HAF r0 dl dln
      obtain ⟨wq, rfl⟩ : ∃ wq : World, wq = W3 := ⟨_, rfl⟩
      go_loopw [10] (fun a10 wr => ∃ j : Nat, j ≤ L.length ∧ a10 = .int .i64 (j : Int) ∧ (∀ t ∈ L.take j, (st : Int) ≤ t ∧ t < (en : Int)) ∧ wr = wq) (fun a10 _ => L.length - (intOf a10).toNat)
      case atStart => exact ⟨0, Nat.zero_le _, rfl, by simp, rfl⟩
      case round =>
        obtain ⟨j, hj, rfl, hall, hw⟩ := hrel
        have HA := Lib.hid hall
        subst hw
        clear hall
        by_cases hjl : j < L.length
        · obtain ⟨s, nb, noff, hs, rfl, hnb, x1⟩ := HLV.out.at_ (Below.refl _ _) hjl
          have HTS := Lib.hid (take_snoc hs)
          have HSM := Lib.hid (List.mem_of_getElem? hs)
          have dl2 : decide ((j : Int) < (L.length : Int)) = true := decide_eq_true (by omega)
          clear hs
          by_cases h5 : s < (st : Int)
          · have e1 : decide (s < (st : Int)) = true := decide_eq_true h5
            have HBB := Lib.hid (show Bads C st en (k : Int) from HBD.out.2 ⟨s, HSM.out, fun h => by omega⟩)
            clear h5
            go_wp2_with fail
            go_ret
            exact ⟨⟨_, rfl, .inr ⟨k, rfl, hk1, hlt, HRK.out, HBB.out, HNO.out⟩⟩, BW3.out⟩
          by_cases h6 : (en : Int) ≤ s
          · have e1 : decide (s < (st : Int)) = false := decide_eq_false h5
            have e2 : decide ((en : Int) ≤ s) = true := decide_eq_true h6
            have HBB := Lib.hid (show Bads C st en (k : Int) from HBD.out.2 ⟨s, HSM.out, fun h => by omega⟩)
            clear h5 h6
            go_wp2_with fail
            go_ret
            exact ⟨⟨_, rfl, .inr ⟨k, rfl, hk1, hlt, HRK.out, HBB.out, HNO.out⟩⟩, BW3.out⟩
          · have e1 : decide (s < (st : Int)) = false := decide_eq_false h5
            have e2 : decide ((en : Int) ≤ s) = false := decide_eq_false h6
            have HIN := Lib.hid (show (st : Int) ≤ s ∧ s < (en : Int) by omega)
            clear h5 h6
            go_wp2_with fail
            go_roundw
            case rel =>
              refine ⟨j + 1, by omega, by go_num, fun t ht => ?_, by first | rfl | trivial⟩
              rw [HTS.out] at ht
              rcases List.mem_append.1 ht with h | h
              · exact HA.out t h
              · simp at h; rw [h]; exact HIN.out
            case measure => simp [intOf]; omega
        · obtain rfl : j = L.length := by omega
          have dl2 : decide ((L.length : Int) < (L.length : Int)) = false := by simp
          rw [List.take_length] at HA
          have HN := Lib.hid (show ¬ Bads C st en (k : Int) from fun h => by obtain ⟨t, ht, hn'⟩ := HBD.out.1 h; exact hn' (HA.out t ht))
          go_wp2_with fail
          go_roundw
          case rel => exact ⟨k + 1, by omega, by omega, by go_num, HNX.out (fun _ => HN.out), HB3.out⟩
          case measure => simp [intOf]; omega
    · obtain rfl : k = en := by omega
      have dl : decide ((k : Int) < (k : Int)) = false := by simp
      go_wp2_with fail
      go_ret
      exact ⟨⟨_, rfl, .inl ⟨rfl, HNO.out⟩⟩, BW.out⟩

end Go.Proofs.YtfceodpdipniaaaDoor
