/-
  What is proved here: what the reference's Reach returns.
-/
import Derived.Test.YtfceodpdipniaaaDoorCgR24
namespace Go.Proofs.YtfceodpdipniaaaDoor
open Go.RowKit
set_option linter.unusedVariables false
set_option linter.unusedSimpArgs false

/-- Marks in memory. -/
def Bools (w : World) (v : Value) (n : Nat) (sn : Nat → Bool) : Prop :=
  ∃ g, v = .slice (some ⟨g, 0, none⟩) n n ∧ g < w.heap.size ∧ ∀ i, i < n → w.cell? ⟨g, i, none⟩ = some (.bool (sn i))
theorem Bools.below {w w' : World} {v : Value} {n : Nat} {sn : Nat → Bool} (h : Bools w v n sn) (hb : Below w.heap.size w w') : Bools w' v n sn := by
  obtain ⟨g, h1, h2, h3⟩ := h
  exact ⟨g, h1, by have := hb.size; omega, fun i hi => (hb.cell (p := ⟨g, i, none⟩) h2).trans (h3 i hi)⟩
theorem SM.bools {w wr : World} {g n : Nat} {sn : Nat → Bool} (h : SM w wr g n sn) : Bools wr (.slice (some ⟨g, 0, none⟩) n n) n sn :=
  ⟨g, rfl, (h.row.lt g rfl).2, fun i hi => (h.cells hi).1⟩

set_option maxHeartbeats 4000000 in
set_option maxRecDepth 20000 in
theorem reachR_any (v : Value) (n : Nat) (c : Nat → Ins) (C : Int → Ins) (st en : Nat) (w : World) (HV : Inss w v n c) (h1 : st < en) (h2 : en ≤ n) (hn : n ≤ 5000) (him : ∀ i, i < n → -1000000 ≤ (c i).imm ∧ (c i).imm ≤ 1000000) (hC : ∀ i : Nat, i < n → C (i : Int) = c i) :
    Calls Tryd.prog 44 #[v, .int .i64 (st : Int), .int .i64 (en : Int)] w fun e w' => (∃ (sn : Nat → Bool) (rv : Value), e = .returned rv ∧ Bools w' rv n sn ∧ ∀ i : Nat, st ≤ i → i < en → (sn i = true ↔ Rch C st en (i : Int))) ∧ Below w.heap.size w w' := by
  obtain ⟨A, cap, rfl, hc1, hc2⟩ := HV.slice
  have HVH := Lib.hid HV
  have HIM := Lib.hid him
  have HCC := Lib.hid hC
  clear HV him hC
  obtain ⟨i2, hi2, hs0, hs1, hs2⟩ := info_parts infoBl
  obtain ⟨U1, lm, rowP, gr1⟩ := run_make_full (P := Tryd.prog) w w.heap.size 102 4 i2 (.bool false) 1 Tryd.underlying102 hi2 hs0 hs1 .i64 .i64 n (by rw [hs2]; omega) (by unfold maxLen; omega) (Nat.le_refl _)
  rw [Nat.mul_one, show (Value.bool false).cells = #[Value.bool false] from rfl, toList_madeCells_one] at rowP
  have hS0 : SM w U1 w.heap.size n (fun _ => false) := by
    refine ⟨(Below.refl _ _).grown gr1 (Nat.le_refl _) (fun k hk => by cases hk), ?_⟩
    have e : bvs n (fun _ => false) = List.replicate n (.bool false) := by
      apply List.ext_getElem?
      intro q
      by_cases hq : q < n
      · simp [hq]
      · simp [hq]
    rw [e]
    exact rowP
  obtain ⟨t1, t2⟩ := hS0.cells (show st < n by omega)
  have HS1 := Lib.hid (hS0.set (show st < n by omega) true)
  have HR1 := Lib.hid (show RT C st en n (upd (fun _ => false) st true) from ⟨by simp [upd], fun i hi hs => by
    unfold upd at hs
    split at hs
    · rename_i e; rw [e]; exact Rch.start
    · cases hs⟩)
  have dst : decide ((st : Int) < 0) = false := decide_eq_false (by omega)
  have dst2 : decide ((n : Int) ≤ (st : Int)) = false := decide_eq_false (by omega)
  clear rowP gr1 hS0
  go_enter Tryd.func44, Tryd.ntmps44
  go_upto_region 4 with fail
  obtain ⟨g, hg⟩ : ∃ g, w.heap.size = g := ⟨_, rfl⟩
  rw [hg] at HS1 t1 t2 ⊢
  clear lm t1 t2 dst dst2
  go_loopg [8, 9, 10, 11] (2 * n + 1) (fun gk a8 a9 a10 a11 wr => ∃ (sn : Nat → Bool) (ag : Bool), a8 = .bool ag ∧ 2 * (n - cntS n sn) + (if ag = true then 1 else 0) ≤ gk ∧ RT C st en n sn ∧ SM w wr g n sn ∧ (ag = false → ∀ b' : Nat, st ≤ b' → b' < en → sn b' = true → ∀ t : Nat, (t : Int) ∈ succI (C (b' : Int)) (b' : Int) → st ≤ t → t < en → sn t = true))
  case atStart => exact ⟨_, true, rfl, by simp; omega, HR1.out, HS1.out, fun h => by cases h⟩
  case round =>
    obtain ⟨sn, ag, rfl, hgk, hR, hS, hcl⟩ := hrel
    have HR := Lib.hid hR
    have HS := Lib.hid hS
    have HCL := Lib.hid hcl
    clear HR1 HS1 hR hS hcl
    cases ag with
    | false =>
      have HC := Lib.hid (HCL.out rfl)
      have HALL := Lib.hid (show ∀ i, Rch C st en i → sn i.toNat = true from fun i hi => by
        induction hi with
        | start => simpa using HR.out.zero
        | step h1' h2' h3 h4 ih =>
          rename_i a t
          have hr := h1'.range _ _ _ (by omega)
          refine HC.out a.toNat (by omega) (by omega) ih t.toNat ?_ (by omega) (by omega)
          rw [Int.toNat_of_nonneg (by omega), Int.toNat_of_nonneg (by omega)]
          exact h2')
      clear HCL
      go_wp2_with fail
      go_ret
      exact ⟨⟨sn, _, rfl, HS.out.bools, fun i hi1 hi2 => ⟨fun h => HR.out.sound i (by omega) h, fun h => by simpa using HALL.out i h⟩⟩, HS.out.bel⟩
    | true =>
      clear HCL
      obtain ⟨c0, hc0⟩ : ∃ c0, cntS n sn = c0 := ⟨_, rfl⟩
      have hgk' : 2 * (n - c0) + 1 ≤ gk := by rw [← hc0]; simpa using hgk
      have HP0 := Lib.hid (show PassR C st en n sn c0 false st [] from .inl ⟨rfl, hc0, fun b' h1 h => by omega, fun t ht => by simp at ht⟩)
      clear hgk hc0
      go_upto_region 7 with fail
      obtain ⟨wo, rfl⟩ : ∃ wo : World, wo = wr := ⟨_, rfl⟩
      go_loopw [8, 9, 10, 11] (fun a8 a9 a10 a11 wr => ∃ (b : Nat) (sn : Nat → Bool) (ag : Bool), st ≤ b ∧ b ≤ en ∧ a9 = .int .i64 (b : Int) ∧ a8 = .bool ag ∧ RT C st en n sn ∧ SM w wr g n sn ∧ PassR C st en n sn c0 ag b []) (fun _ a9 _ _ _ => en - (intOf a9).toNat)
      case atStart => exact ⟨st, sn, false, Nat.le_refl _, by omega, rfl, rfl, HR.out, HS.out, HP0.out⟩
      case round =>
        clear HR HS HP0 sn
        obtain ⟨bq, sn, ag, hbq1, hbq, rfl, rfl, hR, hS, hP⟩ := hrel
        have HR := Lib.hid hR
        have HS := Lib.hid hS
        have HP := Lib.hid hP
        clear hR hS hP
        have HNB := Lib.hid (show ∀ (ag : Bool) (sn : Nat → Bool) (l : List Int), PassR C st en n sn c0 ag bq l → (sn bq = false ∨ l = succI (C (bq : Int)) (bq : Int)) → PassR C st en n sn c0 ag (bq + 1) [] from fun ag sn l h3 h4 => by
          rcases h3 with ⟨a1, a2, a3, a4⟩ | h3
          · refine .inl ⟨a1, a2, fun b' hb1 hb' hs t ht ht1 ht2 => ?_, fun t ht => by simp at ht⟩
            by_cases e : b' = bq
            · subst e
              rcases h4 with h4 | h4
              · rw [h4] at hs; cases hs
              · exact a4 t (by rw [h4]; exact ht) ht1 ht2
            · exact a3 b' hb1 (by omega) hs t ht ht1 ht2
          · exact .inr h3)
        by_cases hlt : bq < en
        · have hbn : bq < n := by omega
          obtain ⟨t1, t2⟩ := HS.out.cells hbn
          have dl : decide ((bq : Int) < (en : Int)) = true := decide_eq_true (by omega)
          rcases hsb : sn bq
          · rw [hsb] at t1
            have HN := Lib.hid hsb
            clear hsb
            go_wp2_with fail
            go_roundw
            case rel => exact ⟨bq + 1, sn, ag, by omega, by omega, by go_num, rfl, HR.out, HS.out, HNB.out ag sn [] HP.out (.inl HN.out)⟩
            case measure => simp [intOf]; omega
          rw [hsb] at t1
          have HN := Lib.hid hsb
          clear hsb
          obtain ⟨b, off, rfl, hbl, c0', c1', c2', c3', c4'⟩ := HVH.out.at_ HS.out.bel hbn
          have HAF := Lib.hid (after_any (c bq) bq wr (by omega) (by omega) (HIM.out bq hbn).1 (HIM.out bq hbn).2)
          rw [← HCC.out bq hbn] at c0' c1' c2' c3' c4' HAF
          obtain ⟨it, hit⟩ : ∃ it, C (bq : Int) = it := ⟨_, rfl⟩
          obtain ⟨L, hL⟩ : ∃ L, succI (C (bq : Int)) (bq : Int) = L := ⟨_, rfl⟩
          rw [hL] at HAF HNB
          have HL := Lib.hid hL
          have hLl : L.length ≤ 2 := by rw [← hL]; exact succI_len _ _
          rw [hit] at c0' c1' c2' c3' c4' HAF
          clear hit hL
          go_upto_region 11 with (go_at_call 45; refine HAF.out.mono ?_; rintro e' W3 ⟨⟨lv, rfl, hlv, hown⟩, hb3⟩; obtain ⟨LA, lcap, rfl, hl1, hl2⟩ := hlv.slice)
          have HLV := Lib.hid hlv
          have HOWN := Lib.hid hown
          have HS3 := Lib.hid (HS.out.below hb3)
          have hgl := (HS.out.row.lt g rfl).2
          have hne := Lib.hid (show ∀ q, (Value.slice LA L.length lcap).ownBlock = some q → some g ≠ some q from fun q hq => by have := hown q hq; simp; omega)
          clear hlv hown hb3 c0' c1' c2' c3' c4' t1 t2 HAF dl HOWN
          go_upto_region 12 with fail
          obtain ⟨wq, rfl⟩ : ∃ wq : World, wq = W3 := ⟨_, rfl⟩
          go_loopw [8, 11] (fun a8 a11 wr => ∃ (j : Nat) (sn : Nat → Bool) (ag : Bool), j ≤ L.length ∧ a11 = .int .i64 (j : Int) ∧ a8 = .bool ag ∧ RT C st en n sn ∧ SM w wr g n sn ∧ sn bq = true ∧ Ints wr (.slice LA L.length lcap) L ∧ PassR C st en n sn c0 ag bq (L.take j)) (fun _ a11 _ => L.length - (intOf a11).toNat)
          case atStart => exact ⟨0, sn, ag, Nat.zero_le _, rfl, rfl, HR.out, HS3.out, HN.out, HLV.out, by simpa using HP.out⟩
          case round =>
            clear HR HS HS3 HP HN HLV sn
            obtain ⟨j, sn, ag, hj, rfl, rfl, hR, hS, hbt, hI, hP⟩ := hrel
            have HR := Lib.hid hR
            have HS := Lib.hid hS
            have HP := Lib.hid hP
            have HI := Lib.hid hI
            have HN := Lib.hid hbt
            clear hR hS hP hI hbt
            by_cases hjl : j < L.length
            · obtain ⟨s, nb, noff, hs, rfl, hnb, x1⟩ := HI.out.at_ (Below.refl _ _) hjl
              have HTS := Lib.hid (take_snoc hs)
              have HSM := Lib.hid (List.mem_of_getElem? hs)
              have dl2 : decide ((j : Int) < (L.length : Int)) = true := decide_eq_true (by omega)
              clear hs
              by_cases hin : (st : Int) ≤ s ∧ s < (en : Int)
              · obtain ⟨p, rfl⟩ : ∃ p : Nat, s = (p : Int) := ⟨s.toNat, by omega⟩
                have hp : p < n := by omega
                obtain ⟨p1, p2⟩ := HS.out.cells hp
                have e1 : decide ((st : Int) ≤ (p : Int)) = true := decide_eq_true hin.1
                have e2 : decide ((p : Int) < (en : Int)) = true := decide_eq_true hin.2
                have e1n : decide (st ≤ p) = true := decide_eq_true (by omega)
                have e2n : decide (p < en) = true := decide_eq_true (by omega)
                have HIN := Lib.hid hin
                clear hin
                rcases hsp : sn p
                · rw [hsp] at p1
                  have HSP := Lib.hid hsp
                  clear hsp
                  go_wp2_with fail
                  go_roundw
                  case rel =>
                    refine ⟨j + 1, upd sn p true, true, by omega, by go_num, rfl, HR.out.add hbn HN.out (by rw [HL.out]; exact HSM.out) (by have := HIN.out; omega) (by have := HIN.out; omega), HS.out.set hp true, ?_, ?_, .inr ⟨rfl, ?_⟩⟩
                    · unfold upd; split; rfl; exact HN.out
                    · exact HI.out.grown (HS.out.row.stored p (.bool true)).2 hne.out
                    · rw [cntS_upd hp HSP.out]
                      rcases HP.out with h | h
                      · have := h.2.1; omega
                      · have := h.2; omega
                  case measure => simp [intOf]; omega
                · rw [hsp] at p1
                  have HSP := Lib.hid hsp
                  clear hsp
                  go_wp2_with fail
                  go_roundw
                  case rel =>
                    refine ⟨j + 1, sn, ag, by omega, by go_num, rfl, HR.out, HS.out, HN.out, HI.out, ?_⟩
                    rcases HP.out with ⟨a1, a2, a3, a4⟩ | h
                    · refine .inl ⟨a1, a2, a3, fun t ht ht1 ht2 => ?_⟩
                      rw [HTS.out] at ht
                      rcases List.mem_append.1 ht with h | h
                      · exact a4 t h ht1 ht2
                      · simp at h; rw [show t = p by omega]; exact HSP.out
                    · exact .inr h
                  case measure => simp [intOf]; omega
              · have HIN := Lib.hid hin
                have fin := fun (W : World) => (show PassR C st en n sn c0 ag bq (L.take (j + 1)) from by
                    rcases HP.out with ⟨a1, a2, a3, a4⟩ | h
                    · refine .inl ⟨a1, a2, a3, fun t ht ht1 ht2 => ?_⟩
                      rw [HTS.out] at ht
                      rcases List.mem_append.1 ht with h | h
                      · exact a4 t h ht1 ht2
                      · simp at h; have := HIN.out; omega
                    · exact .inr h)
                have HFI := Lib.hid fin
                clear fin hin
                rcases Classical.em ((st : Int) ≤ s) with h5 | h5
                · have e1 : decide ((st : Int) ≤ s) = true := decide_eq_true h5
                  have e2 : decide (s < (en : Int)) = false := decide_eq_false (fun h => HIN.out ⟨h5, h⟩)
                  clear h5
                  go_wp2_with fail
                  go_roundw
                  case rel => exact ⟨j + 1, sn, ag, by omega, by go_num, rfl, HR.out, HS.out, HN.out, HI.out, HFI.out w⟩
                  case measure => simp [intOf]; omega
                · have e1 : decide ((st : Int) ≤ s) = false := decide_eq_false h5
                  clear h5
                  go_wp2_with fail
                  go_roundw
                  case rel => exact ⟨j + 1, sn, ag, by omega, by go_num, rfl, HR.out, HS.out, HN.out, HI.out, HFI.out w⟩
                  case measure => simp [intOf]; omega
            · obtain rfl : j = L.length := by omega
              have dl2 : decide ((L.length : Int) < (L.length : Int)) = false := by simp
              go_wp2_with fail
              go_roundw
              case rel => exact ⟨bq + 1, sn, ag, by omega, by omega, by go_num, rfl, HR.out, HS.out, HNB.out ag sn L (by simpa using HP.out) (.inr rfl)⟩
              case measure => simp [intOf]; omega
        · obtain rfl : bq = en := by omega
          have dl : decide ((bq : Int) < (bq : Int)) = false := by simp
          have hcl := cntS_le n sn
          go_wp2_with fail
          go_roundg (2 * (n - cntS n sn) + (if ag = true then 1 else 0))
          case measure =>
            rcases HP.out with ⟨a1, a2, _⟩ | ⟨a1, a2⟩
            · rw [a1, a2]; simp; omega
            · rw [a1]; simp; omega
          case rel =>
            refine ⟨sn, ag, rfl, Nat.le_refl _, HR.out, HS.out, fun h b' h1' hy hs t ht ht1 ht2 => ?_⟩
            rcases HP.out with ⟨a1, a2, a3, _⟩ | ⟨a1, _⟩
            · exact a3 b' h1' hy hs t ht ht1 ht2
            · rw [a1] at h; cases h

end Go.Proofs.YtfceodpdipniaaaDoor
