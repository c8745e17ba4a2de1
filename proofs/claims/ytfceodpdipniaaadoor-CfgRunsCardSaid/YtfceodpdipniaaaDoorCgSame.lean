/-
  What is proved here: what the reference's same returns.
-/
import Derived.Test.YtfceodpdipniaaaDoorCgEdges
namespace Go.Proofs.YtfceodpdipniaaaDoor
open Go.RowKit
set_option linter.unusedVariables false
set_option linter.unusedSimpArgs false

set_option maxHeartbeats 1000000 in
theorem same_any (u v : Value) (l1 l2 : List Int) (w : World) (H1 : Ints w u l1) (H2 : Ints w v l2) :
    Calls Tryd.prog 52 #[u, v] w fun e w' => e = .returned (.bool (decide (l1 = l2))) ∧ Below w.heap.size w w' := by
  obtain ⟨A, cap, rfl, h2, h3, h4⟩ := H1
  obtain ⟨A2, cap2, rfl, k2, k3, k4⟩ := H2
  have HC := Lib.hid h4
  have HK := Lib.hid k4
  unfold maxLen at h3 k3
  clear h4 k4
  go_enter Tryd.func52, Tryd.ntmps52
  by_cases hl : l1.length = l2.length
  case neg =>
    have d : ((l1.length : Int) != (l2.length : Int)) = true := by simp; omega
    have HL := Lib.hid hl
    clear hl
    go_wp2_with fail
    go_ret
    exact ⟨ret_bool (by symm; simp; intro h; exact HL.out (by rw [h])), Below.refl _ _⟩
  have d : ((l1.length : Int) != (l2.length : Int)) = false := by simp; omega
  have HL := Lib.hid hl
  clear hl
  go_upto_region 4 with fail
  go_loopw [5] (fun a13 wr => ∃ j : Nat, j ≤ l1.length ∧ a13 = .int .i64 (j : Int) ∧ l1.take j = l2.take j ∧ Below w.heap.size w wr) (fun a13 _ => l1.length - (intOf a13).toNat)
  case atStart => exact ⟨0, Nat.zero_le _, rfl, by simp, Below.refl _ _⟩
  case round =>
    obtain ⟨j, hj, rfl, htk, hb⟩ := hrel
    have HTK := Lib.hid htk
    have HB := Lib.hid hb
    have hs := hb.size
    clear htk hb
    by_cases hlt : j < l1.length
    · have hlt2 : j < l2.length := by have := HL.out; omega
      obtain ⟨b, off, rfl, hb1, hc⟩ := HC.out (by omega)
      obtain ⟨b2, off2, rfl, hb2, hc2⟩ := HK.out (by omega)
      obtain ⟨s, hs1⟩ : ∃ s, l1[j] = s := ⟨_, rfl⟩
      obtain ⟨t, hs2⟩ : ∃ t, l2[j] = t := ⟨_, rfl⟩
      have x1 : wr.cell? ⟨b, off + j, none⟩ = some (.int .i64 s) := by rw [HB.out.cell (p := ⟨b, off + j, none⟩) hb1, hc j hlt, ← hs1]; simp [List.getD, List.getElem?_eq_getElem hlt]
      have x2 : wr.cell? ⟨b2, off2 + j, none⟩ = some (.int .i64 t) := by rw [HB.out.cell (p := ⟨b2, off2 + j, none⟩) hb2, hc2 j hlt2, ← hs2]; simp [List.getD, List.getElem?_eq_getElem hlt2]
      have HS1 := Lib.hid (show l1[j]? = some s by rw [List.getElem?_eq_getElem hlt, hs1])
      have HS2 := Lib.hid (show l2[j]? = some t by rw [List.getElem?_eq_getElem hlt2, hs2])
      have dl : decide ((j : Int) < (l1.length : Int)) = true := by simpa using hlt
      have g1 : b < wr.heap.size := by omega
      have g2 : b2 < wr.heap.size := by omega
      clear hc hc2 hs1 hs2
      by_cases q : s = t
      · have dq : (s != t) = false := by simp [q]
        have HQ := Lib.hid q
        clear q
        go_upto_region 6 with fail
        refine wp_region_ext (by kernel_rfl) (by kernel_rfl) ?_
        repeat (go_big_quiet_step (fail))
        refine wpQuiet_nil ?_
        rintro _ ⟨y, rfl⟩
        go_wp2_with fail
        go_roundw
        case rel => exact ⟨j + 1, by omega, by go_num, take_eq_snoc HS1.out HS2.out HTK.out HQ.out, Ext.below HB.out hs y⟩
        case measure => simp [intOf]; omega
      · have dq : (s != t) = true := by simp [q]
        have HQ := Lib.hid q
        clear q
        go_upto_region 6 with fail
        refine wp_region_ext (by kernel_rfl) (by kernel_rfl) ?_
        repeat (go_big_quiet_step (fail))
        refine wpQuiet_nil ?_
        rintro _ ⟨y, rfl⟩
        go_wp2_with fail
        go_ret
        refine ⟨ret_bool (by symm; simp; intro h; subst h; have h1 := HS1.out; rw [HS2.out] at h1; exact HQ.out (Option.some.inj h1).symm), Ext.below HB.out hs y⟩
    · obtain rfl : j = l1.length := by omega
      have dl : decide ((l1.length : Int) < (l1.length : Int)) = false := by simp
      have e : l1 = l2 := by
        have h := HTK.out
        have hL := HL.out
        rw [List.take_length, hL, List.take_length] at h
        exact h
      have HE := Lib.hid e
      clear e
      go_wp2_with fail
      go_ret
      exact ⟨ret_bool (by symm; simp; exact HE.out), HB.out⟩


end Go.Proofs.YtfceodpdipniaaaDoor
