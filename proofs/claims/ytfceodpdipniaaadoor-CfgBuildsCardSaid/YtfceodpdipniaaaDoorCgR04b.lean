/-
  What is proved here: what ontimeref04's Encode and Decode return.
-/
import Derived.Test.YtfceodpdipniaaaDoorCgR04
namespace Go.Proofs.YtfceodpdipniaaaDoor
open Go.RowKit
set_option linter.unusedVariables false
set_option linter.unusedSimpArgs false

set_option maxHeartbeats 2000000 in
theorem encode4_any (i : Ins) (k : Nat) (hg : Good i k) (w : World) : Calls Tryd.prog 61 #[.agg #[.int .u8 i.op, .int .i64 i.a, .int .i64 i.b, .int .i64 i.c, .int .i64 i.imm]] w fun e w' => e = .returned (.int .u32 (numI i)) ∧ Below w.heap.size w w' := by
  have hk := hg.lt
  have hb := imm_in k hk
  have hop := hg.op
  have HL := Lib.hid (loHi k hk)
  have HN := Lib.hid hg.num_in
  have h1 := hg.a
  have h2 := hg.b
  have h3 := hg.c
  have h4 := hg.imm
  obtain ⟨_, _, _, n4, n5, n6⟩ := nS k hk
  have a1 : 0 ≤ i.a ∧ i.a ≤ 15 := by omega
  have a2 : 0 ≤ i.b ∧ i.b ≤ 15 := by omega
  have a3 : 0 ≤ i.c ∧ i.c ≤ 15 := by omega
  have HI := Lib.hid h4
  have a4 : -131072 ≤ i.imm ∧ i.imm ≤ 131071 := by omega
  have HF := Lib.hid (fun W => format_any k hk W)
  clear h1 h2 h3 h4 n4 n5 n6 hb hg
  unfold numI at HN ⊢
  obtain ⟨op, a, b, c, imm⟩ := i
  simp only at hop a1 a2 a3 a4 HI HN ⊢
  subst hop
  obtain ⟨z, hz0⟩ : ∃ z, (if imm < 0 then imm + 262144 else imm) = z := ⟨_, rfl⟩
  rw [hz0] at HN ⊢
  have HZ := Lib.hid hz0
  clear hz0
  obtain ⟨lo, hlo⟩ : ∃ lo, fLo k = lo := ⟨_, rfl⟩
  obtain ⟨hi, hhi⟩ : ∃ hi, fHi k = hi := ⟨_, rfl⟩
  obtain ⟨fs, hfs⟩ : ∃ fs : ByteArray, (⟨(fStr k).toArray⟩ : ByteArray) = fs := ⟨_, rfl⟩
  unfold FmtIs at HF
  have HF' := Lib.hid (show ∀ W, Calls Tryd.prog 59 #[.int .u8 (k : Int)] W fun e w' => e = .returned (.tuple #[.string fs, .int .i64 lo, .int .i64 hi, .bool true]) ∧ W = w' from fun W => by rw [← hfs, ← hlo, ← hhi]; exact HF.out W)
  rw [hlo, hhi] at HL
  clear hlo hhi hfs HF
  have u1 : IntKind.u32.wrap (k : Int) = (k : Int) := IntWalk.u32_in _ (by omega)
  have u2 : IntKind.u32.wrap ((k : Int) * 67108864) = (k : Int) * 67108864 := IntWalk.u32_in _ (by omega)
  have u3 : IntKind.u32.wrap a = a := IntWalk.u32_in _ (by omega)
  have u4 : IntKind.u32.wrap (a * 4194304) = a * 4194304 := IntWalk.u32_in _ (by omega)
  have u5 : IntKind.u32.wrap ((k : Int) * 67108864 + a * 4194304) = (k : Int) * 67108864 + a * 4194304 := IntWalk.u32_in _ (by omega)
  have u6 : IntKind.u32.wrap b = b := IntWalk.u32_in _ (by omega)
  have u7 : IntKind.u32.wrap (b * 262144) = b * 262144 := IntWalk.u32_in _ (by omega)
  have u8 : IntKind.u32.wrap ((k : Int) * 67108864 + a * 4194304 + b * 262144) = (k : Int) * 67108864 + a * 4194304 + b * 262144 := IntWalk.u32_in _ (by omega)
  have u9 : IntKind.u32.wrap c = c := IntWalk.u32_in _ (by omega)
  have u10 : IntKind.u32.wrap (c * 16384) = c * 16384 := IntWalk.u32_in _ (by omega)
  have u11 : IntKind.u32.wrap ((k : Int) * 67108864 + a * 4194304 + b * 262144 + c * 16384) = (k : Int) * 67108864 + a * 4194304 + b * 262144 + c * 16384 := IntWalk.u32_in _ (by omega)
  rcases HL.out with ⟨l1, l2, l3⟩ | ⟨l1, l2, l3⟩
  · have d : decide (hi < lo) = true := decide_eq_true l1
    have hz : imm = 0 := by have := HI.out; omega
    subst hz
    clear l1 l2 l3 HL
    go_enter Tryd.func61, Tryd.ntmps61
    go_wp2_with (go_at_call 59; refine (HF'.out _).mono ?_; rintro e w' ⟨rfl, rfl⟩)
    go_ret
    exact ⟨ret_int (by rw [← HZ.out]; simp), (Below.refl _ _).alloc (Nat.le_refl _) _⟩
  · have d : decide (hi < lo) = false := decide_eq_false (by omega)
    clear l1 l2 l3 HL
    by_cases hneg : imm < 0
    · have d2 : decide (imm < 0) = true := decide_eq_true hneg
      have u12 : IntKind.i64.wrap (imm + 262144) = imm + 262144 := IntWalk.i64_in _ (by omega)
      have u13 : IntKind.u32.wrap (imm + 262144) = imm + 262144 := IntWalk.u32_in _ (by omega)
      have u14 : IntKind.u32.wrap ((k : Int) * 67108864 + a * 4194304 + b * 262144 + c * 16384 + (imm + 262144)) = (k : Int) * 67108864 + a * 4194304 + b * 262144 + c * 16384 + (imm + 262144) := IntWalk.u32_in _ (by have := HN.out; have := HZ.out; rw [if_pos hneg] at this; omega)
      have HH := Lib.hid (show imm + 262144 = z from by rw [← HZ.out, if_pos hneg])
      clear hneg
      go_enter Tryd.func61, Tryd.ntmps61
      go_wp2_with (go_at_call 59; refine (HF'.out _).mono ?_; rintro e w' ⟨rfl, rfl⟩)
      go_ret
      exact ⟨ret_int (by rw [HH.out]), (Below.refl _ _).alloc (Nat.le_refl _) _⟩
    · have d2 : decide (imm < 0) = false := decide_eq_false hneg
      have u13 : IntKind.u32.wrap imm = imm := IntWalk.u32_in _ (by omega)
      have u14 : IntKind.u32.wrap ((k : Int) * 67108864 + a * 4194304 + b * 262144 + c * 16384 + imm) = (k : Int) * 67108864 + a * 4194304 + b * 262144 + c * 16384 + imm := IntWalk.u32_in _ (by have := HN.out; have := HZ.out; rw [if_neg hneg] at this; omega)
      have HH := Lib.hid (show imm = z from by rw [← HZ.out, if_neg hneg])
      clear hneg
      go_enter Tryd.func61, Tryd.ntmps61
      go_wp2_with (go_at_call 59; refine (HF'.out _).mono ?_; rintro e w' ⟨rfl, rfl⟩)
      go_ret
      exact ⟨ret_int (by rw [HH.out]), (Below.refl _ _).alloc (Nat.le_refl _) _⟩

/-- What Decode reads. -/
def ref4 (x : Int) (k : Nat) : Ins := ⟨(k : Int), x / 4194304 % 16, if 1 < (fStr k).length then x / 262144 % 16 else 0, if 2 < (fStr k).length then x / 16384 % 16 else 0, if fLo k ≤ fHi k then (if 131071 < x % 262144 then x % 262144 - 262144 else x % 262144) else 0⟩
def Shp.isImm : Shp → Bool | .non => false | .abc => false | .abi => true | .ai => true | .i => true
theorem shp_lo : ∀ k, k < 30 → decide (fLo k ≤ fHi k) = (shpOf k).isImm := by decide
theorem ref4_num {i : Ins} {k : Nat} (h : Good i k) : ref4 (numI i) k = i := by
  have hk := h.lt
  have hi := imm_in _ hk
  have ha := h.a
  have hb := h.b
  have hc := h.c
  have hm := h.imm
  have hop := h.op
  have hL := loHi k hk
  have hS := shp_lo k hk
  obtain ⟨op, a, b, c, imm⟩ := i
  simp only at ha hb hc hm hop
  unfold ref4 numI
  simp only [Ins.mk.injEq, hop]
  cases hs : shpOf k <;> rw [hs] at ha hb hc hS <;> simp only [Shp.aHi, Shp.bHi, Shp.cHi, Shp.isImm, decide_eq_true_eq, decide_eq_false_iff_not, fStr, hs, List.length_cons, List.length_nil] at ha hb hc hS ⊢
  all_goals
    simp only [hS, if_true, if_false, true_and, Nat.reduceAdd, Nat.reduceLT]
    split <;> (try split) <;> (refine ⟨?_, ?_, ?_, ?_⟩ <;> omega)

end Go.Proofs.YtfceodpdipniaaaDoor
