/-
  What is proved here: the law IntervalApply returns true for every input.
-/
import Derived.Test.YtjkjcnamlankoaaIvRef9b
import Derived.Test.YtjkjcnamlankoaaIvRef9c
import Derived.Test.YtjkjcnamlankoaaIvRef9d
import Derived.Test.YtjkjcnamlankoaaLawSound
import Derived.Deep.RegionHeld3
import Derived.Deep.DeepCutAuto
namespace Go.Proofs.Ytjkjcnamlankoaa
open Go.ChangeShapes Go.WideShapes Go.ChangeAt Go.RowKit
set_option linter.unusedVariables false
set_option linter.unusedSimpArgs false

theorem rap_gen (op xl xh yl yh : Int) (w : World) (hx1 : -2147483648 ≤ xl) (hx2 : xl ≤ 2147483647) (hx3 : -2147483648 ≤ xh) (hx4 : xh ≤ 2147483647) (hy1 : -2147483648 ≤ yl) (hy2 : yl ≤ 2147483647) (hy3 : -2147483648 ≤ yh) (hy4 : yh ≤ 2147483647) (h1 : 6 ≤ op) (h2 : op ≤ 23) (hxe : xl ≤ xh) (hye : yl ≤ yh) (s : ¬ (xl = xh ∧ yl = yh)) :
    Calls Try.prog 12 #[.int .u8 op, .agg #[.int .i32 xl, .int .i32 xh], .agg #[.int .i32 yl, .int .i32 yh]] w fun e w' => e = .returned (.agg #[.int .i32 (genI op (xl, xh) (yl, yh)).1, .int .i32 (genI op (xl, xh) (yl, yh)).2]) ∧ Below w.heap.size w w' := by
  have ha := apart_emp xl xh yl yh hxe hye
  have h : op = 6 ∨ op = 7 ∨ op = 8 ∨ op = 9 ∨ op = 10 ∨ op = 11 ∨ op = 12 ∨ op = 13 ∨ op = 14 ∨ op = 15 ∨ op = 16 ∨ op = 17 ∨ op = 18 ∨ op = 19 ∨ op = 20 ∨ op = 21 ∨ op = 22 ∨ op = 23 := by omega
  by_cases e : xl = xh
  · have hs : (xl == xh) = true := by simpa using e
    have hs' : (yl == yh) = false := by simp; omega
    rcases h with rfl | rfl | rfl | rfl | rfl | rfl | rfl | rfl | rfl | rfl | rfl | rfl | rfl | rfl | rfl | rfl | rfl | rfl
    · exact rap_6_s xl xh yl yh w hx1 hx2 hx3 hx4 hy1 hy2 hy3 hy4 hxe hye hs hs'
    · exact rap_7_s xl xh yl yh w hx1 hx2 hx3 hx4 hy1 hy2 hy3 hy4 hxe hye hs hs'
    · exact rap_8_s xl xh yl yh w hx1 hx2 hx3 hx4 hy1 hy2 hy3 hy4 hxe hye hs hs'
    · by_cases z : yl = 0 ∧ yh = 0
      · refine (rap_9z_s xl xh yl yh w hx1 hx2 hx3 hx4 hy1 hy2 hy3 hy4 hxe hye hs hs' (by simpa using z)).mono fun e' w' ⟨q, hb⟩ => ⟨q.trans ?_, hb⟩
        rw [show genI 9 (xl, xh) (yl, yh) = divI (xl, xh) (yl, yh) from rfl, divI, if_pos z]
      · exact rap_9_s xl xh yl yh w hx1 hx2 hx3 hx4 hy1 hy2 hy3 hy4 hxe hye hs hs' (by simpa using z)
    · by_cases z : yl = 0 ∧ yh = 0
      · refine (rap_10z_s xl xh yl yh w hx1 hx2 hx3 hx4 hy1 hy2 hy3 hy4 hxe hye hs hs' (by simpa using z)).mono fun e' w' ⟨q, hb⟩ => ⟨q.trans ?_, hb⟩
        rw [show genI 10 (xl, xh) (yl, yh) = modI (xl, xh) (yl, yh) from rfl, modI, if_pos z]
      · exact rap_10_s xl xh yl yh w hx1 hx2 hx3 hx4 hy1 hy2 hy3 hy4 hxe hye hs hs' (by simpa using z)
    · exact rap_11_s xl xh yl yh w hx1 hx2 hx3 hx4 hy1 hy2 hy3 hy4 hxe hye hs hs'
    · exact rap_12_s xl xh yl yh w hx1 hx2 hx3 hx4 hy1 hy2 hy3 hy4 hxe hye hs hs'
    · exact rap_13_s xl xh yl yh w hx1 hx2 hx3 hx4 hy1 hy2 hy3 hy4 hxe hye hs hs'
    · exact rap_14_s xl xh yl yh w hx1 hx2 hx3 hx4 hy1 hy2 hy3 hy4 hxe hye hs hs'
    · exact rap_15_s xl xh yl yh w hx1 hx2 hx3 hx4 hy1 hy2 hy3 hy4 hxe hye hs hs'
    · refine (rap_16_s xl xh yl yh w hx1 hx2 hx3 hx4 hy1 hy2 hy3 hy4 hxe hye hs hs').mono fun e' w' ⟨q, hb⟩ => ⟨q.trans ?_, hb⟩
      rw [ha]
      rfl
    · refine (rap_17_s xl xh yl yh w hx1 hx2 hx3 hx4 hy1 hy2 hy3 hy4 hxe hye hs hs').mono fun e' w' ⟨q, hb⟩ => ⟨q.trans ?_, hb⟩
      rw [ha]
      rfl
    · exact rap_18_s xl xh yl yh w hx1 hx2 hx3 hx4 hy1 hy2 hy3 hy4 hxe hye hs hs'
    · exact rap_19_s xl xh yl yh w hx1 hx2 hx3 hx4 hy1 hy2 hy3 hy4 hxe hye hs hs'
    · exact rap_20_s xl xh yl yh w hx1 hx2 hx3 hx4 hy1 hy2 hy3 hy4 hxe hye hs hs'
    · exact rap_21_s xl xh yl yh w hx1 hx2 hx3 hx4 hy1 hy2 hy3 hy4 hxe hye hs hs'
    · cases bx : (decide (xl ≤ 0) && decide (0 ≤ xh)) <;> cases zx : (xl == 0 && xh == 0)
      · refine (rap_22ff_s xl xh yl yh w hx1 hx2 hx3 hx4 hy1 hy2 hy3 hy4 hxe hye hs hs' _ _ (Lib.hid bx) (Lib.hid rfl) zx rfl).mono fun e' w' ⟨q, hb⟩ => ⟨q.trans ?_, hb⟩
        rw [show genI 22 (xl, xh) (yl, yh) = logI 22 (xl, xh) (yl, yh) from rfl]
        simp only [logI, has0, is0, bx, zx]
        rfl
      · refine (rap_22ft_s xl xh yl yh w hx1 hx2 hx3 hx4 hy1 hy2 hy3 hy4 hxe hye hs hs' _ _ (Lib.hid bx) (Lib.hid rfl) zx rfl).mono fun e' w' ⟨q, hb⟩ => ⟨q.trans ?_, hb⟩
        rw [show genI 22 (xl, xh) (yl, yh) = logI 22 (xl, xh) (yl, yh) from rfl]
        simp only [logI, has0, is0, bx, zx]
        rfl
      · refine (rap_22tf_s xl xh yl yh w hx1 hx2 hx3 hx4 hy1 hy2 hy3 hy4 hxe hye hs hs' _ _ (Lib.hid bx) (Lib.hid rfl) zx rfl).mono fun e' w' ⟨q, hb⟩ => ⟨q.trans ?_, hb⟩
        rw [show genI 22 (xl, xh) (yl, yh) = logI 22 (xl, xh) (yl, yh) from rfl]
        simp only [logI, has0, is0, bx, zx]
        rfl
      · refine (rap_22tt_s xl xh yl yh w hx1 hx2 hx3 hx4 hy1 hy2 hy3 hy4 hxe hye hs hs' _ _ (Lib.hid bx) (Lib.hid rfl) zx rfl).mono fun e' w' ⟨q, hb⟩ => ⟨q.trans ?_, hb⟩
        rw [show genI 22 (xl, xh) (yl, yh) = logI 22 (xl, xh) (yl, yh) from rfl]
        simp only [logI, has0, is0, bx, zx]
        rfl
    · cases bx : (decide (xl ≤ 0) && decide (0 ≤ xh)) <;> cases zx : (xl == 0 && xh == 0)
      · refine (rap_23ff_s xl xh yl yh w hx1 hx2 hx3 hx4 hy1 hy2 hy3 hy4 hxe hye hs hs' _ _ (Lib.hid bx) (Lib.hid rfl) zx rfl).mono fun e' w' ⟨q, hb⟩ => ⟨q.trans ?_, hb⟩
        rw [show genI 23 (xl, xh) (yl, yh) = logI 23 (xl, xh) (yl, yh) from rfl]
        simp only [logI, has0, is0, bx, zx]
        rfl
      · refine (rap_23ft_s xl xh yl yh w hx1 hx2 hx3 hx4 hy1 hy2 hy3 hy4 hxe hye hs hs' _ _ (Lib.hid bx) (Lib.hid rfl) zx rfl).mono fun e' w' ⟨q, hb⟩ => ⟨q.trans ?_, hb⟩
        rw [show genI 23 (xl, xh) (yl, yh) = logI 23 (xl, xh) (yl, yh) from rfl]
        simp only [logI, has0, is0, bx, zx]
        rfl
      · refine (rap_23tf_s xl xh yl yh w hx1 hx2 hx3 hx4 hy1 hy2 hy3 hy4 hxe hye hs hs' _ _ (Lib.hid bx) (Lib.hid rfl) zx rfl).mono fun e' w' ⟨q, hb⟩ => ⟨q.trans ?_, hb⟩
        rw [show genI 23 (xl, xh) (yl, yh) = logI 23 (xl, xh) (yl, yh) from rfl]
        simp only [logI, has0, is0, bx, zx]
        rfl
      · refine (rap_23tt_s xl xh yl yh w hx1 hx2 hx3 hx4 hy1 hy2 hy3 hy4 hxe hye hs hs' _ _ (Lib.hid bx) (Lib.hid rfl) zx rfl).mono fun e' w' ⟨q, hb⟩ => ⟨q.trans ?_, hb⟩
        rw [show genI 23 (xl, xh) (yl, yh) = logI 23 (xl, xh) (yl, yh) from rfl]
        simp only [logI, has0, is0, bx, zx]
        rfl
  · have hs : (xl == xh) = false := by simpa using e
    rcases h with rfl | rfl | rfl | rfl | rfl | rfl | rfl | rfl | rfl | rfl | rfl | rfl | rfl | rfl | rfl | rfl | rfl | rfl
    · exact rap_6_n xl xh yl yh w hx1 hx2 hx3 hx4 hy1 hy2 hy3 hy4 hxe hye hs
    · exact rap_7_n xl xh yl yh w hx1 hx2 hx3 hx4 hy1 hy2 hy3 hy4 hxe hye hs
    · exact rap_8_n xl xh yl yh w hx1 hx2 hx3 hx4 hy1 hy2 hy3 hy4 hxe hye hs
    · by_cases z : yl = 0 ∧ yh = 0
      · refine (rap_9z_n xl xh yl yh w hx1 hx2 hx3 hx4 hy1 hy2 hy3 hy4 hxe hye hs (by simpa using z)).mono fun e' w' ⟨q, hb⟩ => ⟨q.trans ?_, hb⟩
        rw [show genI 9 (xl, xh) (yl, yh) = divI (xl, xh) (yl, yh) from rfl, divI, if_pos z]
      · exact rap_9_n xl xh yl yh w hx1 hx2 hx3 hx4 hy1 hy2 hy3 hy4 hxe hye hs (by simpa using z)
    · by_cases z : yl = 0 ∧ yh = 0
      · refine (rap_10z_n xl xh yl yh w hx1 hx2 hx3 hx4 hy1 hy2 hy3 hy4 hxe hye hs (by simpa using z)).mono fun e' w' ⟨q, hb⟩ => ⟨q.trans ?_, hb⟩
        rw [show genI 10 (xl, xh) (yl, yh) = modI (xl, xh) (yl, yh) from rfl, modI, if_pos z]
      · exact rap_10_n xl xh yl yh w hx1 hx2 hx3 hx4 hy1 hy2 hy3 hy4 hxe hye hs (by simpa using z)
    · exact rap_11_n xl xh yl yh w hx1 hx2 hx3 hx4 hy1 hy2 hy3 hy4 hxe hye hs
    · exact rap_12_n xl xh yl yh w hx1 hx2 hx3 hx4 hy1 hy2 hy3 hy4 hxe hye hs
    · exact rap_13_n xl xh yl yh w hx1 hx2 hx3 hx4 hy1 hy2 hy3 hy4 hxe hye hs
    · exact rap_14_n xl xh yl yh w hx1 hx2 hx3 hx4 hy1 hy2 hy3 hy4 hxe hye hs
    · exact rap_15_n xl xh yl yh w hx1 hx2 hx3 hx4 hy1 hy2 hy3 hy4 hxe hye hs
    · refine (rap_16_n xl xh yl yh w hx1 hx2 hx3 hx4 hy1 hy2 hy3 hy4 hxe hye hs).mono fun e' w' ⟨q, hb⟩ => ⟨q.trans ?_, hb⟩
      rw [ha]
      rfl
    · refine (rap_17_n xl xh yl yh w hx1 hx2 hx3 hx4 hy1 hy2 hy3 hy4 hxe hye hs).mono fun e' w' ⟨q, hb⟩ => ⟨q.trans ?_, hb⟩
      rw [ha]
      rfl
    · exact rap_18_n xl xh yl yh w hx1 hx2 hx3 hx4 hy1 hy2 hy3 hy4 hxe hye hs
    · exact rap_19_n xl xh yl yh w hx1 hx2 hx3 hx4 hy1 hy2 hy3 hy4 hxe hye hs
    · exact rap_20_n xl xh yl yh w hx1 hx2 hx3 hx4 hy1 hy2 hy3 hy4 hxe hye hs
    · exact rap_21_n xl xh yl yh w hx1 hx2 hx3 hx4 hy1 hy2 hy3 hy4 hxe hye hs
    · cases bx : (decide (xl ≤ 0) && decide (0 ≤ xh)) <;> cases zx : (xl == 0 && xh == 0)
      · refine (rap_22ff_n xl xh yl yh w hx1 hx2 hx3 hx4 hy1 hy2 hy3 hy4 hxe hye hs _ _ (Lib.hid bx) (Lib.hid rfl) zx rfl).mono fun e' w' ⟨q, hb⟩ => ⟨q.trans ?_, hb⟩
        rw [show genI 22 (xl, xh) (yl, yh) = logI 22 (xl, xh) (yl, yh) from rfl]
        simp only [logI, has0, is0, bx, zx]
        rfl
      · refine (rap_22ft_n xl xh yl yh w hx1 hx2 hx3 hx4 hy1 hy2 hy3 hy4 hxe hye hs _ _ (Lib.hid bx) (Lib.hid rfl) zx rfl).mono fun e' w' ⟨q, hb⟩ => ⟨q.trans ?_, hb⟩
        rw [show genI 22 (xl, xh) (yl, yh) = logI 22 (xl, xh) (yl, yh) from rfl]
        simp only [logI, has0, is0, bx, zx]
        rfl
      · refine (rap_22tf_n xl xh yl yh w hx1 hx2 hx3 hx4 hy1 hy2 hy3 hy4 hxe hye hs _ _ (Lib.hid bx) (Lib.hid rfl) zx rfl).mono fun e' w' ⟨q, hb⟩ => ⟨q.trans ?_, hb⟩
        rw [show genI 22 (xl, xh) (yl, yh) = logI 22 (xl, xh) (yl, yh) from rfl]
        simp only [logI, has0, is0, bx, zx]
        rfl
      · refine (rap_22tt_n xl xh yl yh w hx1 hx2 hx3 hx4 hy1 hy2 hy3 hy4 hxe hye hs _ _ (Lib.hid bx) (Lib.hid rfl) zx rfl).mono fun e' w' ⟨q, hb⟩ => ⟨q.trans ?_, hb⟩
        rw [show genI 22 (xl, xh) (yl, yh) = logI 22 (xl, xh) (yl, yh) from rfl]
        simp only [logI, has0, is0, bx, zx]
        rfl
    · cases bx : (decide (xl ≤ 0) && decide (0 ≤ xh)) <;> cases zx : (xl == 0 && xh == 0)
      · refine (rap_23ff_n xl xh yl yh w hx1 hx2 hx3 hx4 hy1 hy2 hy3 hy4 hxe hye hs _ _ (Lib.hid bx) (Lib.hid rfl) zx rfl).mono fun e' w' ⟨q, hb⟩ => ⟨q.trans ?_, hb⟩
        rw [show genI 23 (xl, xh) (yl, yh) = logI 23 (xl, xh) (yl, yh) from rfl]
        simp only [logI, has0, is0, bx, zx]
        rfl
      · refine (rap_23ft_n xl xh yl yh w hx1 hx2 hx3 hx4 hy1 hy2 hy3 hy4 hxe hye hs _ _ (Lib.hid bx) (Lib.hid rfl) zx rfl).mono fun e' w' ⟨q, hb⟩ => ⟨q.trans ?_, hb⟩
        rw [show genI 23 (xl, xh) (yl, yh) = logI 23 (xl, xh) (yl, yh) from rfl]
        simp only [logI, has0, is0, bx, zx]
        rfl
      · refine (rap_23tf_n xl xh yl yh w hx1 hx2 hx3 hx4 hy1 hy2 hy3 hy4 hxe hye hs _ _ (Lib.hid bx) (Lib.hid rfl) zx rfl).mono fun e' w' ⟨q, hb⟩ => ⟨q.trans ?_, hb⟩
        rw [show genI 23 (xl, xh) (yl, yh) = logI 23 (xl, xh) (yl, yh) from rfl]
        simp only [logI, has0, is0, bx, zx]
        rfl
      · refine (rap_23tt_n xl xh yl yh w hx1 hx2 hx3 hx4 hy1 hy2 hy3 hy4 hxe hye hs _ _ (Lib.hid bx) (Lib.hid rfl) zx rfl).mono fun e' w' ⟨q, hb⟩ => ⟨q.trans ?_, hb⟩
        rw [show genI 23 (xl, xh) (yl, yh) = logI 23 (xl, xh) (yl, yh) from rfl]
        simp only [logI, has0, is0, bx, zx]
        rfl

theorem rap_any (op xl xh yl yh : Int) (w : World) (hx1 : -2147483648 ≤ xl) (hx2 : xl ≤ 2147483647) (hx3 : -2147483648 ≤ xh) (hx4 : xh ≤ 2147483647) (hy1 : -2147483648 ≤ yl) (hy2 : yl ≤ 2147483647) (hy3 : -2147483648 ≤ yh) (hy4 : yh ≤ 2147483647) :
    Calls Try.prog 12 #[.int .u8 op, .agg #[.int .i32 xl, .int .i32 xh], .agg #[.int .i32 yl, .int .i32 yh]] w fun e w' => e = .returned (.agg #[.int .i32 (applyI op (xl, xh) (yl, yh)).1, .int .i32 (applyI op (xl, xh) (yl, yh)).2]) ∧ Below w.heap.size w w' := by
  by_cases o1 : op < 6
  · refine (rap_out_lo op xl xh yl yh w o1).mono fun e w' ⟨q, hb⟩ => ⟨q.trans ?_, hb⟩
    rw [applyI, if_pos (.inl o1)]
  by_cases o2 : 23 < op
  · refine (rap_out_hi op xl xh yl yh w o2).mono fun e w' ⟨q, hb⟩ => ⟨q.trans ?_, hb⟩
    rw [applyI, if_pos (.inr o2)]
  have no : ¬ (op < 6 ∨ 23 < op) := by omega
  by_cases e1 : xh < xl
  · refine (rap_emp_x op xl xh yl yh w (by omega) (by omega) e1).mono fun e w' ⟨q, hb⟩ => ⟨q.trans ?_, hb⟩
    rw [applyI, if_neg no, if_pos (.inl e1)]
  by_cases e2 : yh < yl
  · refine (rap_emp_y op xl xh yl yh w (by omega) (by omega) e1 e2).mono fun e w' ⟨q, hb⟩ => ⟨q.trans ?_, hb⟩
    rw [applyI, if_neg no, if_pos (.inr e2)]
  have ne : ¬ (xh < xl ∨ yh < yl) := by omega
  by_cases s : xl = xh ∧ yl = yh
  · obtain ⟨rfl, rfl⟩ := s
    by_cases k : we op yl = 0
    · refine (rap_single_ok op xl yl w (by omega) (by omega) ⟨hx1, hx2⟩ ⟨hy1, hy2⟩ (by simpa using k)).mono fun e w' ⟨q, hb⟩ => ⟨q.trans ?_, hb⟩
      rw [applyI, if_neg no, if_neg ne, if_pos ⟨rfl, rfl⟩, if_pos k]
    · refine (rap_single_no op xl yl w (by omega) (by omega) ⟨hx1, hx2⟩ ⟨hy1, hy2⟩ (by simpa using k)).mono fun e w' ⟨q, hb⟩ => ⟨q.trans ?_, hb⟩
      rw [applyI, if_neg no, if_neg ne, if_pos ⟨rfl, rfl⟩, if_neg k]
  · have ev : applyI op (xl, xh) (yl, yh) = genI op (xl, xh) (yl, yh) := by rw [applyI, if_neg no, if_neg ne, if_neg s]
    rw [ev]
    exact rap_gen op xl xh yl yh w hx1 hx2 hx3 hx4 hy1 hy2 hy3 hy4 (by omega) (by omega) (by omega) (by omega) s

set_option maxHeartbeats 400000 in
theorem plain_any (xl xh : Int) (w : World) :
    Calls Try.prog 13 #[.agg #[.int .i32 xl, .int .i32 xh]] w fun e w' => e = .returned (.agg #[.int .i32 xl, .int .i32 xh]) ∧ Below w.heap.size w w' := by
  go_enter Try.func13, Try.ntmps13
  go_wp2
  all_goals
    refine bodyPost_ret (v := .agg #[.int .i32 xl, .int .i32 xh]) ?hr rfl ⟨rfl, ?bel⟩
    case hr =>
      simp [results, Try.results13, go_sem]
    case bel =>
      (repeat (first | exact Below.refl _ _ | refine Below.setCell ?_ ?_ _ | refine Ext.below ?_ ?_ _ | refine Below.alloc ?_ ?_ _)) <;> (first | (simp; done) | (simp; omega) | omega | (simp only [World.size_setCell, World.size_alloc]; refine Nat.le_trans ?_ (Below.size (Ext.h _)); simp only [World.size_setCell, World.size_alloc]; omega))

theorem cut1_of {W0 wx : World} {g : Nat} {a b : Value} (k : Keeps W0 wx) (h1 : wx.cell? ⟨g, 0, none⟩ = some a) (h2 : wx.cell? ⟨g, 1, none⟩ = some b) (h5 : g < wx.heap.size) :
    ∃ (g' : Nat) (v : Ext W0), Value.pointer (some ⟨g, 0, none⟩) = .pointer (some ⟨g', 0, none⟩) ∧ wx = v.w ∧ v.w.cell? ⟨g', 0, none⟩ = some a ∧ v.w.cell? ⟨g', 1, none⟩ = some b ∧ g' < v.w.heap.size :=
  ⟨g, ⟨wx, k⟩, rfl, rfl, h1, h2, h5⟩

set_option maxRecDepth 100000 in
set_option maxHeartbeats 8000000 in
theorem apply_in (op xl xh yl yh : Int) (w : World) (hx1 : -2147483648 ≤ xl) (hx2 : xl ≤ 2147483647) (hx3 : -2147483648 ≤ xh) (hx4 : xh ≤ 2147483647) (hy1 : -2147483648 ≤ yl) (hy2 : yl ≤ 2147483647) (hy3 : -2147483648 ≤ yh) (hy4 : yh ≤ 2147483647) :
    Calls Try.prog 3 #[.int .u8 op, .agg #[.int .i32 xl, .int .i32 xh], .agg #[.int .i32 yl, .int .i32 yh]] w fun e w' => e = .returned (.bool true) ∧ Below w.heap.size w w' := by
  have e2 := eq_rv
  go_enter Try.func3, Try.ntmps3
  go_wp2_with fail
  refine (Calls.ext (apply_any _ _ _ _ _ _ hx1 hx2 hx3 hx4 hy1 hy2 hy3 hy4)).mono ?_
  rintro e _ ⟨rfl, y1, rfl⟩
  have RA := Lib.hid (fun W => rap_any op xl xh yl yh W hx1 hx2 hx3 hx4 hy1 hy2 hy3 hy4)
  generalize applyI op (xl, xh) (yl, yh) = Z at *
  obtain ⟨zl, zh⟩ := Z
  dsimp only at RA ⊢
  go_wp2_with fail
  obtain ⟨W, zb, hW, hzb, kB, z1, z2, z3, x1, x2, y1', y2, c1, c2⟩ := three_base xl xh yl yh zl zh w y1
  rw [hW, hzb]
  clear hW hzb
  go_upto_region 2 with fail
  go_cut [8] (fun s8 wx => ∃ (g : Nat) (v : Ext W), s8 = .pointer (some ⟨g, 0, none⟩) ∧ wx = v.w ∧ v.w.cell? ⟨g, 0, none⟩ = some (.int .i32 zl) ∧ v.w.cell? ⟨g, 1, none⟩ = some (.int .i32 zh) ∧ g < v.w.heap.size)
  case first =>
    as_aux_lemma =>
      have K0 : Keeps W W := Below.refl _ _
      go_region_held3 (fun w' => (∀ b o, b < W.heap.size → w'.cell? ⟨b, o, none⟩ = W.cell? ⟨b, o, none⟩) ∧ Keeps W w') ((refine keeps_both rfl ?_; (repeat (first | (with_reducible assumption) | (with_reducible refine Keeps.alloc ?_ _) | (with_reducible refine Keeps.ext ?_ _) | (with_reducible refine Keeps.set ?_ (by first | omega | (simp; done) | (simp; omega)) _) | (with_reducible refine Keeps.drew ?_)))))
        (first | (go_at_call 13; (first | (with_reducible refine (Calls.extq (plain_any _ _ _)).mono ?_) | (with_reducible refine (Calls.ext (plain_any _ _ _)).mono ?_)); rintro e _ ⟨rfl, y, rfl⟩; have KK : Keeps W y.w := (by (repeat (first | (with_reducible assumption) | (with_reducible refine Keeps.alloc ?_ _) | (with_reducible refine Keeps.ext ?_ _) | (with_reducible refine Keeps.set ?_ (by first | omega | (simp; done) | (simp; omega)) _) | (with_reducible refine Keeps.drew ?_)))); have KS : W.heap.size ≤ y.w.heap.size := KK.size; (have KZ := Below.size (Ext.h y)); (try simp only [World.size_alloc, World.size_drew] at KZ); (try have KM : W.heap.size < y.w.heap.size := (by omega))) | (go_at_call 12; (first | (with_reducible refine (Calls.extq (RA.out _)).mono ?_) | (with_reducible refine (Calls.ext (RA.out _)).mono ?_)); rintro e _ ⟨rfl, y, rfl⟩; have KK : Keeps W y.w := (by (repeat (first | (with_reducible assumption) | (with_reducible refine Keeps.alloc ?_ _) | (with_reducible refine Keeps.ext ?_ _) | (with_reducible refine Keeps.set ?_ (by first | omega | (simp; done) | (simp; omega)) _) | (with_reducible refine Keeps.drew ?_)))); have KS : W.heap.size ≤ y.w.heap.size := KK.size; (have KZ := Below.size (Ext.h y)); (try simp only [World.size_alloc, World.size_drew] at KZ); (try have KM : W.heap.size < y.w.heap.size := (by omega))))
      all_goals (go_wp2_with fail; go_meet; refine cut1_of ?_ ?_ ?_ ?_)
      all_goals first
        | (with_reducible show Keeps _ _; (repeat (first | (with_reducible assumption) | (with_reducible refine Keeps.alloc ?_ _) | (with_reducible refine Keeps.ext ?_ _) | (with_reducible refine Keeps.set ?_ (by first | omega | (simp; done) | (simp; omega)) _) | (with_reducible refine Keeps.drew ?_))); done)
        | (simp; done)
        | (simp; omega)
        | (go_simp; done)
        | (simp; refine World.cell?_setCell_same _ _ _ (u := .int .i32 0) ?_; go_simp; done)
        | (go_simp; refine World.cell?_setCell_same _ _ _ (u := .int .i32 0) ?_; go_simp; done)
  case rest =>
    obtain ⟨g, v, rfl, rfl, g1, g2, g3⟩ := hcut
    rw [← v.cell _ _ z3] at c1 c2
    replace kB : Below w.heap.size w v.w := Ext.below kB (by omega) v
    replace z3 := Nat.lt_of_lt_of_le z3 v.h.size
    replace z1 := Nat.lt_of_lt_of_le z1 v.h.size
    clear x1 x2 y1' y2 z2
    generalize v.w = W2 at *
    clear v W
    go_wp2_with fail
    refine wp_region_ext (by kernel_rfl) (by kernel_rfl) ?_
    repeat (go_big_quiet_step (first | (go_at_call 14; exact Calls.extq (awake_any _)) | (go_at_call 13; exact Calls.extq (plain_any _ _ _))))
    refine wpQuiet_nil ?_
    rintro _ ⟨q, rfl⟩
    go_wp2
    all_goals
      go_ret
      exact ⟨by simp, Ext.below kB (by omega) q⟩

set_option maxRecDepth 100000 in
theorem intervalApply_lifted (os : Os) (started : os.Started) (H : Type) (enc : TypeId × Value → H) :
    ReturnsInHanded {} Try.checked os 3 .any (Rows.intervalApplySpec.pre6 enc Try.prog Try.f3 Rows.intervalApplyRow.domain false) (Rows.intervalApplySpec.post enc Try.prog Try.f3 false true false false) := by
  refine returnsInHanded_of_change (C := Try.checked) own started (by kernel_rfl) Try.func3
    (ChangeSpec.witness6 (enc := enc) (C := Try.checked) false ⟨#[], #[.int .u8 0, .agg #[.int .i32 0, .int .i32 0], .agg #[.int .i32 0, .int .i32 0]], []⟩ 8 (by kernel_rfl) (by kernel_rfl) (by kernel_rfl) (by kernel_rfl)) ?_
  intro W base args ds gs before hval0 hW hcnd _
  have hval : ∀ (j : Nat) t v, Try.f3.params[j]? = some t → args[j]? = some v → Value.okWide Try.prog W .any base t v := hval0
  have hW' := hW
  obtain ⟨p, q, hA0, hV, rfl, hfz, hnd⟩ := hW
  have hA : DataW.TrodAll enc Try.prog W 0 (fun _ => true) true Try.f3.params.toList args.toList ds p := hA0
  rw [Try.params3] at hA hval
  obtain ⟨v0, vs0, d0, ds0, p0, q0, hargs, rfl, rfl, h0, r0⟩ := trodAll_cons hA
  obtain ⟨v1, vs1, d1, ds1, p1, q1, rfl, rfl, rfl, h1, r1⟩ := trodAll_cons r0
  obtain ⟨v2, vs2, d2, ds2, p2, q2, rfl, rfl, rfl, h2, r2⟩ := trodAll_cons r1
  obtain ⟨rfl, rfl, rfl⟩ := trodAll_nil r2
  obtain rfl : args = #[v0, v1, v2] := by cases args; simp_all
  obtain ⟨rfl, rfl⟩ := trodVars_none hV
  have k0 := h0
  have lt0 : ∀ x ∈ p0, x.block < W.heap.size := by obtain ⟨m, hm⟩ := k0; exact DataW.trod_lt m _ _ _ hm
  have ok0 := hval 0 5 v0 rfl rfl
  have k1 := h1
  have lt1 : ∀ x ∈ p1, x.block < W.heap.size := by obtain ⟨m, hm⟩ := k1; exact DataW.trod_lt m _ _ _ hm
  have ok1 := hval 1 23 v1 rfl rfl
  have k2 := h2
  have lt2 : ∀ x ∈ p2, x.block < W.heap.size := by obtain ⟨m, hm⟩ := k2; exact DataW.trod_lt m _ _ _ hm
  have ok2 := hval 2 23 v2 rfl rfl
  obtain ⟨a0, rfl, e0, f0, w0⟩ := open_int Try.underlying5 ok0 h0
  obtain ⟨l1, u1, rfl, wl1, wu1⟩ := open_iv ok1 h1
  obtain ⟨l2, u2, rfl, wl2, wu2⟩ := open_iv ok2 h2
  clear hA0 hval0
  refine (apply_in a0 l1 u1 l2 u2 W (bounds_i32 wl1).1 (bounds_i32 wl1).2 (bounds_i32 wu1).1 (bounds_i32 wu1).2 (bounds_i32 wl2).1 (bounds_i32 wl2).2 (bounds_i32 wu2).1 (bounds_i32 wu2).2).mono fun e W' ⟨he, bel⟩ => ?_
  subst he
  exact ⟨_, rfl, _, _, _, [], _, [], hW', trodAll_mk1 (shut_bool Try.underlying4 _), (trodAll_cons_mk (Below.trod laidOut (by kernel_rfl) (of_decide_eq_true (by kernel_rfl)) k0 bel lt0) (trodAll_cons_mk (Below.trod laidOut (by kernel_rfl) (of_decide_eq_true (by kernel_rfl)) k1 bel lt1) (trodAll_cons_mk (Below.trod laidOut (by kernel_rfl) (of_decide_eq_true (by kernel_rfl)) k2 bel lt2) trodAll_mk0))), rfl, bel.frame _, fun h => by cases h⟩

/-- The statement. -/
theorem intervalApply_holds : Rows.IntervalApplySaid :=
  OpenClaim.holds_of_wide 3 Try.f3 rfl rfl rfl rfl rfl rfl rfl ⟨rfl, rfl, rfl, rfl, rfl⟩ rfl rfl rfl rfl rfl (by kernel_rfl) Try.func3 (by kernel_rfl)
    (of_decide_eq_true (by kernel_rfl)) (by unfold Func.isWrapper; first | (rw [if_pos (by decide +kernel)]; kernel_rfl) | (rw [if_neg (by decide +kernel)]; exact ⟨rfl, rfl⟩))
    (fun os started H enc _ => intervalApply_lifted os started H enc)

end Go.Proofs.Ytjkjcnamlankoaa
