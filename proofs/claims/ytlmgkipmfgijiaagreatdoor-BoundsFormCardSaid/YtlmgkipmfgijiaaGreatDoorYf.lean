/-
  What is proved here: parts pIncl, pPar, pSort, pVis, pBody, pMem, pMem2, pFind.
-/
import Derived.Test.YtlmgkipmfgijiaaGreatDoorYa
import Derived.Test.YtlmgkipmfgijiaaGreatDoorYe
import Derived.Shelf.SlIterI.Nil
import Derived.Shelf.SlIterI.Sorted
import Derived.Shelf.SortM.Plain
import Derived.Shelf.SortM.SortNone
import Derived.Ground.GgzProg
import Derived.Ground.SlgmProg
import Derived.Laws.EntriesVeiled
namespace Go.Proofs.YtlmgkipmfgijiaaGreatDoor
set_option linter.unusedVariables false
set_option linter.unusedSimpArgs false
set_option maxRecDepth 100000
set_option maxHeartbeats 8000000
section
open Go.RowKit
def Ld (e : Ending) : Prop := ∃ r : Bool, e = .returned (.bool r)
def OJ (e : Ending) : Prop := ∃ r : Int, e = .returned (.int .i64 r)
theorem vB (u v : Value) (l1 l2 : List Int) (w : World) (H1 : Ints w u l1) (H2 : Ints w v l2) :
  Calls Tryz.prog 74 #[u, v] w fun e w' => Ld e ∧ Below w.heap.size w w' := by
 obtain ⟨A, cap, rfl, hc1, hc2⟩ := H1.slice
 obtain ⟨B, iN, rfl, hd1, hd2⟩ := H2.slice
 have HA := ahM H1
 have HB := ahM H2
 clear H1 H2
 obtain ⟨n1, hn1⟩ : ∃ n, l1.length = n := ⟨_, rfl⟩
 obtain ⟨n2, hn2⟩ : ∃ n, l2.length = n := ⟨_, rfl⟩
 rw [hn1] at hc1 ⊢
 rw [hn2] at hd1 ⊢
 have OZ := ahM hn1
 have A6 := ahM hn2
 clear hn1 hn2
 go_enter Tryz.func74, Tryz.ntmps74
 go_upto_region 3 with fail
 go_loopw [5, 10] (fun a5 a10 wr => ∃ k i : Nat, k ≤ n2 ∧ i ≤ n1 ∧ a10 = .int .i64 (k : Int) ∧ a5 = .int .i64 (i : Int) ∧ Below w.heap.size w wr) (fun _ a10 _ => n2 - (intOf a10).toNat)
 case atStart => exact ⟨0, 0, Nat.zero_le _, Nat.zero_le _, rfl, rfl, Below.refl _ _⟩
 case round =>
  obtain ⟨k, i0, hk, hi0, rfl, rfl, hb⟩ := hrel
  have HW := ahM hb
  by_cases hlt : k < n2
  ·have dl : decide ((k : Int) < (n2 : Int)) = true := decide_eq_true agO
   obtain ⟨x, bq, bo, hx, e, sq, c1⟩ := (A6.out ▸ HB.out : Ints w (.slice B l2.length iN) l2).at_ hb (j := k) (by rw [A6.out]; exact hlt)
   subst e
   have sw : bq < wr.heap.size := by have := hb.size; omega
   clear hb hx
   go_upto_region 5 with fail
   clear c1 sw
   go_loopw [5] (fun a5 wr => ∃ i : Nat, i ≤ n1 ∧ a5 = .int .i64 (i : Int) ∧ Below w.heap.size w wr) (fun a5 _ => n1 - (intOf a5).toNat)
   case atStart => exact ⟨i0, hi0, rfl, HW.out⟩
   case round =>
    clear HW hi0
    obtain ⟨i, hi, rfl, hb⟩ := hrel
    have HW := ahM hb
    by_cases hlt2 : i < n1
    ·have dl2 : decide ((i : Int) < (n1 : Int)) = true := decide_eq_true agO
     have dl3 : ((i : Int) == (n1 : Int)) = false := beq_eq_false_iff_ne.2 agO
     obtain ⟨y, aq, ao, hy, e, sq, c1⟩ := (OZ.out ▸ HA.out : Ints w (.slice A l1.length cap) l1).at_ hb (j := i) (by rw [OZ.out]; exact hlt2)
     subst e
     have sw : aq < wr.heap.size := by have := hb.size; omega
     clear hb hy
     by_cases ZK : y < x
     ·have d4 : decide (y < x) = true := decide_eq_true ZK
      go_wp2_with fail
      go_roundw
      case rel => exact ⟨i + 1, by omega, by go_num, HW.out⟩
      case measure => simp [intOf]; omega
     ·have d4 : decide (y < x) = false := decide_eq_false ZK
      by_cases hne : y = x
      ·have d5 : (y != x) = false := by simp [hne]
       go_wp2_with fail
       go_roundw
       case rel => exact ⟨k + 1, i, by omega, hi, by go_num, rfl, HW.out⟩
       case measure => simp [intOf]; omega
      ·have d5 : (y != x) = true := by simp [hne]
       go_wp2_with fail
       go_ret
       exact ⟨⟨false, rfl⟩, HW.out⟩
    ·obtain rfl : n1 = i := by omega
     have dl2 : decide ((n1 : Int) < (n1 : Int)) = false := by simp
     have dl3 : ((n1 : Int) == (n1 : Int)) = true := by simp
     clear hb
     go_wp2_with fail
     go_ret
     exact ⟨⟨false, rfl⟩, HW.out⟩
  ·obtain rfl : n2 = k := by omega
   have dl : decide ((n2 : Int) < (n2 : Int)) = false := by simp
   clear hb
   go_wp2_with fail
   go_ret
   exact ⟨⟨true, rfl⟩, HW.out⟩
end
section
open Go.RowKit
structure Lp where
 h : Int
 bl : List Int
 la : List Int
def Lg (w w' : World) (b o : Nat) (x : Lp) : Prop :=
 w'.cell? ⟨b, o, none⟩ = some (.int .i64 x.h) ∧ (∃ v, w'.cell? ⟨b, o + 1, none⟩ = some v ∧ Ints w v x.bl) ∧ (∃ v, w'.cell? ⟨b, o + 2, none⟩ = some v ∧ Ints w v x.la) ∧ ∃ p : Int, w'.cell? ⟨b, o + 3, none⟩ = some (.int .i64 p)
def sI (w : World) (v : Value) (L : List Lp) : Prop :=
 ∃ A cap, v = .slice A L.length cap ∧ L.length ≤ cap ∧ cap ≤ maxLen ∧ (0 < L.length → ∃ b off, A = some ⟨b, off, none⟩ ∧ b < w.heap.size ∧ ∀ (k : Nat) (x : Lp), L[k]? = some x → Lg w w b (off + k * 4) x)
theorem Lg.below {w w' : World} {b o : Nat} {x : Lp} (h : Lg w w b o x) (hb : Below w.heap.size w w') (hl : b < w.heap.size) : Lg w w' b o x := by
 obtain ⟨h1, ⟨v, h2, h3⟩, ⟨u, h4, h5⟩, p, h6⟩ := h
 exact ⟨(hb.cell (p := ⟨b, _, none⟩) hl).trans h1, ⟨v, (hb.cell (p := ⟨b, _, none⟩) hl).trans h2, h3⟩, ⟨u, (hb.cell (p := ⟨b, _, none⟩) hl).trans h4, h5⟩, p, (hb.cell (p := ⟨b, _, none⟩) hl).trans h6⟩
theorem sI.below {w w' : World} {v : Value} {L : List Lp} (h : sI w v L) (hb : Below w.heap.size w w') : sI w' v L := by
 obtain ⟨A, cap, h1, h2, h3, h4⟩ := h
 refine ⟨A, cap, h1, h2, h3, fun h0 => ?_⟩
 obtain ⟨b, off, e, hl, hc⟩ := h4 h0
 refine ⟨b, off, e, by have := hb.size; omega, fun k x hx => ?_⟩
 obtain ⟨h1, ⟨v, h2, h3⟩, ⟨u, h4, h5⟩, p, h6⟩ := (hc k x hx).below hb hl
 exact ⟨h1, ⟨v, h2, h3.below hb⟩, ⟨u, h4, h5.below hb⟩, p, h6⟩
theorem cJ {w : World} {b : Nat} {a c d e : Value} {t : TypeId} (h : w.heap[b]? = some (.cells #[a, c, d, e] t (0, 0))) : w.cell? ⟨b, 0, none⟩ = some a ∧ w.cell? ⟨b, 1, none⟩ = some c ∧ w.cell? ⟨b, 2, none⟩ = some d ∧ w.cell? ⟨b, 3, none⟩ = some e ∧ b < w.heap.size :=
 ⟨by simp [World.cell?, h], by simp [World.cell?, h], by simp [World.cell?, h], by simp [World.cell?, h], (Array.getElem?_eq_some_iff.1 h).1⟩
theorem zE (v : Value) (L : List Lp) (i : Nat) (w : World) (HL : sI w v L) (hi : i < L.length) (hn5 : L.length ≤ 1000000) :
  Calls Tryz.prog 43 #[v, .int .i64 (i : Int)] w fun e w' => OJ e ∧ Below w.heap.size w w' := by
 obtain ⟨A, cap, rfl, hc1, hc2, h4⟩ := HL
 obtain ⟨q, off, rfl, hq, hc⟩ := h4 agO
 obtain ⟨n, hn⟩ : ∃ n, L.length = n := ⟨_, rfl⟩
 rw [hn] at hi hn5 ⊢
 have HN := ahM hn
 have HC := ahM hc
 obtain ⟨x, hx⟩ : ∃ x, L[i]? = some x := ⟨_, List.getElem?_eq_getElem (by rw [HN.out]; exact hi)⟩
 obtain ⟨c0, ⟨bv, c1, mH⟩, ⟨lv, c2, hlv⟩, p0, c3⟩ := hc i x hx
 obtain ⟨BA, iN, rfl, hb1, hb2⟩ := mH.slice
 obtain ⟨ZA, Qq, rfl, -, -⟩ := hlv.slice
 obtain ⟨zn, ZJ⟩ : ∃ n, x.la.length = n := ⟨_, rfl⟩
 rw [ZJ] at c2
 obtain ⟨bn, kA⟩ : ∃ n, x.bl.length = n := ⟨_, rfl⟩
 rw [kA] at c1
 obtain ⟨xh, qE⟩ : ∃ h, x.h = h := ⟨_, rfl⟩
 rw [qE] at c0
 have uQ := ahM mH
 have Qh := ahM kA
 have i1 : (i : Int) < (n : Int) := by omega
 clear h4 hc hx hn hc1 hc2 mH hlv hb1 hb2 kA qE ZJ
 go_enter Tryz.func43, Tryz.ntmps43
 go_upto_region 3 with fail
 obtain ⟨q6, hq6⟩ : ∃ q, w.heap.size = q := ⟨_, rfl⟩
 obtain ⟨V, hV⟩ : ∃ V, w.alloc (.cells #[.int .i64 xh, .slice BA bn iN, .slice ZA zn Qq, .int .i64 p0] 46) = V := ⟨_, rfl⟩
 rw [hV, hq6]
 have b1 : Below w.heap.size w V := hV ▸ (Below.refl _ _).alloc (Nat.le_refl _) _
 have k6 : V.heap[q6]? = some (.cells #[.int .i64 xh, .slice BA bn iN, .slice ZA zn Qq, .int .i64 p0] 46 (0, 0)) := by rw [← hq6, ← hV]; exact heap_alloc_new _ _
 have K6 := ahM k6
 have B1 := ahM b1
 have lq6 := (cJ k6).2.2.2.2
 clear k6 b1 hV hq6 c0 c1 c2 c3 i1
 go_upto_region 4 with fail
 go_loopw [5, 15] (fun a5 a15 wr => ∃ (k : Nat) (best : Int), k ≤ n ∧ (best = -1 ∨ 0 ≤ best ∧ best < (n : Int)) ∧ a15 = .int .i64 (k : Int) ∧ a5 = .int .i64 best ∧ Below V.heap.size V wr) (fun _ a15 _ => n - (intOf a15).toNat)
 case atStart => exact ⟨0, -1, Nat.zero_le _, .inl rfl, rfl, rfl, Below.refl _ _⟩
 case round =>
  obtain ⟨k, best, hk, xW, rfl, rfl, hb⟩ := hrel
  have HW := ahM hb
  have hsz := hb.size
  have X7 := ahM (B1.out.trans (hb.mono B1.out.size))
  by_cases hlt : k < n
  ·have dl : decide ((k : Int) < (n : Int)) = true := decide_eq_true agO
   obtain ⟨y, hy⟩ : ∃ x, L[k]? = some x := ⟨_, List.getElem?_eq_getElem (by rw [HN.out]; exact hlt)⟩
   obtain ⟨c0, ⟨yv, c1, Wm⟩, ⟨zv, c2, ZI⟩, p1, c3⟩ := (HC.out k y hy).below X7.out hq
   obtain ⟨YA, M8, rfl, hy1, hy2⟩ := Wm.slice
   obtain ⟨TA, Qu, rfl, -, -⟩ := ZI.slice
   obtain ⟨tn, htn⟩ : ∃ n, y.la.length = n := ⟨_, rfl⟩
   rw [htn] at c2
   obtain ⟨yn, LW⟩ : ∃ n, y.bl.length = n := ⟨_, rfl⟩
   rw [LW] at c1
   obtain ⟨yh, Pq⟩ : ∃ h, y.h = h := ⟨_, rfl⟩
   rw [Pq] at c0
   have HYV := ahM Wm
   have HYN := ahM LW
   have sq : q < wr.heap.size := by have := X7.out.size; omega
   have i1 : (k : Int) < (n : Int) := by omega
   clear hb hy Wm ZI hy1 hy2 LW Pq htn
   go_upto_region 6 with fail
   obtain ⟨q8, hq8⟩ : ∃ q, wr.heap.size = q := ⟨_, rfl⟩
   obtain ⟨X, hX⟩ : ∃ X, wr.alloc (.cells #[.int .i64 yh, .slice YA yn M8, .slice TA tn Qu, .int .i64 p1] 46) = X := ⟨_, rfl⟩
   rw [hX, hq8]
   have bX : Below wr.heap.size wr X := hX ▸ (Below.refl _ _).alloc (Nat.le_refl _) _
   have k8 : X.heap[q8]? = some (.cells #[.int .i64 yh, .slice YA yn M8, .slice TA tn Qu, .int .i64 p1] 46 (0, 0)) := by rw [← hq8, ← hX]; exact heap_alloc_new _ _
   obtain ⟨z0, z1, -, -, z4⟩ := cJ k8
   have PI : Below V.heap.size V X := HW.out.trans (bX.mono hsz)
   obtain ⟨y0, y1, -, -, y4⟩ := cJ ((PI.block q6 lq6).trans K6.out)
   have Rf : Below w.heap.size w X := B1.out.trans (PI.mono B1.out.size)
   have Ta := ahM PI
   have HWX := ahM Rf
   have sqX : q < X.heap.size := by have := Rf.size; omega
   have Rk := PI.size
   have TE := ahM (fun (W : World) (hW : Below X.heap.size X W) => vB (.slice YA yn M8) (.slice BA bn iN) y.bl x.bl W (by have := (HYV.out.below Rf).below hW; rw [HYN.out] at this; exact this) (by have := (uQ.out.below Rf).below hW; rw [Qh.out] at this; exact this))
   clear bX k8 hX hq8 c0 c1 c2 c3 PI Rf sq
   by_cases hh : yh = xh
   ·have e1 : (yh == xh) = true := beq_iff_eq.2 hh
    go_wp2_with fail
    go_roundw
    case rel => exact ⟨k + 1, best, by omega, xW, by go_num, rfl, Ta.out⟩
    case measure => simp [intOf]; omega
   ·have e1 : (yh == xh) = false := beq_eq_false_iff_ne.2 hh
    by_cases hl : yn < bn
    ·have e2 : decide ((yn : Int) < (bn : Int)) = true := decide_eq_true agO
     have e3 : decide (yn < bn) = true := decide_eq_true hl
     go_wp2_with fail
     go_roundw
     case rel => exact ⟨k + 1, best, by omega, xW, by go_num, rfl, Ta.out⟩
     case measure => simp [intOf]; omega
    ·have e2 : decide ((yn : Int) < (bn : Int)) = false := decide_eq_false agO
     have e3 : decide (yn < bn) = false := decide_eq_false hl
     have Y5 := ahM xW
     by_cases hneg : best < 0
     ·have e4 : decide ((0 : Int) ≤ best) = false := decide_eq_false agO
      clear xW
      go_upto_region 7 with fail
      refine aj agP agP ?_
      repeat (go_big_quiet_step (fail))
      refine wpQuiet_nil ?_
      rintro _ ⟨s, rfl⟩
      have ZR := s.h.size
      have a1 := s.cell q8 1 z4
      have a2 := s.cell q6 1 y4
      rw [z1] at a1
      rw [y1] at a2
      have sl1 : q8 < s.w.heap.size := by omega
      have sl2 : q6 < s.w.heap.size := by omega
      clear z0 z1 y0 y1
      go_wp2_with (go_at_call 74; refine (TE.out s.w s.h).mono ?_; rintro e W9 ⟨⟨r, rfl⟩, hb9⟩)
      all_goals have MP := ahM (Ta.out.trans ((s.h.trans (hb9.mono s.h.size)).mono Rk))
      all_goals go_roundw
      case rel => exact ⟨k + 1, (k : Int), by omega, .inr ⟨by omega, by omega⟩, by go_num, rfl, MP.out⟩
      case measure => simp [intOf]; omega
      case rel => exact ⟨k + 1, best, by omega, Y5.out, by go_num, rfl, MP.out⟩
      case measure => simp [intOf]; omega
     ·obtain ⟨m, rfl⟩ : ∃ m : Nat, best = (m : Int) := ⟨best.toNat, by omega⟩
      have hmn : m < n := by omega
      have e4 : decide ((0 : Int) ≤ (m : Int)) = true := decide_eq_true agO
      obtain ⟨z, hz⟩ : ∃ x, L[m]? = some x := ⟨_, List.getElem?_eq_getElem (by rw [HN.out]; exact hmn)⟩
      obtain ⟨-, ⟨uv, c1, huv⟩, -, -⟩ := (HC.out m z hz).below HWX.out hq
      obtain ⟨UA, acB, rfl, -, -⟩ := huv.slice
      obtain ⟨un, hun⟩ : ∃ n, z.bl.length = n := ⟨_, rfl⟩
      rw [hun] at c1
      have i2 : (m : Int) < (n : Int) := by omega
      clear xW hz huv hun hneg
      by_cases hu : un ≤ yn
      ·have e5 : decide ((un : Int) ≤ (yn : Int)) = true := decide_eq_true agO
       have e6 : decide (un ≤ yn) = true := decide_eq_true hu
       go_upto_region 7 with fail
       refine aj agP agP ?_
       repeat (go_big_quiet_step (fail))
       refine wpQuiet_nil ?_
       rintro _ ⟨s, rfl⟩
       have ZR := s.h.size
       have a1 := s.cell q8 1 z4
       have a2 := s.cell q6 1 y4
       rw [z1] at a1
       rw [y1] at a2
       have sl1 : q8 < s.w.heap.size := by omega
       have sl2 : q6 < s.w.heap.size := by omega
       clear z0 z1 y0 y1
       clear c1
       go_wp2_with fail
       go_roundw
       case rel => exact ⟨k + 1, (m : Int), by omega, Y5.out, by go_num, rfl, Ta.out.trans (s.h.mono Rk)⟩
       case measure => simp [intOf]; omega
      ·have e5 : decide ((un : Int) ≤ (yn : Int)) = false := decide_eq_false agO
       have e6 : decide (un ≤ yn) = false := decide_eq_false hu
       go_upto_region 7 with fail
       refine aj agP agP ?_
       repeat (go_big_quiet_step (fail))
       refine wpQuiet_nil ?_
       rintro _ ⟨s, rfl⟩
       have ZR := s.h.size
       have a1 := s.cell q8 1 z4
       have a2 := s.cell q6 1 y4
       rw [z1] at a1
       rw [y1] at a2
       have sl1 : q8 < s.w.heap.size := by omega
       have sl2 : q6 < s.w.heap.size := by omega
       clear z0 z1 y0 y1
       clear c1
       go_wp2_with (go_at_call 74; refine (TE.out s.w s.h).mono ?_; rintro e W9 ⟨⟨r, rfl⟩, hb9⟩)
       all_goals have MP := ahM (Ta.out.trans ((s.h.trans (hb9.mono s.h.size)).mono Rk))
       all_goals go_roundw
       case rel => exact ⟨k + 1, (k : Int), by omega, .inr ⟨by omega, by omega⟩, by go_num, rfl, MP.out⟩
       case measure => simp [intOf]; omega
       case rel => exact ⟨k + 1, (m : Int), by omega, Y5.out, by go_num, rfl, MP.out⟩
       case measure => simp [intOf]; omega
  ·obtain rfl : n = k := by omega
   have dl : decide ((n : Int) < (n : Int)) = false := by simp
   clear hb
   go_wp2_with fail
   go_ret
   exact ⟨⟨best, rfl⟩, X7.out⟩
end
section
open Go.RowKit Go.Maps Go.Sort Go.Shelf Go.MapKept Go.ChangeMaps
def uo : Go.Shelf.Ren := ⟨fun | 7 => 73 | 10 => 99 | n => n, fun | 23 => 99 | 26 => 3 | 3 => 4 | 28 => 113 | 0 => 0 | 27 => 112 | 33 => 155 | 4 => 4 | n => n, fun | n => n⟩
theorem LP : Go.Proofs.SlLaysZI.n7 Tryz.prog uo := {
  mixed := by kernel_rfl
  f7 := ⟨Tryz.f73.name, by decide, Tryz.func73.trans (congrArg some agP)⟩
  f10 := ⟨Tryz.f99.name, by decide, Tryz.func99.trans (congrArg some agP)⟩
  t0 := Tryz.underlying0
  a0 := Tryz.isAgg0
  z0 := Tryz.sizeOf0
  v0 := Tryz.zeroValue0
  t4 := Tryz.underlying4
  a4 := Tryz.isAgg4
  z4 := Tryz.sizeOf4
  v4 := Tryz.zeroValue4
  t23 := Tryz.underlying99
  a23 := Tryz.isAgg99
  z23 := Tryz.sizeOf99
  v23 := Tryz.zeroValue99
  t26 := Tryz.underlying3
  a26 := Tryz.isAgg3
  z26 := Tryz.sizeOf3
  v26 := Tryz.zeroValue3
  t27 := Tryz.underlying112
  a27 := Tryz.isAgg112
  z27 := Tryz.sizeOf112
  v27 := Tryz.zeroValue112
  t28 := Tryz.underlying113
  a28 := Tryz.isAgg113
  z28 := Tryz.sizeOf113
  v28 := Tryz.zeroValue113
  t33 := Tryz.underlying155
  a33 := Tryz.isAgg155
  z33 := Tryz.sizeOf155
  v33 := Tryz.zeroValue155 }
def keysL_ren : Go.Shelf.Ren := ⟨fun | 7 => 41 | 10 => 71 | n => n, fun | 23 => 107 | 26 => 3 | 3 => 38 | 28 => 113 | 0 => 0 | 27 => 112 | 33 => 155 | 4 => 4 | n => n, fun | n => n⟩
theorem keysL : Go.Proofs.SlLaysZI.n7 Tryz.prog keysL_ren := {
  mixed := by kernel_rfl
  f7 := ⟨Tryz.f41.name, by decide, Tryz.func41.trans (congrArg some agP)⟩
  f10 := ⟨Tryz.f71.name, by decide, Tryz.func71.trans (congrArg some agP)⟩
  t0 := Tryz.underlying0
  a0 := Tryz.isAgg0
  z0 := Tryz.sizeOf0
  v0 := Tryz.zeroValue0
  t4 := Tryz.underlying4
  a4 := Tryz.isAgg4
  z4 := Tryz.sizeOf4
  v4 := Tryz.zeroValue4
  t23 := Tryz.underlying107
  a23 := Tryz.isAgg107
  z23 := Tryz.sizeOf107
  v23 := Tryz.zeroValue107
  t26 := Tryz.underlying3
  a26 := Tryz.isAgg3
  z26 := Tryz.sizeOf3
  v26 := Tryz.zeroValue3
  t27 := Tryz.underlying112
  a27 := Tryz.isAgg112
  z27 := Tryz.sizeOf112
  v27 := Tryz.zeroValue112
  t28 := Tryz.underlying113
  a28 := Tryz.isAgg113
  z28 := Tryz.sizeOf113
  v28 := Tryz.zeroValue113
  t33 := Tryz.underlying155
  a33 := Tryz.isAgg155
  z33 := Tryz.sizeOf155
  v33 := Tryz.zeroValue155 }
def pK : Go.Shelf.Ren := ⟨fun | 6 => 40 | 8 => 69 | 9 => 70 | 11 => 96 | 13 => 98 | 12 => 97 | 23 => 125 | 24 => 126 | 14 => 116 | 15 => 117 | 16 => 118 | 17 => 119 | 18 => 120 | 19 => 121 | 20 => 122 | 21 => 123 | 22 => 124 | 25 => 137 | 26 => 138 | 27 => 139 | 28 => 140 | 29 => 141 | 30 => 142 | 31 => 151 | n => n, fun | 26 => 3 | 28 => 113 | 24 => 38 | 0 => 0 | 3 => 3 | 37 => 129 | 48 => 70 | 50 => 206 | 4 => 4 | 40 => 200 | 39 => 199 | 45 => 47 | 5 => 5 | 9 => 9 | 51 => 213 | 55 => 135 | 57 => 218 | 58 => 133 | 33 => 155 | n => n, fun | n => n⟩
theorem A9 : Go.Proofs.SlLaysZI.n6 Tryz.prog pK := {
  mixed := by kernel_rfl
  f6 := ⟨Tryz.f40.name, by decide, Tryz.func40.trans (congrArg some agP)⟩
  f8 := ⟨Tryz.f69.name, by decide, Tryz.func69.trans (congrArg some agP)⟩
  f11 := ⟨Tryz.f96.name, by decide, Tryz.func96.trans (congrArg some agP)⟩
  t0 := Tryz.underlying0
  a0 := Tryz.isAgg0
  z0 := Tryz.sizeOf0
  v0 := Tryz.zeroValue0
  t24 := Tryz.underlying38
  a24 := Tryz.isAgg38
  z24 := Tryz.sizeOf38
  v24 := Tryz.zeroValue38
  t26 := Tryz.underlying3
  a26 := Tryz.isAgg3
  z26 := Tryz.sizeOf3
  v26 := Tryz.zeroValue3
  t28 := Tryz.underlying113
  a28 := Tryz.isAgg113
  z28 := Tryz.sizeOf113
  v28 := Tryz.zeroValue113
  i26 := by kernel_rfl }
def CR : Go.Shelf.Ren := ⟨fun | 5 => 70 | 8 => 98 | 7 => 97 | 19 => 125 | 20 => 126 | 10 => 116 | 11 => 117 | 12 => 118 | 13 => 119 | 14 => 120 | 15 => 121 | 16 => 122 | 17 => 123 | 18 => 124 | 30 => 137 | 31 => 138 | 32 => 139 | 33 => 140 | 34 => 141 | 35 => 142 | 40 => 151 | n => n, fun | 23 => 38 | 25 => 3 | 3 => 3 | 32 => 129 | 22 => 38 | 0 => 0 | 44 => 70 | 46 => 206 | 4 => 4 | 36 => 200 | 35 => 199 | 41 => 47 | 5 => 5 | 9 => 9 | 53 => 213 | 57 => 135 | 63 => 218 | 64 => 133 | n => n, fun | n => n⟩
theorem LF : Go.Proofs.SlLaysM.n5 Tryz.prog CR := {
  mixed := by kernel_rfl
  f5 := ⟨Tryz.f70.name, by decide, Tryz.func70.trans (congrArg some agP)⟩
  f7 := ⟨Tryz.f97.name, by decide, Tryz.func97.trans (congrArg some agP)⟩
  f8 := Tryz.func98.trans (congrArg some agP)
  f10 := ⟨Tryz.f116.name, by decide, Tryz.func116.trans (congrArg some agP)⟩
  f11 := ⟨Tryz.f117.name, by decide, Tryz.func117.trans (congrArg some agP)⟩
  f12 := ⟨Tryz.f118.name, by decide, Tryz.func118.trans (congrArg some agP)⟩
  f13 := ⟨Tryz.f119.name, by decide, Tryz.func119.trans (congrArg some agP)⟩
  f14 := ⟨Tryz.f120.name, by decide, Tryz.func120.trans (congrArg some agP)⟩
  f15 := ⟨Tryz.f121.name, by decide, Tryz.func121.trans (congrArg some agP)⟩
  f16 := ⟨Tryz.f122.name, by decide, Tryz.func122.trans (congrArg some agP)⟩
  f17 := ⟨Tryz.f123.name, by decide, Tryz.func123.trans (congrArg some agP)⟩
  f18 := ⟨Tryz.f124.name, by decide, Tryz.func124.trans (congrArg some agP)⟩
  f19 := Tryz.func125.trans (congrArg some agP)
  f20 := Tryz.func126.trans (congrArg some agP)
  f30 := ⟨Tryz.f137.name, by decide, Tryz.func137.trans (congrArg some agP)⟩
  f31 := Tryz.func138.trans (congrArg some agP)
  f32 := Tryz.func139.trans (congrArg some agP)
  f33 := ⟨Tryz.f140.name, by decide, Tryz.func140.trans (congrArg some agP)⟩
  f34 := ⟨Tryz.f141.name, by decide, Tryz.func141.trans (congrArg some agP)⟩
  f35 := ⟨Tryz.f142.name, by decide, Tryz.func142.trans (congrArg some agP)⟩
  f40 := ⟨Tryz.f151.name, by decide, Tryz.func151.trans (congrArg some agP)⟩
  t0 := Tryz.underlying0
  a0 := Tryz.isAgg0
  z0 := Tryz.sizeOf0
  v0 := Tryz.zeroValue0
  t3 := Tryz.underlying3
  a3 := Tryz.isAgg3
  z3 := Tryz.sizeOf3
  v3 := Tryz.zeroValue3
  t4 := Tryz.underlying4
  a4 := Tryz.isAgg4
  z4 := Tryz.sizeOf4
  v4 := Tryz.zeroValue4
  t5 := Tryz.underlying5
  a5 := Tryz.isAgg5
  z5 := Tryz.sizeOf5
  v5 := Tryz.zeroValue5
  t9 := Tryz.underlying9
  a9 := Tryz.isAgg9
  z9 := Tryz.sizeOf9
  v9 := Tryz.zeroValue9
  t22 := Tryz.underlying38
  a22 := Tryz.isAgg38
  z22 := Tryz.sizeOf38
  v22 := Tryz.zeroValue38
  t23 := Tryz.underlying38
  a23 := Tryz.isAgg38
  z23 := Tryz.sizeOf38
  v23 := Tryz.zeroValue38
  t25 := Tryz.underlying3
  a25 := Tryz.isAgg3
  z25 := Tryz.sizeOf3
  v25 := Tryz.zeroValue3
  t32 := Tryz.underlying129
  a32 := Tryz.isAgg129
  z32 := Tryz.sizeOf129
  v32 := Tryz.zeroValue129
  t35 := Tryz.underlying199
  a35 := Tryz.isAgg199
  z35 := Tryz.sizeOf199
  v35 := Tryz.zeroValue199
  t36 := Tryz.underlying200
  a36 := Tryz.isAgg200
  z36 := Tryz.sizeOf200
  v36 := Tryz.zeroValue200
  t41 := Tryz.underlying47
  a41 := Tryz.isAgg47
  z41 := Tryz.sizeOf47
  v41 := Tryz.zeroValue47
  t44 := Tryz.underlying70
  a44 := Tryz.isAgg70
  z44 := Tryz.sizeOf70
  v44 := Tryz.zeroValue70
  t46 := Tryz.underlying206
  a46 := Tryz.isAgg206
  z46 := Tryz.sizeOf206
  v46 := Tryz.zeroValue206
  t53 := Tryz.underlying213
  a53 := Tryz.isAgg213
  z53 := Tryz.sizeOf213
  v53 := Tryz.zeroValue213
  t57 := Tryz.underlying135
  a57 := Tryz.isAgg135
  z57 := Tryz.sizeOf135
  v57 := Tryz.zeroValue135
  t63 := Tryz.underlying218
  a63 := Tryz.isAgg218
  z63 := Tryz.sizeOf218
  v63 := Tryz.zeroValue218
  t64 := Tryz.underlying133
  a64 := Tryz.isAgg133
  z64 := Tryz.sizeOf133
  v64 := Tryz.zeroValue133 }
theorem Fp (m : Nat) : AnyZI.SortsIn Tryz.prog pK Fence.wide m :=
  ⟨fun blk off cap ss W hH hblk hsz => callsIn_wide.2 (AnyM.slices_Sort_int LF blk off cap ss W hH hblk hsz),
   fun p cap W => callsIn_wide.2 (AnyM.slices_Sort_int_none LF p cap W)⟩
theorem Du (mb : Option Nat) (W : World) : Calls Tryz.prog 73 #[.map mb] W fun e w' => e = .returned (.func (.func 99) #[] #[.pointer (some ⟨W.heap.size, 0, none⟩)]) ∧ w' = W.alloc (.cells #[.map mb] 99) :=
  (callsIn_wide (n := 5)).1 (AnyZI.keys_in LP Fence.wide 5 trivial rfl mb W)
theorem Dt (mb : Option Nat) (W : World) : Calls Tryz.prog 41 #[.map mb] W fun e w' => e = .returned (.func (.func 71) #[] #[.pointer (some ⟨W.heap.size, 0, none⟩)]) ∧ w' = W.alloc (.cells #[.map mb] 107) :=
  (callsIn_wide (n := 5)).1 (AnyZI.keys_in keysL Fence.wide 5 trivial rfl mb W)
def Dv : Value → Int
  | .int _ a => a
  | _ => 0
def xq : Value → Option (DataW Unit × List MemPlace) := fun _ => some (.nil, [])
theorem rF {n : Nat} {l : List Int} (h : l.Nodup) (hl : ∀ x ∈ l, 0 ≤ x ∧ x < (n : Int)) : l.length ≤ n := by
  have h1 : (l.map Int.toNat).Nodup := by
    unfold List.Nodup
    rw [List.pairwise_map]
    refine h.imp_of_mem fun {a b} ha hb hne e => hne ?_
    have := hl a ha
    have := hl b hb
    omega
  have h2 := fc (n := n) h1 fun x hx => by
    obtain ⟨y, hy, rfl⟩ := List.mem_map.1 hx
    have := hl y hy
    omega
  simpa using h2
theorem Im.own {w : World} {b : Nat} {f : Int → Option Value} (h : Im w b f) (N : Nat) (hN : ∀ k v, f k = some v → 0 ≤ k ∧ k < (N : Int)) (UN : N ≤ 1000000) :
    ∃ (ks : List Int) (D0 : DataW Unit), ks.Nodup ∧ (∀ x, x ∈ ks ↔ f x ≠ none) ∧ w.ownsMap Tryz.prog 3 xq b N D0 ∧ (intKeys D0).Perm ks ∧ Maps.size D0 = ks.length ∧ ks.length ≤ N := by
  obtain ⟨es, clock, hb, q⟩ := h
  have hst := (stamped_iff es clock).1 q.stamped
  have hrd : ∀ x ∈ es.toList, ∃ k, JU k ∧ x.key = kv k ∧ f k = some x.val ∧ Go.WideElems.rg Tryz.prog 3 xq x = (.int .i64 k, .nil) := fun x hx => by
    obtain ⟨k, h1, h2, h3⟩ := q.vals x hx
    refine ⟨k, h1, h2, h3, ?_⟩
    have := gD (P := Tryz.prog) (kt := 3) Tryz.underlying3 h1
    simp [Go.WideElems.rg, Go.WideElems.rd, h2, this, xq]
  have hnd : (es.toList.map fun x => Dv x.key).Nodup := by
    unfold List.Nodup
    rw [List.pairwise_map]
    refine hst.2.2.imp_of_mem fun {a c} ha hc hne e => hne ?_
    obtain ⟨k, _, h2, _⟩ := hrd a ha
    obtain ⟨k', _, h2', _⟩ := hrd c hc
    rw [h2, h2'] at e ⊢
    simp only [Dv, kv] at e
    rw [e]
  have hmem : ∀ x, x ∈ es.toList.map (fun x => Dv x.key) ↔ f x ≠ none := fun x => by
    rw [List.mem_map]
    constructor
    · rintro ⟨y, hy, rfl⟩
      obtain ⟨k, _, h2, h3, _⟩ := hrd y hy
      rw [h2]
      simp [Dv, kv, h3]
    · intro hx
      obtain ⟨v, hv⟩ := Option.ne_none_iff_exists'.1 hx
      obtain ⟨y, hy, e⟩ := q.rest x v hv
      exact ⟨y, hy, by rw [e]; rfl⟩
  have hlen : (es.toList.map fun x => Dv x.key).length ≤ N := rF hnd fun x hx => by
    obtain ⟨v, hv⟩ := Option.ne_none_iff_exists'.1 ((hmem x).1 hx)
    exact hN x v hv
  have hsz : es.size ≤ N := by simpa using hlen
  have hperm := Go.WideShapes.sorted_perm (es.toList.map (Go.WideElems.rg Tryz.prog 3 xq))
  refine ⟨_, _, hnd, hmem, ⟨es, clock, hb, ⟨by unfold maxLen; omega, q.stamped, fun x hx => ?_⟩, hsz, rfl⟩, ?_, ?_, hlen⟩
  · obtain ⟨k, h1, h2, _⟩ := hrd x hx
    have := gD (P := Tryz.prog) (kt := 3) Tryz.underlying3 h1
    exact ⟨_, by simp [Go.WideElems.rd, h2, this, xq]; rfl⟩
  · have := hperm.map fun p => Go.intOf p.1
    rw [List.map_map] at this
    refine List.Perm.trans this (List.Perm.of_eq (List.map_congr_left fun x hx => ?_))
    obtain ⟨k, _, h2, _, h4⟩ := hrd x hx
    simp only [Function.comp, h4, h2, Dv, kv]
    rfl
  · show List.length _ = _
    rw [hperm.length_eq]; simp
theorem qW {w : World} {base base' : Nat} {e : TypeId} {size : Nat} {v : Value} {n : Nat} {xs : List Value} (h : w.ownsRow base e size v n xs) (hb : base' ≤ base) : w.ownsRow base' e size v n xs := by
  refine ⟨h.1, ?_⟩
  rcases h.2 with h2 | ⟨g, cap, cur, h2, h3, h4⟩
  · exact .inl h2
  · exact .inr ⟨g, cap, cur, h2, Nat.le_trans hb h3, h4⟩
structure jZ (f : Int → Option Value) (l : List Int) : Prop where
  MG : l.Pairwise (· < ·)
  mem : ∀ x, x ∈ l ↔ f x ≠ none
theorem pJ {ks ss : List Int} {f : Int → Option Value} (hn : ks.Nodup) (hm : ∀ x, x ∈ ks ↔ f x ≠ none) (hp : ss.Perm ks) : jZ f (ss.mergeSort fun x y => decide (x ≤ y)) := by
  have hps := (List.mergeSort_perm ss fun x y => decide (x ≤ y)).trans hp
  refine ⟨?_, fun x => (hps.mem_iff).trans (hm x)⟩
  have h1 : (ss.mergeSort fun x y => decide (x ≤ y)).Pairwise fun x y => decide (x ≤ y) = true := List.pairwise_mergeSort (fun a b c h1 h2 => by simp only [decide_eq_true_eq] at *; omega) (fun a b => by simp only [Bool.or_eq_true, decide_eq_true_eq]; omega) ss
  have h2 : (ss.mergeSort fun x y => decide (x ≤ y)).Nodup := hps.nodup_iff.2 hn
  refine (h1.and h2).imp fun {a b} ⟨h3, h4⟩ => ?_
  have := of_decide_eq_true h3
  omega
theorem wW (b q N : Nat) (f : Int → Option Value) (w : World) (hM : Im w b f) (hN : ∀ k v, f k = some v → 0 ≤ k ∧ k < (N : Int)) (UN : N ≤ 1000000) (hq : q < w.heap.size) (hc : w.cell? ⟨q, 0, none⟩ = some (.map (some b))) :
    Calls Tryz.prog 40 #[.func (.func 99) #[] #[.pointer (some ⟨q, 0, none⟩)]] w fun e w' => ∃ v l, e = .returned v ∧ w'.ownsRow w.heap.size 3 1 v l.length (dQ l) ∧ jZ f l ∧ Below w.heap.size w w' := by
  obtain ⟨ks, D0, h1, h2, hown, h3, h4, h5⟩ := hM.own N hN UN
  have hseq : SeqGives Fence.wide 2 Tryz.prog 99 #[.pointer (some ⟨q, 0, none⟩)] encZ (fun ss => ss.Perm (intKeys D0)) (Maps.size D0) w :=
    AnyZI.keys_gives (ρ := uo) { LP with } Fence.wide _ trivial rfl agO q b N D0 _ hq hc hown
  have cS := AnyZI.sorted_in A9 Fence.wide 5 trivial trivial trivial trivial rfl agO (Fp _) (enters_of Tryz.func70 agP rfl) 99 #[.pointer (some ⟨q, 0, none⟩)] trivial (enters_of Tryz.func99 agP rfl) _ _ (by rw [h4]; unfold maxLen; omega) (by rw [h4]; omega) w hseq
  refine ((callsIn_wide (n := 5)).1 cS).mono ?_
  rintro e w' ⟨v, ss, rfl, hS, hrow, hnil, hb⟩
  refine ⟨v, _, rfl, ?_, pJ h1 h2 (List.Perm.trans hS h3), hb⟩
  have e1 : (ss.mergeSort fun x y => decide (x ≤ y)).length = ss.length := List.length_mergeSort ..
  rw [← e1] at hrow
  exact hrow
theorem wV (b q N : Nat) (f : Int → Option Value) (w : World) (hM : Im w b f) (hN : ∀ k v, f k = some v → 0 ≤ k ∧ k < (N : Int)) (UN : N ≤ 1000000) (hq : q < w.heap.size) (hc : w.cell? ⟨q, 0, none⟩ = some (.map (some b))) :
    Calls Tryz.prog 40 #[.func (.func 71) #[] #[.pointer (some ⟨q, 0, none⟩)]] w fun e w' => ∃ v l, e = .returned v ∧ w'.ownsRow w.heap.size 3 1 v l.length (dQ l) ∧ jZ f l ∧ Below w.heap.size w w' := by
  obtain ⟨ks, D0, h1, h2, hown, h3, h4, h5⟩ := hM.own N hN UN
  have hseq : SeqGives Fence.wide 2 Tryz.prog 71 #[.pointer (some ⟨q, 0, none⟩)] encZ (fun ss => ss.Perm (intKeys D0)) (Maps.size D0) w :=
    AnyZI.keys_gives (ρ := keysL_ren) { keysL with } Fence.wide _ trivial rfl agO q b N D0 _ hq hc hown
  have cS := AnyZI.sorted_in A9 Fence.wide 5 trivial trivial trivial trivial rfl agO (Fp _) (enters_of Tryz.func70 agP rfl) 71 #[.pointer (some ⟨q, 0, none⟩)] trivial (enters_of Tryz.func71 agP rfl) _ _ (by rw [h4]; unfold maxLen; omega) (by rw [h4]; omega) w hseq
  refine ((callsIn_wide (n := 5)).1 cS).mono ?_
  rintro e w' ⟨v, ss, rfl, hS, hrow, hnil, hb⟩
  refine ⟨v, _, rfl, ?_, pJ h1 h2 (List.Perm.trans hS h3), hb⟩
  have e1 : (ss.mergeSort fun x y => decide (x ≤ y)).length = ss.length := List.length_mergeSort ..
  rw [← e1] at hrow
  exact hrow
end
section
open Go.RowKit
open Classical in
noncomputable def iK (S : Nat → Prop) : Int → Option Value := fun k => if 0 ≤ k ∧ S k.toNat then some (.bool true) else none
theorem Hr {S : Nat → Prop} {b : Nat} (h : S b) : iK S (b : Int) = some (.bool true) := by unfold iK; rw [if_pos ⟨by omega, by rw [Int.toNat_natCast]; exact h⟩]
theorem BI {S : Nat → Prop} {b : Nat} (h : ¬ S b) : iK S (b : Int) = none := by unfold iK; rw [if_neg]; rintro ⟨_, h2⟩; rw [Int.toNat_natCast] at h2; exact h h2
theorem sk (S : Nat → Prop) (b : Nat) : fQ (iK S) (b : Int) (.bool true) = iK (fun x => S x ∨ x = b) := by
 funext k
 unfold fQ iK
 by_cases h : k = (b : Int)
 ·subst h
  rw [if_pos rfl, if_pos ⟨by omega, .inr (Int.toNat_natCast b)⟩]
 ·rw [if_neg h]
  by_cases h0 : 0 ≤ k
  ·have : k.toNat ≠ b := by omega
   by_cases hs : S k.toNat <;> simp [h0, this, hs]
  ·simp [h0]
theorem KI {S : Nat → Prop} {n : Nat} (h : ∀ x, S x → x < n) : ∀ k v, iK S k = some v → 0 ≤ k ∧ k < (n : Int) := fun k v hk => by
 unfold iK at hk
 split at hk
 ·rename_i hc
  have := h _ hc.2
  omega
 ·cases hk
theorem KH {S : Nat → Prop} {x : Int} : iK S x ≠ none ↔ 0 ≤ x ∧ S x.toNat := by
 unfold iK
 split
 ·rename_i h; simp [h]
 ·rename_i h; simp only [ne_eq, not_true_eq_false, false_iff]; exact h
open Classical in
noncomputable def nX (S : Nat → Prop) (l : List Nat) : Nat := l.countP fun x => decide (¬ S x)
theorem uG {S S' : Nat → Prop} (h : ∀ x, S x → S' x) (l : List Nat) : nX S' l ≤ nX S l := by
 unfold nX
 refine List.countP_mono_left fun x _ hx => ?_
 simp only [decide_eq_true_eq] at hx ⊢
 exact fun h1 => hx (h x h1)
noncomputable def Eg (n : Nat) (S : Nat → Prop) : Nat := nX S (List.range n)
theorem Ef {n : Nat} {S S' : Nat → Prop} (h : ∀ x, S x → S' x) : Eg n S' ≤ Eg n S := uG h _
theorem pX (S : Nat → Prop) (l m : List Nat) : nX S (l ++ m) = nX S l + nX S m := by unfold nX; exact List.countP_append
theorem Hg {S : Nat → Prop} {b : Nat} (h : S b) (l : List Nat) : nX S (b :: l) = nX S l := by unfold nX; rw [List.countP_cons, if_neg (by simp [h])]; rfl
theorem Ks {S : Nat → Prop} {b : Nat} (h : ¬ S b) (l : List Nat) : nX S (b :: l) = nX S l + 1 := by unfold nX; rw [List.countP_cons, if_pos (by simp [h])]
theorem yq {n b : Nat} {S : Nat → Prop} (hb : b < n) (h : ¬ S b) : Eg n (fun x => S x ∨ x = b) < Eg n S := by
 unfold Eg
 have e1 : List.range n = List.range b ++ b :: (List.range' (b + 1) (n - b - 1)) := by
  rw [List.range_eq_range', List.range_eq_range', show n = b + (1 + (n - b - 1)) by omega, ← List.range'_append_1, ← List.range'_append_1]
  simp
 have le := uG (S := S) (S' := fun x => S x ∨ x = b) fun x hx => .inl hx
 rw [e1, pX, pX, Ks h, Hg (S := fun x => S x ∨ x = b) (.inr rfl)]
 have h1 := le (List.range b)
 have h2 := le (List.range' (b + 1) (n - b - 1))
 omega
structure E5 (w wr : World) (mq pq gq fq mb : Nat) (pv bv lv : Value) (S : Nat → Prop) : Prop where
 aC : Below w.heap.size w wr
 Uq : wr.heap[mq]? = some (.cells #[.map (some mb)] 99 (0, 0))
 Ds : wr.heap[pq]? = some (.cells #[pv] 38 (0, 0))
 JV : wr.heap[gq]? = some (.cells #[bv, lv] 31 (0, 0))
 JW : wr.heap[fq]? = some (.cells #[.func (.func 72) #[] #[.pointer (some ⟨mq, 0, none⟩), .pointer (some ⟨pq, 0, none⟩), .pointer (some ⟨gq, 0, none⟩), .pointer (some ⟨fq, 0, none⟩)]] 152 (0, 0))
 im : Im wr mb (iK S)
 hi : w.heap.size ≤ mb
section
variable {w wr : World} {mq pq gq fq mb : Nat} {pv bv lv : Value} {S : Nat → Prop}
theorem E5.put (h : E5 w wr mq pq gq fq mb pv bv lv S) (b : Nat) {w' : World} (hm : Im w' mb (fQ (iK S) (b : Int) (.bool true))) (ho : w'.os = wr.os) (ht : w'.tape = wr.tape) (hp : w'.output = wr.output) (hs : w'.heap.size = wr.heap.size) (hk : ∀ i, i ≠ mb → w'.heap[i]? = wr.heap[i]?) : E5 w w' mq pq gq fq mb pv bv lv (fun x => S x ∨ x = b) := by
 have ne : ∀ (q : Nat) (o : Array Value) (t : TypeId), wr.heap[q]? = some (.cells o t (0, 0)) → q ≠ mb := fun q o t hq e => by
  obtain ⟨es, cl, h1, _⟩ := h.im
  rw [e, h1] at hq; cases hq
 refine ⟨h.aC.trans ⟨ho, ht, hp, by omega, fun k hk' => hk k (by have := h.hi; omega)⟩, (hk _ (ne _ _ _ h.Uq)).trans h.Uq, (hk _ (ne _ _ _ h.Ds)).trans h.Ds, (hk _ (ne _ _ _ h.JV)).trans h.JV, (hk _ (ne _ _ _ h.JW)).trans h.JW, ?_, h.hi⟩
 rw [← sk]; exact hm
theorem E5.cells (h : E5 w wr mq pq gq fq mb pv bv lv S) : wr.cell? ⟨mq, 0, none⟩ = some (.map (some mb)) ∧ wr.cell? ⟨pq, 0, none⟩ = some pv ∧ wr.cell? ⟨gq, 1, none⟩ = some lv ∧ wr.cell? ⟨fq, 0, none⟩ = some (.func (.func 72) #[] #[.pointer (some ⟨mq, 0, none⟩), .pointer (some ⟨pq, 0, none⟩), .pointer (some ⟨gq, 0, none⟩), .pointer (some ⟨fq, 0, none⟩)]) ∧ mq < wr.heap.size ∧ pq < wr.heap.size ∧ gq < wr.heap.size ∧ fq < wr.heap.size :=
 ⟨by simp [World.cell?, h.Uq], by simp [World.cell?, h.Ds], by simp [World.cell?, h.JV], by simp [World.cell?, h.JW], (Array.getElem?_eq_some_iff.1 h.Uq).1, (Array.getElem?_eq_some_iff.1 h.Ds).1, (Array.getElem?_eq_some_iff.1 h.JV).1, (Array.getElem?_eq_some_iff.1 h.JW).1⟩
end
structure Ik (w : World) (pk po n : Nat) (R : Nat → Prop) : Prop where
 lt : pk < w.heap.size
 at_ : ∀ k, k < n → ∃ x : Int, w.cell? ⟨pk, po + k, none⟩ = some (.int .i64 x) ∧ (0 ≤ x ↔ R k)
theorem sA (w : World) : (zeroValue 4).run Tryz.prog w = .ok (.bool false) w := by kernel_rfl
theorem AE {G : List aZ} {P : List (List Int)} {R : Nat → Prop} (HV : cm G P) (hn5 : G.length ≤ 5000) (w : World) (mq pq gq fq mb pk po aT : Nat) (bv lv : Value) (HP : l9 w lv P) (Jq : Ik w pk po G.length R) : ∀ (f b : Nat) (S : Nat → Prop) (wr : World), E5 w wr mq pq gq fq mb (.slice (some ⟨pk, po, none⟩) G.length aT) bv lv S → Eg G.length S ≤ f → b < G.length →
  Calls Tryz.prog 72 #[.int .i64 (b : Int), .pointer (some ⟨mq, 0, none⟩), .pointer (some ⟨pq, 0, none⟩), .pointer (some ⟨gq, 0, none⟩), .pointer (some ⟨fq, 0, none⟩)] wr fun e w' => e = .returned (.tuple #[]) ∧ ∃ S' : Nat → Prop, E5 w w' mq pq gq fq mb (.slice (some ⟨pk, po, none⟩) G.length aT) bv lv S' ∧ Jl (lT P) R b S S' := by
 have he : ∀ (args : Array Value) (w : World), (callFunc 72 args).run Tryz.prog w = .ok (.enter 72 args) w := fun _ _ => by kernel_rfl
 obtain ⟨PA, xI, rfl, hp1, hp2⟩ := HP.slice
 have wK := ahM HV.len
 have Iy := ahM HV
 have Yl := ahM HP
 have Jq := ahM Jq
 clear HP HV hp1 hp2
 have seen : ∀ (b : Nat) (S : Nat → Prop) (wr : World), E5 w wr mq pq gq fq mb (.slice (some ⟨pk, po, none⟩) G.length aT) bv (.slice PA P.length xI) S → S b → b < G.length →
   Calls Tryz.prog 72 #[.int .i64 (b : Int), .pointer (some ⟨mq, 0, none⟩), .pointer (some ⟨pq, 0, none⟩), .pointer (some ⟨gq, 0, none⟩), .pointer (some ⟨fq, 0, none⟩)] wr fun e w' => e = .returned (.tuple #[]) ∧ ∃ S' : Nat → Prop, E5 w w' mq pq gq fq mb (.slice (some ⟨pk, po, none⟩) G.length aT) bv (.slice PA P.length xI) S' ∧ Jl (lT P) R b S S' := by
  intro b S wr hB hS kA
  obtain ⟨t1, t2, t3, t4, t5, t6, t7, t8⟩ := hB.cells
  have Qg := ahM hB
  have hl := hB.im.gj (P := Tryz.prog) (kt := 3) (t := 99) (e := 4) Tryz.underlying3 Tryz.underlying99 (Hr hS) false
  simp only [kv, Bool.false_eq_true, if_false] at hl
  have HR := ahM (show Jl (lT P) R b S S from .skip (.inl hS))
  clear hB hS
  go_enter Tryz.func72, Tryz.ntmps72
  go_wp2_with fail
  refine bodyPost_ret (results_none rfl _ _ _) rfl ⟨rfl, S, Qg.out, HR.out⟩
 have SEEN := ahM seen
 clear seen
 intro f
 induction f with
 | zero =>
  intro b S wr hB tF kA
  refine SEEN.out b S wr hB (Classical.byContradiction fun hno => ?_) kA
  have := yq kA hno
  omega
 | succ f ih =>
  intro b S wr hB tF kA
  obtain ⟨t1, t2, t3, t4, t5, t6, t7, t8⟩ := hB.cells
  have hsz := hB.aC.size
  have i1 : (b : Int) < (G.length : Int) := by omega
  obtain ⟨x, hx, Re⟩ := Jq.out.at_ b kA
  have VP := Jq.out.lt
  have x1 : wr.cell? ⟨pk, po + b, none⟩ = some (.int .i64 x) := (hB.aC.cell (p := ⟨pk, po + b, none⟩) VP).trans hx
  have Qx : pk < wr.heap.size := by omega
  have Qg := ahM hB
  have IH := ahM ih
  have yZ := ahM tF
  clear ih tF hx
  by_cases hS : S b
  ·exact SEEN.out b S wr hB hS kA
  ·have hl := hB.im.gS (P := Tryz.prog) (kt := 3) (t := 99) (e := 4) Tryz.underlying3 Tryz.underlying99 (sA wr) (eP (k := (b : Int)) agO agO) (BI hS) false
   simp only [kv, Bool.false_eq_true, if_false] at hl
   by_cases hx0 : x < 0
   ·have dx : decide (x < 0) = true := decide_eq_true hx0
    have HR := ahM (show Jl (lT P) R b S S from .skip (.inr fun hr => by have := Re.2 hr; omega))
    clear hB hS
    go_enter Tryz.func72, Tryz.ntmps72
    go_wp2_with fail
    refine bodyPost_ret (results_none rfl _ _ _) rfl ⟨rfl, S, Qg.out, HR.out⟩
   ·have dx : decide (x < 0) = false := decide_eq_false hx0
    have Vc := ahM (show R b from Re.1 agO)
    obtain ⟨W2, hput, hm2, o1, o2, o3, o4, o5⟩ := hB.im.put (P := Tryz.prog) (kt := 3) (t := 99) (e := 4) Tryz.underlying3 Tryz.underlying99 (k := (b : Int)) (eP agO agO) (.bool true)
    simp only [kv] at hput
    have hB2 := hB.put b hm2 o1 o2 o3 o4 o5
    have E0 := ahM hB2
    obtain ⟨-, -, u3, -, -, -, u7, -⟩ := hB2.cells
    obtain ⟨pl, hpl⟩ : ∃ l, P.getD b [] = l := ⟨_, rfl⟩
    have ibP : (b : Int) < (P.length : Int) := by rw [wK.out]; omega
    obtain ⟨qk, qo, RR, sqk, lv, pc1, hlv⟩ : ∃ qk qo, PA = some ⟨qk, qo, none⟩ ∧ qk < w.heap.size ∧ ∃ lv, w.cell? ⟨qk, qo + b, none⟩ = some lv ∧ Ints w lv pl := by
     obtain ⟨_, _, e1, _, _, e4⟩ := Yl.out
     cases e1
     have RM : b < P.length := by omega
     obtain ⟨pk, po, e5, e6, e7⟩ := e4 agO
     obtain ⟨lv, e8, e9⟩ := e7 b _ (List.getElem?_eq_getElem RM)
     refine ⟨pk, po, e5, e6, lv, e8, ?_⟩
     rw [← hpl, List.getD, List.getElem?_eq_getElem RM]
     exact e9
    subst RR
    obtain ⟨LA, lc2, rfl, hl1, hl2⟩ := hlv.slice
    have pc2 : W2.cell? ⟨qk, qo + b, none⟩ = some (.slice LA pl.length lc2) := (hB2.aC.cell (p := ⟨qk, qo + b, none⟩) sqk).trans pc1
    have sqw : qk < W2.heap.size := by have := hB2.aC.size; omega
    have Tx := ahM hlv
    have Iz := ahM (fun p => Be (p := p) Iy.out kA)
    have A4 := ahM hpl
    have HNS := ahM hS
    clear hB hB2 hS hlv hpl pc1 hm2 o1 o2 o3 o4 o5 Re hx0
    go_enter Tryz.func72, Tryz.ntmps72
    go_upto_region 3 with fail
    clear pc2 sqw u3 u7 t1 t2 t3 t4 t5 t6 t7 t8 hl hput x1
    go_loopw [26] (fun a26 wr => ∃ (j : Nat) (S' : Nat → Prop), j ≤ pl.length ∧ a26 = .int .i64 (j : Int) ∧ E5 w wr mq pq gq fq mb (.slice (some ⟨pk, po, none⟩) G.length aT) bv (.slice (some ⟨qk, qo, none⟩) P.length xI) S' ∧ tM (lT P) R ((lT P b).take j) (fun x => S x ∨ x = b) S') (fun a26 _ => pl.length - (intOf a26).toNat)
    case atStart => exact ⟨0, _, Nat.zero_le _, rfl, E0.out, .nil⟩
    case round =>
     clear E0
     obtain ⟨j, S', hj, rfl, hB, zX⟩ := hrel
     obtain ⟨t1, t2, t3, t4, t5, t6, t7, t8⟩ := hB.cells
     have M6 := ahM hB
     have X8 := ahM zX
     by_cases hlt : j < pl.length
     ·have dl : decide ((j : Int) < (pl.length : Int)) = true := decide_eq_true agO
      obtain ⟨pv0, lb, lo, hs, N9, Qz, lc⟩ := Tx.out.at_ hB.aC hlt
      subst N9
      have hpv := (Iz.out 0).2 pv0 (by rw [A4.out]; exact List.mem_of_getElem? hs)
      obtain ⟨p, rfl⟩ : ∃ p : Nat, pv0 = (p : Int) := ⟨pv0.toNat, by omega⟩
      have xQ : p < G.length := by omega
      have jl := ahM (show (lT P b).take (j + 1) = (lT P b).take j ++ [p] by
       have : (lT P b)[j]? = some p := by unfold lT; rw [A4.out, List.getElem?_map, hs]; rfl
       rw [List.take_add_one, this]; rfl)
      have Ul : lb < wr.heap.size := by have := hB.aC.size; omega
      have sN := ahM (IH.out p S' wr hB (by
       have h1 := yq kA HNS.out
       have h2 := Ef (n := G.length) zX.grow
       have h3 := yZ.out
       omega) xQ)
      clear hB zX hs hpv
      go_wp2_with (go_at_call 72; refine sN.out.mono ?_; rintro e W7 ⟨rfl, S7, Xt, Xl⟩)
      go_roundw
      case rel => exact ⟨j + 1, S7, by omega, by go_num, Xt, by rw [jl.out]; exact X8.out.snoc Xl⟩
      case measure => simp [intOf]; omega
     ·obtain rfl : j = pl.length := by omega
      have dl : decide ((pl.length : Int) < (pl.length : Int)) = false := by simp
      have HR := ahM (show Jl (lT P) R b S S' from .of Vc.out HNS.out (by
       have e : (lT P b).take pl.length = lT P b := List.take_of_length_le (by unfold lT; rw [A4.out, List.length_map]; exact Nat.le_refl _)
       rw [e] at zX
       exact zX))
      clear hB zX
      go_wp2_with fail
      refine bodyPost_end (results_none rfl _ _ _) rfl ⟨rfl, S', M6.out, HR.out⟩
end
section
open Go.RowKit
structure yJ (pv : Nat → List Nat) (R : Nat → Prop) (h : Nat) (gC : List Nat) (l : List Int) : Prop where
 MG : l.Pairwise (· < ·)
 mem : ∀ x, x ∈ l ↔ 0 ≤ x ∧ MM pv R h gC x.toNat
theorem Ia {G : List aZ} {P : List (List Int)} {R : Nat → Prop} (HV : cm G P) (hn5 : G.length ≤ 5000) (hR : ∀ x, R x → x < G.length) (w : World) (pk po aT h : Nat) (bv lv QW : Value) (gC : List Nat) (HP : l9 w lv P) (Jq : Ik w pk po G.length R) (HL : Ints w QW (bT gC)) (hh : h < G.length) (hRh : R h) (Rv : ∀ l ∈ gC, l < G.length) :
  Calls Tryz.prog 42 #[.agg #[bv, lv], .int .i64 (h : Int), QW, .slice (some ⟨pk, po, none⟩) G.length aT] w fun e w' => ∃ v l, e = .returned v ∧ w'.ownsRow w.heap.size 3 1 v l.length (dQ l) ∧ yJ (lT P) R h gC l ∧ Below w.heap.size w w' := by
 have mk := fun W : World => (show (Instr.makeMap 99 none).run Tryz.prog W = .ok (.map (some W.heap.size)) (W.alloc (.map #[] 0)) from rfl)
 have WR : ∀ (fn : Fn) (first cap : Array Value) (w : World), (Instr.makeFunc fn first cap).run Tryz.prog w = .ok (.func fn first cap) w := fun _ _ _ _ => rfl
 have he : ∀ (args : Array Value) (w : World), (callFunc 72 args).run Tryz.prog w = .ok (.enter 72 args) w := fun _ _ => by kernel_rfl
 obtain ⟨LA, xI, rfl, hl1, hl2⟩ := HL.slice
 obtain ⟨PA, ju, rfl, -, -⟩ := HP.slice
 obtain ⟨m, hm⟩ : ∃ m, (bT gC).length = m := ⟨_, rfl⟩
 rw [hm] at hl1 ⊢
 have HM := ahM hm
 obtain ⟨pn, xQ⟩ : ∃ m, P.length = m := ⟨_, rfl⟩
 have HPN := ahM xQ
 rw [xQ]
 have Iy := ahM HV
 have Yl := ahM (show l9 w (.slice PA pn ju) P by rw [← xQ]; exact HP)
 have Ym := ahM Jq
 have Jr := ahM HL
 have YF := ahM Rv
 obtain ⟨gq, Jc⟩ : ∃ q, w.heap.size = q := ⟨_, rfl⟩
 obtain ⟨pq, hpq⟩ : ∃ q, gq + 1 = q := ⟨_, rfl⟩
 obtain ⟨mb, hmb⟩ : ∃ q, pq + 1 = q := ⟨_, rfl⟩
 obtain ⟨W1, hW1⟩ : ∃ V, w.alloc (.cells #[bv, .slice PA pn ju] 31) = V := ⟨_, rfl⟩
 obtain ⟨W2, hW2⟩ : ∃ V, W1.alloc (.cells #[.slice (some ⟨pk, po, none⟩) G.length aT] 38) = V := ⟨_, rfl⟩
 have s1 : W1.heap.size = w.heap.size + 1 := by rw [← hW1]; simp
 have s2 : W2.heap.size = w.heap.size + 1 + 1 := by rw [← hW2, World.size_alloc, s1]
 obtain ⟨W3, hput, hm3, o1, o2, o3, o4, o5⟩ := (Im.made W2).put (P := Tryz.prog) (kt := 3) (t := 99) (e := 4) Tryz.underlying3 Tryz.underlying99 (k := (h : Int)) (eP agO agO) (.bool true)
 have hb2 : Below w.heap.size w W2 := hW2 ▸ (hW1 ▸ (Below.refl _ _).alloc (Nat.le_refl _) _ : Below w.heap.size w W1).alloc agO _
 have hb3 : Below w.heap.size w W3 := (hb2.alloc agO (.map #[] 0)).trans ⟨o1, o2, o3, by rw [o4]; exact Nat.le_refl _, fun k hk => o5 k agO⟩
 have es2 : W2.heap.size = mb := by rw [s2, Jc, hpq, hmb]
 have e3 : W3.heap.size = mb + 1 := by rw [o4, World.size_alloc, es2]
 have k1 : W3.heap[gq]? = some (.cells #[bv, .slice PA pn ju] 31 (0, 0)) := by
  rw [o5 gq agO, heap_alloc_old _ _ agO, ← hW2, heap_alloc_old _ _ agO, ← hW1, ← Jc]; exact heap_alloc_new _ _
 have k2 : W3.heap[pq]? = some (.cells #[.slice (some ⟨pk, po, none⟩) G.length aT] 38 (0, 0)) := by
  rw [o5 pq agO, heap_alloc_old _ _ agO, ← hW2, ← hpq, ← Jc, ← s1]; exact heap_alloc_new _ _
 have Rs : Im W3 mb (iK (fun x => x = h)) := by
  rw [← es2]
  have e : fQ (fun _ => none) (h : Int) (.bool true) = iK (fun x => x = h) := by
   have := sk (fun _ => False) h
   rw [show iK (fun _ => False) = fun _ => none by funext k; simp [iK]] at this
   rw [this]; congr 1; funext x; simp
  rw [← e]; exact hm3
 simp only [kv, es2] at hput
 have K1 := ahM k1
 have K2 := ahM k2
 have M3 := ahM Rs
 have B3 := ahM hb3
 clear es2 HV HP Jq HL Rv hm xQ hm3 Rs o1 o2 o3 o4 o5 k1 k2 hb2 hb3
 go_enter Tryz.func42, Tryz.ntmps42
 go_upto_region 2 with fail
 obtain ⟨mq, Mc⟩ : ∃ q, mb + 1 = q := ⟨_, rfl⟩
 obtain ⟨V4, qF⟩ : ∃ V, W3.alloc (.cells #[.map (some mb)] 99) = V := ⟨_, rfl⟩
 rw [qF, Mc]
 obtain ⟨fq, PC⟩ : ∃ q, V4.heap.size = q := ⟨_, rfl⟩
 obtain ⟨V5, uA⟩ : ∃ V, V4.alloc (.cells #[.func (.func 72) #[] #[.pointer (some ⟨mq, 0, none⟩), .pointer (some ⟨pq, 0, none⟩), .pointer (some ⟨gq, 0, none⟩), .pointer (some ⟨fq, 0, none⟩)]] 152) = V := ⟨_, rfl⟩
 have HMQ := ahM Mc
 clear hput Mc
 go_upto_region 4 with fail
 have Mc := HMQ.out
 have s4 : V4.heap.size = W3.heap.size + 1 := by rw [← qF]; simp
 have keep : ∀ (q : Nat) (x : Option Obj), q < W3.heap.size → W3.heap[q]? = x → V5.heap[q]? = x := fun q x hq hx => by
  rw [← uA, heap_alloc_old _ _ agO, ← qF, heap_alloc_old _ _ hq]; exact hx
 have hB0 : E5 w V5 mq pq gq fq mb (.slice (some ⟨pk, po, none⟩) G.length aT) bv (.slice PA pn ju) (fun x => x = h) := by
  refine ⟨?_, ?_, keep _ _ agO K2.out, keep _ _ agO K1.out, ?_, ?_, by omega⟩
  ·rw [← uA, ← qF]
   exact ((B3.out.alloc B3.out.size _).alloc (by have := B3.out.size; simp; omega) _)
  ·rw [← uA, heap_alloc_old _ _ agO, ← qF, show mq = W3.heap.size by omega]; exact heap_alloc_new _ _
  ·rw [← uA, ← PC]; exact heap_alloc_new _ _
  ·exact M3.out.keep (keep _ _ agO rfl)
 have HB0 := ahM hB0
 clear keep s4 uA PC qF hB0 K1 K2 M3 B3 e3 s1 s2 hW1 hW2 Jc hpq hmb mk Mc HMQ
 go_upto_region 5 with fail
 go_loopw [19] (fun a19 wr => ∃ (j : Nat) (S : Nat → Prop), j ≤ m ∧ a19 = .int .i64 (j : Int) ∧ E5 w wr mq pq gq fq mb (.slice (some ⟨pk, po, none⟩) G.length aT) bv (.slice PA pn ju) S ∧ tM (lT P) R (gC.take j) (fun x => x = h) S) (fun a19 _ => m - (intOf a19).toNat)
 case atStart => exact ⟨0, _, Nat.zero_le _, rfl, HB0.out, .nil⟩
 case round =>
  clear HB0
  obtain ⟨j, S, hj, rfl, hB, zX⟩ := hrel
  obtain ⟨t1, t2, t3, t4, t5, t6, t7, t8⟩ := hB.cells
  have M6 := ahM hB
  have X8 := ahM zX
  by_cases hlt : j < m
  ·have dl : decide ((j : Int) < (m : Int)) = true := decide_eq_true agO
   have tE : gC.length = m := by have := HM.out; simpa [bT] using this
   obtain ⟨l, hl⟩ : ∃ l, gC[j]? = some l := ⟨_, List.getElem?_eq_getElem agO⟩
   obtain ⟨pv0, lb, lo, hs, N9, Qz, lc⟩ := (HM.out ▸ Jr.out : Ints w (.slice LA (bT gC).length xI) (bT gC)).at_ hB.aC (j := j) ahm
   subst N9
   obtain rfl : pv0 = (l : Int) := by simp [bT, hl] at hs; exact hs.symm
   have Ul : lb < wr.heap.size := by have := hB.aC.size; omega
   have sN := ahM (AE Iy.out hn5 w mq pq gq fq mb pk po aT bv (.slice PA pn ju) Yl.out Ym.out _ l S wr hB (Nat.le_refl _) (YF.out l (List.mem_of_getElem? hl)))
   have jl := ahM (show gC.take (j + 1) = gC.take j ++ [l] by rw [List.take_add_one, hl]; rfl)
   clear hB zX hs hl tE
   go_wp2_with (go_at_call 72; refine sN.out.mono ?_; rintro e W7 ⟨rfl, S7, Xt, Xl⟩)
   go_roundw
   case rel => exact ⟨j + 1, S7, by omega, by go_num, Xt, by rw [jl.out]; exact X8.out.snoc Xl⟩
   case measure => simp [intOf]; omega
  ·obtain rfl : m = j := by omega
   have dl : decide ((m : Int) < (m : Int)) = false := by simp
   have hall : gC.take m = gC := List.take_of_length_le (by have := HM.out; simp [bT] at this; omega)
   rw [hall] at zX
   have Jv := ahM (zX.body hRh)
   have tP := ahM (show ∀ x, S x → x < G.length from fun x hx => by
    rcases zX.Bc x hx with rfl | h1
    ·exact hh
    ·exact hR x h1)
   have ssz := hB.aC.size
   obtain ⟨X, hX⟩ : ∃ X, wr.alloc (.cells #[.map (some mb)] 99) = X := ⟨_, rfl⟩
   have bX : Below wr.heap.size wr X := hX ▸ (Below.refl _ _).alloc (Nat.le_refl _) _
   have HK := ahM (show Calls Tryz.prog 73 #[.map (some mb)] wr fun e w' => e = .returned (.func (.func 99) #[] #[.pointer (some ⟨wr.heap.size, 0, none⟩)]) ∧ X = w' from (Du (some mb) wr).mono fun e w' ⟨h1, h2⟩ => ⟨h1, by rw [h2, hX]⟩)
   have Va := ahM (wW mb wr.heap.size G.length (iK S) X (hB.im.below bX hB.im.lt) (KI tP.out) agO (by rw [← hX]; simp) (by
    have k : X.heap[wr.heap.size]? = some (.cells #[.map (some mb)] 99 (0, 0)) := hX ▸ heap_alloc_new _ _
    simp [World.cell?, k]))
   have kJ := ahM (hB.aC.trans (bX.mono ssz))
   have YC := ahM (show ∀ l, jZ (iK S) l → yJ (lT P) R h gC l from fun l hl => ⟨hl.MG, fun x => by rw [hl.mem, KH, Jv.out]⟩)
   clear hB zX hall hX bX
   go_wp2_with (first | (go_at_call 73; refine HK.out.mono ?_; rintro e w' ⟨rfl, rfl⟩) | (go_at_call 40; refine Va.out.mono ?_; rintro e W9 ⟨v, l, rfl, hi, hsk, hb9⟩))
   go_ret
   exact ⟨v, l, rfl, qW hi (by have := kJ.out.size; omega), YC.out l hsk, kJ.out.trans (hb9.mono kJ.out.size)⟩
end
section
open Go.RowKit
def fV (ord : List Nat) (pos : Nat → Nat) (es : List (Int × Int)) (h : Nat) : List Nat := (es.filter fun e => decide (e.1.toNat ∈ ord ∧ pos e.2.toNat ≤ pos e.1.toNat ∧ e.2.toNat = h)).map fun e => e.1.toNat
theorem um {ord : List Nat} {pos : Nat → Nat} {es : List (Int × Int)} {a b : Nat} (h : ¬ (a ∈ ord ∧ pos b ≤ pos a)) : fV ord pos (es ++ [((a : Int), (b : Int))]) = fV ord pos es := by
 funext k
 unfold fV
 rw [List.filter_append, List.map_append]
 simp only [List.filter_cons, List.filter_nil, Int.toNat_natCast]
 rw [if_neg (by simp only [decide_eq_true_eq]; exact fun hc => h ⟨hc.1, hc.2.1⟩)]
 simp
theorem F6 {ord : List Nat} {pos : Nat → Nat} {es : List (Int × Int)} {a b : Nat} (h1 : a ∈ ord) (h2 : pos b ≤ pos a) : fV ord pos (es ++ [((a : Int), (b : Int))]) = upd (fV ord pos es) b (fV ord pos es b ++ [a]) := by
 funext k
 unfold upd fV
 rw [List.filter_append, List.map_append]
 simp only [List.filter_cons, List.filter_nil, Int.toNat_natCast]
 by_cases hk : k = b
 ·subst hk
  rw [if_pos rfl, if_pos (by simp [h1, h2])]
  rfl
 ·rw [if_neg hk, if_neg (by simp only [decide_eq_true_eq]; exact fun hc => hk hc.2.2.symm)]
  simp
theorem F5 (ord : List Nat) (pos : Nat → Nat) : fV ord pos [] = fun _ => [] := rfl
theorem xK (ord : List Nat) (pos : Nat → Nat) (es : List (Int × Int)) (h : Nat) : (fV ord pos es h).length ≤ es.length := by
 unfold fV; rw [List.length_map]; exact List.length_filter_le _ _
open Classical in
noncomputable def mR (F : Nat → List Nat) (val : Nat → Value) : Int → Option Value := fun k => if 0 ≤ k ∧ F k.toNat ≠ [] then some (val k.toNat) else none
theorem Dm {F : Nat → List Nat} {val : Nat → Value} {h : Nat} (hf : F h ≠ []) : mR F val (h : Int) = some (val h) := by unfold mR; rw [if_pos ⟨by omega, by rw [Int.toNat_natCast]; exact hf⟩, Int.toNat_natCast]
theorem Dn {F : Nat → List Nat} {val : Nat → Value} {h : Nat} (hf : F h = []) : mR F val (h : Int) = none := by unfold mR; rw [if_neg]; rintro ⟨_, h2⟩; rw [Int.toNat_natCast] at h2; exact h2 hf
theorem FU (F : Nat → List Nat) (val : Nat → Value) (h a : Nat) (v : Value) : fQ (mR F val) (h : Int) v = mR (upd F h (F h ++ [a])) (upd val h v) := by
 funext k
 unfold fQ mR upd
 by_cases hk : k = (h : Int)
 ·subst hk
  rw [if_pos rfl, if_pos ⟨by omega, by rw [Int.toNat_natCast, if_pos rfl]; simp⟩, Int.toNat_natCast, if_pos rfl]
 ·rw [if_neg hk]
  by_cases h0 : 0 ≤ k
  ·have : k.toNat ≠ h := by omega
   rw [if_neg this, if_neg this]
  ·rw [if_neg (fun hc => h0 hc.1), if_neg (fun hc => h0 hc.1)]
theorem qC {F : Nat → List Nat} {val : Nat → Value} {x : Int} : mR F val x ≠ none ↔ 0 ≤ x ∧ F x.toNat ≠ [] := by
 unfold mR
 split
 ·rename_i h; simp [h]
 ·rename_i h; simp only [ne_eq, not_true_eq_false, false_iff]; exact h
structure GM (B : Nat) (wr : World) (mb : Nat) (F : Nat → List Nat) (val : Nat → Value) : Prop where
 im : Im wr mb (mR F val)
 own : ∀ k, wr.ownsRow B 3 1 (val k) (F k).length (dQ (bT (F k)))
 pU : ∀ i j, i ≠ j → ∀ q, (val i).ownBlock = some q → (val j).ownBlock ≠ some q
 nl : ∀ k, F k = [] → val k = .slice none 0 0
section
variable {B mb : Nat} {wr w2 W' : World} {F : Nat → List Nat} {val : Nat → Value}
theorem GM.ne (h : GM B wr mb F val) (k : Nat) : some mb ≠ (val k).ownBlock := fun e => by
 obtain ⟨es, cl, h1, _⟩ := h.im
 rcases (h.own k).2 with ⟨h2, _⟩ | ⟨g, cap, cur, h2, _, hg, _⟩
 ·rw [h2] at e; cases e
 ·rw [h2] at e
  simp [Value.ownBlock] at e
  rw [← e, h1] at hg
  cases hg
theorem GM.below (h : GM B wr mb F val) (hb : Below wr.heap.size wr w2) : GM B w2 mb F val :=
 ⟨h.im.below hb h.im.lt, fun k => ak (h.own k) hb, h.pU, h.nl⟩
theorem GM.made (w : World) : GM B (w.alloc (.map #[] 0)) w.heap.size (fun _ => []) (fun _ => .slice none 0 0) := by
 refine ⟨?_, fun k => World.ownsRow_nil _ _ _ _, fun i j _ q hq => (by cases hq), fun _ _ => rfl⟩
 have := Im.made w
 rwa [show mR (fun _ => []) (fun _ => Value.slice none 0 0) = fun _ => none by funext k; unfold mR; rw [if_neg]; simp]
theorem GM.app (h : GM B wr mb F val) {i a : Nat} {v' : Value} {W2 : World} (hb : Below wr.heap.size wr w2) (hg : w2.grownBy W' (val i).ownBlock)
  (hown : W'.ownsRow B 3 1 v' ((F i).length + 1) (dQ (bT (F i)) ++ [.int .i64 (a : Int)])) (jR : v'.ownBlock = (val i).ownBlock ∨ v'.ownBlock = some w2.heap.size)
  (hm : Im W2 mb (fQ (mR F val) (i : Int) v')) (hs : W2.heap.size = W'.heap.size) (hk : ∀ q, q ≠ mb → W2.heap[q]? = W'.heap[q]?) (ho : W2.os = W'.os) (ht : W2.tape = W'.tape) (hp : W2.output = W'.output) :
  GM B W2 mb (upd F i (F i ++ [a])) (upd val i v') := by
 have G := grown_of hb hg
 have S : W'.grownBy W2 (some mb) := ⟨ho, ht, hp, by omega, fun k _ hne => hk k fun e => hne (by rw [e])⟩
 have Zu : ∀ {v : Value} {n : Nat} {xs : List Value}, W'.ownsRow B 3 1 v n xs → v.ownBlock = none ∨ v.ownBlock ≠ some mb := fun {v n xs} hv => .inr fun e => by
  rcases hv.2 with ⟨h2, _⟩ | ⟨g, cap, cur, h2, _, hg2, _⟩
  ·rw [h2] at e; cases e
  ·rw [h2] at e
   simp [Value.ownBlock] at e
   obtain ⟨es, cl, h1, _⟩ := h.im
   have hlt := h.im.lt
   have h3 : W'.heap[mb]? = some (.map es cl) := (G.block mb hlt (h.ne i)).trans h1
   rw [← e, hg2] at h3
   cases h3
 have e : dQ (bT (F i ++ [a])) = dQ (bT (F i)) ++ [.int .i64 (a : Int)] := by simp [dQ, bT]
 refine ⟨by rw [← FU]; exact hm, fun k => ?_, fun j c EK q hq => ?_, fun k hk => ?_⟩
 ·unfold upd
  by_cases hki : k = i
  ·subst hki
   rw [if_pos rfl, if_pos rfl, show (F k ++ [a]).length = (F k).length + 1 by simp, e]
   exact hown.kept S (Zu hown)
  ·rw [if_neg hki, if_neg hki]
   have h1 : W'.ownsRow B 3 1 (val k) (F k).length (dQ (bT (F k))) := (h.own k).kept G (by
    cases hv : (val k).ownBlock with
    | none => exact .inl rfl
    | some q => exact .inr fun e' => h.pU i k (Ne.symm hki) q e'.symm hv)
   exact h1.kept S (Zu h1)
 ·have new : ∀ j, j ≠ i → ∀ q, v'.ownBlock = some q → (val j).ownBlock ≠ some q := fun j hji q hq hq2 => by
   rcases jR with h1 | h1
   ·rw [h1] at hq
    exact h.pU i j (Ne.symm hji) q hq hq2
   ·rw [h1] at hq
    cases hq
    have := ((h.own j).lt _ hq2).2
    have := hb.size
    omega
  unfold upd at hq ⊢
  by_cases e1 : j = i
  ·rw [if_pos e1] at hq
   rw [if_neg (fun e => EK (e1.trans e.symm))]
   exact new c (fun e => EK (e1.trans e.symm)) q hq
  ·rw [if_neg e1] at hq
   by_cases e2 : c = i
   ·rw [if_pos e2]
    exact fun hq2 => new j e1 q hq2 hq
   ·rw [if_neg e2]
    exact h.pU j c EK q hq
 ·unfold upd at hk ⊢
  by_cases e1 : k = i
  ·rw [if_pos e1] at hk; simp at hk
  ·rw [if_neg e1] at hk; rw [if_neg e1]; exact h.nl k hk
end
theorem wX (w : World) : (zeroValue 38).run Tryz.prog w = .ok (.slice none 0 0) w := by kernel_rfl
theorem GM.look {B mb : Nat} {wr : World} {F : Nat → List Nat} {val : Nat → Value} (h : GM B wr mb F val) {i : Nat} (hi : i ≤ 1000000) : (Instr.lookup 107 (.map (some mb)) (.int .i64 (i : Int)) false).run Tryz.prog wr = .ok (val i) wr := by
 by_cases hf : F i = []
 ·have h1 := h.im.gS (P := Tryz.prog) (kt := 3) (t := 107) (e := 38) Tryz.underlying3 Tryz.underlying107 (wX wr) (eP (k := (i : Int)) agO agO) (Dn hf) false
  have h3 := h.nl i hf
  rw [h3]
  simpa using h1
 ·have h1 := h.im.gj (P := Tryz.prog) (kt := 3) (t := 107) (e := 38) Tryz.underlying3 Tryz.underlying107 (Dm hf) false
  simpa using h1
section
variable {V wr w2 : World} {mb : Nat} {r : Option Nat}
theorem fB (h : V.grownBy wr r) (hb : Below wr.heap.size wr w2) : V.grownBy w2 r :=
 ⟨hb.os.trans h.os, hb.tape.trans h.tape, hb.output.trans h.output, Nat.le_trans h.size hb.size, fun k hk hne => (hb.block k (by have := h.size; omega)).trans (h.block k hk hne)⟩
theorem rP {row : Option Nat} (h : V.grownBy wr r) (hg : wr.grownBy w2 row) (hr : ∀ k, row = some k → V.heap.size ≤ k) : V.grownBy w2 r :=
 ⟨hg.os.trans h.os, hg.tape.trans h.tape, hg.output.trans h.output, Nat.le_trans h.size hg.size, fun k hk hne => (hg.block k (by have := h.size; omega) (fun e => by have := hr k e.symm; omega)).trans (h.block k hk hne)⟩
theorem Oc (h : V.grownBy wr (some mb)) (ho : w2.os = wr.os) (ht : w2.tape = wr.tape) (hp : w2.output = wr.output) (hs : w2.heap.size = wr.heap.size) (hk : ∀ i, i ≠ mb → w2.heap[i]? = wr.heap[i]?) : V.grownBy w2 (some mb) :=
 ⟨ho.trans h.os, ht.trans h.tape, hp.trans h.output, by rw [hs]; exact h.size, fun k hk' hne => (hk k (fun e => hne (by rw [e]))).trans (h.block k hk' hne)⟩
def mJ (w : World) (mb : Nat) : Prop := ∃ es cl, w.heap[mb]? = some (.map es cl)
theorem Im.QS {f : Int → Option Value} (h : Im V mb f) : mJ V mb := by obtain ⟨es, cl, h1, _⟩ := h; exact ⟨es, cl, h1⟩
theorem mJ.cell (h : mJ V mb) (hg : V.grownBy wr (some mb)) {b o : Nat} {v : Value} (hc : V.cell? ⟨b, o, none⟩ = some v) : wr.cell? ⟨b, o, none⟩ = some v := hg.cell hc fun e => by
 obtain ⟨es, cl, h1⟩ := h
 simp only [Option.some.injEq] at e
 subst e
 simp [World.cell?, h1] at hc
theorem mJ.box (h : mJ V mb) (hg : V.grownBy wr (some mb)) {q : Nat} {cs : Array Value} {t : TypeId} {fr : Nat × Nat} (hc : V.heap[q]? = some (.cells cs t fr)) : wr.heap[q]? = some (.cells cs t fr) := (hg.block q (Array.getElem?_eq_some_iff.1 hc).1 fun e => by
 obtain ⟨es, cl, h1⟩ := h
 simp only [Option.some.injEq] at e
 subst e
 rw [hc] at h1; cases h1).trans hc
theorem mJ.ints (h : mJ V mb) (hg : V.grownBy wr (some mb)) {v : Value} {l : List Int} (hi : Ints V v l) : Ints wr v l := by
 obtain ⟨A, cap, h1, h2, h3, h4⟩ := hi
 refine ⟨A, cap, h1, h2, h3, fun h0 => ?_⟩
 obtain ⟨b, off, e, hl, hc⟩ := h4 h0
 exact ⟨b, off, e, by have := hg.size; omega, fun k hk => h.cell hg (hc k hk)⟩
theorem mJ.lls (h : mJ V mb) (hg : V.grownBy wr (some mb)) {v : Value} {P : List (List Int)} (hi : l9 V v P) : l9 wr v P := by
 obtain ⟨A, cap, h1, h2, h3, h4⟩ := hi
 refine ⟨A, cap, h1, h2, h3, fun h0 => ?_⟩
 obtain ⟨b, off, e, hl, hc⟩ := h4 h0
 exact ⟨b, off, e, by have := hg.size; omega, fun k x hx => by
  obtain ⟨u, h5, h6⟩ := hc k x hx
  exact ⟨u, h.cell hg h5, h.ints hg h6⟩⟩
end
structure Qp where
 h : Int
 bv : Value
 lv : Value
 p : Int
def oz (q : Qp) : List Value := [.int .i64 q.h, q.bv, q.lv, .int .i64 q.p]
def j8 (Q : List Qp) : List Value := Q.flatMap oz
theorem ru : ∀ (Q : List Qp) (k j : Nat) (q : Qp), Q[k]? = some q → j < 4 → (j8 Q)[k * 4 + j]? = (oz q)[j]?
 | y :: Q, 0, j, q, h, hj => by
  simp at h; subst h
  have e : j8 (y :: Q) = oz y ++ j8 Q := by simp [j8]
  rw [e, Nat.zero_mul, Nat.zero_add, List.getElem?_append_left (by simpa [oz] using hj)]
 | y :: Q, k + 1, j, q, h, hj => by
  have h' : Q[k]? = some q := by simpa using h
  have e : j8 (y :: Q) = oz y ++ j8 Q := by simp [j8]
  rw [e, List.getElem?_append_right (by simp [oz]; omega), show (k + 1) * 4 + j - (oz y).length = k * 4 + j by simp [oz]; omega]
  exact ru Q k j q h' hj
theorem Bd : ∀ (Q : List Qp) (k : Nat) (q : Qp) (x : Int), Q[k]? = some q → (j8 Q).set (k * 4 + 3) (.int .i64 x) = j8 (Q.set k { q with p := x })
 | y :: Q, 0, q, x, h => by simp at h; subst h; simp [j8, oz]
 | y :: Q, k + 1, q, x, h => by
  have h' : Q[k]? = some q := by simpa using h
  have e : j8 (y :: Q) = oz y ++ j8 Q := by simp [j8]
  have e2 : j8 ((y :: Q).set (k + 1) { q with p := x }) = oz y ++ j8 (Q.set k { q with p := x }) := by simp [j8]
  rw [e, e2, List.set_append_right _ _ (by simp [oz]; omega), show (k + 1) * 4 + 3 - (oz y).length = k * 4 + 3 by simp [oz]; omega, Bd Q k q x h']
structure LL (B : Nat) (wr : World) (v : Value) (Q : List Qp) (L : List Lp) : Prop where
 row : wr.ownsRow B 46 4 v Q.length (j8 Q)
 len : Q.length = L.length
 each : ∀ (k : Nat) (q : Qp) (x : Lp), Q[k]? = some q → L[k]? = some x → q.h = x.h ∧ wr.ownsRow B 3 1 q.bv x.bl.length (dQ x.bl) ∧ wr.ownsRow B 3 1 q.lv x.la.length (dQ x.la)
theorem LL.below {B : Nat} {wr w2 : World} {v : Value} {Q : List Qp} {L : List Lp} (h : LL B wr v Q L) (hb : Below wr.heap.size wr w2) : LL B w2 v Q L :=
 ⟨ak h.row hb, h.len, fun k q x hq hx => by
  obtain ⟨h1, h2, h3⟩ := h.each k q x hq hx
  exact ⟨h1, ak h2 hb, ak h3 hb⟩⟩
theorem LL.nil (B : Nat) (wr : World) : LL B wr (.slice none 0 0) [] [] := ⟨World.ownsRow_nil _ _ _ _, rfl, fun k q x hq => by simp at hq⟩
theorem LL.LJ {B : Nat} {wr : World} {v : Value} {Q : List Qp} {L : List Lp} (h : LL B wr v Q L) : sI wr v L := by
 rcases h.row.2 with ⟨rfl, h0⟩ | ⟨g, cap, cur, rfl, h1, h2, h3, h4, _, _⟩
 ·exact ⟨none, 0, by rw [← h.len, h0], by have := h.len; omega, by unfold maxLen; omega, fun h9 => by have := h.len; omega⟩
 ·refine ⟨_, cap, by rw [← h.len], by have := h.len; omega, h4, fun _ => ⟨g, 0, rfl, (Array.getElem?_eq_some_iff.1 h2).1, fun k x hx => ?_⟩⟩
  have hk : k < Q.length := by rw [h.len]; exact (List.getElem?_eq_some_iff.1 hx).1
  have hq : Q[k]? = some Q[k] := List.getElem?_eq_getElem hk
  obtain ⟨e1, e2, e3⟩ := h.each k _ x hq hx
  have c : ∀ j, j < 4 → wr.cell? ⟨g, 0 + k * 4 + j, none⟩ = (oz Q[k])[j]? := fun j hj => by
   rw [Nat.zero_add, h.row.cellAt _ agO, ru Q k j _ hq hj]
  have c0 := c 0 agO
  rw [Nat.add_zero] at c0
  exact ⟨by rw [c0, ← e1]; rfl, ⟨_, c 1 agO, eD e2⟩, ⟨_, c 2 agO, eD e3⟩, _, c 3 agO⟩
end
section
open Go.RowKit
section
variable {B B' m n : Nat} {wr w2 W' : World} {mb : Nat} {F : Nat → List Nat} {val : Nat → Value} {v v' u : Value} {xs ys : List Value} {Q : List Qp} {L : List Lp}
theorem eC (hi : wr.ownsRow B 3 1 u m ys) (hr : wr.ownsRow B' 46 4 v n xs) (hg : wr.grownBy W' v.ownBlock) : W'.ownsRow B 3 1 u m ys := hi.kept hg (by
 cases hu : u.ownBlock with
 | none => exact .inl rfl
 | some q => exact .inr fun e => cT hi hr agQ q hu e.symm)
theorem GM.Q0 (h : GM B wr mb F val) (hr : wr.ownsRow B' 46 4 v n xs) (hg : wr.grownBy W' v.ownBlock) : GM B W' mb F val :=
 ⟨h.im.keep (hg.block mb h.im.lt fun e => by
  obtain ⟨es, cl, h1, _⟩ := h.im
  rcases hr.2 with ⟨h2, _⟩ | ⟨g, cap, cur, h2, _, h3, _⟩
  ·rw [h2] at e; cases e
  ·rw [h2] at e
   simp [Value.ownBlock] at e
   rw [← e, h1] at h3
   cases h3), fun k => eC (h.own k) hr hg, h.pU, h.nl⟩
theorem LL.app {q : Qp} {x : Lp} (h : LL B wr v Q L) (hb : Below wr.heap.size wr w2) (hg : w2.grownBy W' v.ownBlock) (hown : W'.ownsRow B 46 4 v' (Q.length + 1) (j8 Q ++ oz q)) (hq : q.h = x.h ∧ wr.ownsRow B 3 1 q.bv x.bl.length (dQ x.bl) ∧ wr.ownsRow B 3 1 q.lv x.la.length (dQ x.la)) : LL B W' v' (Q ++ [q]) (L ++ [x]) := by
 have h2 := h.below hb
 refine ⟨?_, by simp [h.len], fun k q' x' hk hx => ?_⟩
 ·rw [show (Q ++ [q]).length = Q.length + 1 by simp, show j8 (Q ++ [q]) = j8 Q ++ oz q by simp [j8]]
  exact hown
 ·by_cases hlt : k < Q.length
  ·rw [List.getElem?_append_left hlt] at hk
   rw [List.getElem?_append_left (by rw [← h.len]; exact hlt)] at hx
   obtain ⟨e1, e2, e3⟩ := h2.each k q' x' hk hx
   exact ⟨e1, eC e2 h2.row hg, eC e3 h2.row hg⟩
  ·have hkl := (List.getElem?_eq_some_iff.1 hk).1
   obtain rfl : k = Q.length := by simp at hkl; omega
   rw [List.getElem?_append_right (Nat.le_refl _)] at hk
   rw [List.getElem?_append_right (by rw [h.len]; exact Nat.le_refl _)] at hx
   simp [h.len] at hk hx
   subst hk hx
   exact ⟨hq.1, eC (ak hq.2.1 hb) h2.row hg, eC (ak hq.2.2 hb) h2.row hg⟩
theorem LL.VS {g cap k : Nat} {q : Qp} (h : LL B wr (.slice (some ⟨g, 0, none⟩) m cap) Q L) (hk : Q[k]? = some q) (x : Int) : LL B (wr.setCell ⟨g, k * 4 + 3, none⟩ (.int .i64 x)) (.slice (some ⟨g, 0, none⟩) m cap) (Q.set k { q with p := x }) L := by
 have hm : m = Q.length := by
  rcases h.row.2 with ⟨e, _⟩ | ⟨_, _, _, e, _⟩
  ·cases e
  ·cases e; rfl
 subst hm
 have r := (h.row.stored (k * 4 + 3) (.int .i64 x)).1
 rw [Bd Q k q x hk] at r
 have hg : wr.grownBy (wr.setCell ⟨g, k * 4 + 3, none⟩ (.int .i64 x)) (Value.slice (some ⟨g, 0, none⟩) Q.length cap).ownBlock := aO wr g _ _
 refine ⟨by rw [List.length_set]; exact r, by rw [List.length_set]; exact h.len, fun j q' x' hj hx => ?_⟩
 by_cases e : k = j
 ·subst e
  have hkl := (List.getElem?_eq_some_iff.1 hk).1
  rw [List.getElem?_set, if_pos rfl, if_pos hkl] at hj
  cases hj
  obtain ⟨e1, e2, e3⟩ := h.each k q x' hk hx
  exact ⟨e1, eC e2 h.row hg, eC e3 h.row hg⟩
 ·rw [List.getElem?_set, if_neg e] at hj
  obtain ⟨e1, e2, e3⟩ := h.each j q' x' hj hx
  exact ⟨e1, eC e2 h.row hg, eC e3 h.row hg⟩
end
theorem gR {w : World} {B : Nat} {e : TypeId} {size n : Nat} {v : Value} {xs : List Value} (h : w.ownsRow B e size v n xs) : ∃ A cap, v = .slice A n cap := by
 rcases h.2 with ⟨h1, h2⟩ | ⟨g, cap, cur, h1, _⟩
 ·exact ⟨_, _, by rw [h1, h2]⟩
 ·exact ⟨_, _, h1⟩
theorem AK {w : World} {b : Nat} {cs : Array Value} {t : TypeId} (h : w.heap[b]? = some (.cells cs t (0, 0))) (o : Nat) : w.frozen? ⟨b, o, none⟩ = false := by simp [World.frozen?, h]
theorem r7 (w : World) (a b c d : Value) (t : TypeId) : ∀ j u, [a, b, c, d][j]? = some u → (w.alloc (.cells #[a, b, c, d] t)).cell? ((⟨w.heap.size, 0, none⟩ : Addr).add j) = some u := by
 intro j u h
 have e : (⟨w.heap.size, 0, none⟩ : Addr).add j = ⟨w.heap.size, j, none⟩ := by cases j <;> simp [Addr.add]
 rw [e]
 unfold World.cell?
 rw [heap_alloc_new]
 simpa using h
theorem JT {ord : List Nat} {pos : Nat → Nat} {es : List (Int × Int)} {h : Nat} : ∀ l ∈ fV ord pos es h, ∃ e ∈ es, e.1.toNat = l ∧ e.2.toNat = h ∧ l ∈ ord := fun l hl => by
 unfold fV at hl
 obtain ⟨e, he, rfl⟩ := List.mem_map.1 hl
 obtain ⟨h1, h2⟩ := List.mem_filter.1 he
 have h3 := of_decide_eq_true h2
 exact ⟨e, h1, rfl, h3.2.2, h3.1⟩
end
section
open Go.RowKit
def fT (ord : List Nat) (pos : Nat → Nat) (D : List Int) (es : List (Int × Int)) : Prop := ∀ e ∈ es, e.1.toNat ∈ ord → pos e.2.toNat ≤ pos e.1.toNat → bO D e.1.toNat e.2.toNat
theorem fT.snoc {ord : List Nat} {pos : Nat → Nat} {D : List Int} {es : List (Int × Int)} (h : fT ord pos D es) {a b : Nat} (k : a ∈ ord → pos b ≤ pos a → bO D a b) : fT ord pos D (es ++ [((a : Int), (b : Int))]) := fun e he => by
 rcases List.mem_append.1 he with he | he
 ·exact h e he
 ·obtain rfl : e = ((a : Int), (b : Int)) := by simpa using he
  simpa using k
structure iR (P : List (List Int)) (ord : List Nat) (pos : Nat → Nat) (es : List (Int × Int)) (D : List Int) (L : List Lp) : Prop where
 ok : fT ord pos D es
 MG : (L.map (·.h)).Pairwise (· < ·)
 mem : ∀ x, x ∈ L.map (·.h) ↔ 0 ≤ x ∧ fV ord pos es x.toNat ≠ []
 each : ∀ x ∈ L, x.la = bT (fV ord pos es x.h.toNat) ∧ yJ (lT P) (· ∈ ord) x.h.toNat (fV ord pos es x.h.toNat) x.bl
theorem vN {G : List aZ} {P : List (List Int)} (HV : cm G P) {e : Int × Int} (h : e ∈ jC G G.length []) : ∃ a b : Nat, e = ((a : Int), (b : Int)) ∧ a < G.length ∧ b < G.length ∧ b ∈ cU G a := by
 unfold jC at h
 simp only [List.map_nil, List.append_nil, List.mem_flatMap, List.mem_range, List.mem_map] at h
 obtain ⟨a, ha, t, ht, rfl⟩ := h
 obtain ⟨z, hz⟩ := HV.ok
 have hx : G[a]? = some G[a] := List.getElem?_eq_getElem ha
 obtain ⟨e, he⟩ := hz.each _ (List.mem_of_getElem? hx)
 rw [List.getD, hx] at ht
 have := he.nx t ht
 refine ⟨a, t.toNat, by rw [Int.toNat_of_nonneg this.1], ha, by omega, ?_⟩
 rw [vp hx]
 exact List.mem_map.2 ⟨t, ht, rfl⟩
theorem Gc : (Tryz.prog.info? 46).map (fun i => (i.zero, i.size, i.bytes)) = some (some (.agg #[.int .i64 0, .slice none 0 0, .slice none 0 0, .int .i64 0]), 4, 64) := by kernel_rfl
theorem Dq (bv pv : Value) (G : List aZ) (P : List (List Int)) (w : World) (HG : fF w bv G) (HP : l9 w pv P) (HV : cm G P) (hn : G.length ≤ 5000) :
  Calls Tryz.prog 13 #[.agg #[bv, pv]] w fun e w' => (∃ D, fD G D ∧ ((∃ v L, e = .returned (.tuple #[v, .int .i64 (-1), .int .i64 0]) ∧ sI w' v L ∧ iR P (dN G.length (cU G)) (fU G.length (cU G)) (jC G G.length []) D L) ∨ (∃ tg : Int, e = .returned (.tuple #[.slice none 0 0, .int .i64 tg, .int .i64 16]) ∧ ¬ fT (dN G.length (cU G)) (fU G.length (cU G)) D (jC G G.length [])))) ∧ Below w.heap.size w w' := by
 have HB := ahM (GB.of HV hn)
 have hne : 0 < G.length := List.length_pos_iff.2 HV.ne
 obtain ⟨gr, I7⟩ := rO hne HB.out.lt
 have Iy := ahM HV
 have wK := ahM HV.len
 obtain ⟨A, cap, rfl, hc1, hc2⟩ := HG.slice
 obtain ⟨PA, aT, rfl, hp1, hp2⟩ := HP.slice
 obtain ⟨V0, gl⟩ : ∃ V0, w.alloc (.cells #[.slice A G.length cap, .slice PA P.length aT] 31) = V0 := ⟨_, rfl⟩
 obtain ⟨gq, Jc⟩ : ∃ q, w.heap.size = q := ⟨_, rfl⟩
 have b0 : Below w.heap.size w V0 := gl ▸ (Below.refl _ _).alloc (Nat.le_refl _) _
 have k0 : V0.heap[gq]? = some (.cells #[.slice A G.length cap, .slice PA P.length aT] 31 (0, 0)) := by rw [← gl, ← Jc]; exact heap_alloc_new _ _
 have y0 : V0.cell? ⟨gq, 0, none⟩ = some (.slice A G.length cap) := by simp [World.cell?, k0]
 have y1 : V0.cell? ⟨gq, 1, none⟩ = some (.slice PA P.length aT) := by simp [World.cell?, k0]
 have s0 : gq < V0.heap.size := (Array.getElem?_eq_some_iff.1 k0).1
 have iT := ahM (show Calls Tryz.prog 35 #[.agg #[.slice A G.length cap, .slice PA P.length aT]] V0 fun e w' => e = .returned (.bool true) ∧ Below V0.heap.size V0 w' from
  (jL _ _ G P V0 (HG.below b0) (HP.below b0) hn (fun x hx => by obtain ⟨i, hi⟩ := List.mem_iff_getElem?.1 hx; exact HB.out.two i x hi)).mono fun e w' h => by
   obtain ⟨⟨r, rfl, hr⟩, hb⟩ := h
   rw [hr.2 HV]
   exact ⟨rfl, hb⟩)
 have YR := ahM (HG.below b0)
 have Tk := ahM (HP.below b0)
 obtain ⟨ord, ho⟩ : ∃ o, dN G.length (cU G) = o := ⟨_, rfl⟩
 obtain ⟨pos, yO⟩ : ∃ o, fU G.length (cU G) = o := ⟨_, rfl⟩
 obtain ⟨EL, hel⟩ : ∃ l, jC G G.length [] = l := ⟨_, rfl⟩
 rw [ho, yO, hel]
 have HO := ahM ho
 have Jq := ahM yO
 have Vr := ahM hel
 rw [ho, yO] at gr
 rw [ho] at I7
 have nu := ahM gr
 have B0 := ahM b0
 have hol : ord.length ≤ G.length := fc I7 gr.lt
 clear HG HP HV b0 k0 hc1 hc2 hp1 gr ho yO I7 hel
 obtain ⟨m, hm⟩ : ∃ m, ord.length = m := ⟨_, rfl⟩
 rw [hm] at hol
 have HM := ahM hm
 obtain ⟨iI, pR, pT, nR, nQ⟩ := info_parts nP
 clear hm
 go_enter Tryz.func13, Tryz.ntmps13
 go_upto_region 3 with (go_at_call 35; refine iT.out.mono ?_; rintro e W1 ⟨rfl, hb1⟩)
 have B1 := ahM (B0.out.trans (hb1.mono B0.out.size))
 have Zi := ahM hb1
 have u0 : W1.cell? ⟨gq, 0, none⟩ = some (.slice A G.length cap) := (hb1.cell (p := ⟨gq, 0, none⟩) s0).trans y0
 have sg1 : gq < W1.heap.size := by have := hb1.size; omega
 obtain ⟨U1, lm, dM, gr1⟩ := run_make_full (P := Tryz.prog) W1 V0.heap.size 38 3 iI (.int .i64 0) 1 Tryz.underlying38 pR pT nR .i64 .i64 G.length ahI agS Zi.out.size
 rw [Nat.mul_one, show (Value.int .i64 0).cells = #[Value.int .i64 0] from rfl, toList_madeCells_one] at dM
 obtain ⟨pb, hpb⟩ : ∃ q, W1.heap.size = q := ⟨_, rfl⟩
 rw [hpb] at lm
 have r0 : dQ (List.replicate G.length 0) = List.replicate G.length (Value.int .i64 0) := by simp [dQ]
 have yS := ahM (show U1.ownsRow V0.heap.size 3 1 (.slice (some ⟨pb, 0, none⟩) G.length G.length) G.length (dQ (jy G.length 0)) by rw [oL, r0, ← hpb]; exact dM)
 have yH := ahM gr1
 have hBU : Below V0.heap.size V0 U1 := Zi.out.grown gr1 Zi.out.size (fun k hk => by cases hk)
 have Qf := ahM hBU
 clear dM gr1 hpb hb1 r0 pR pT nR nQ iI hBU iT gl
 go_upto_region 5 with fail
 clear lm u0
 go_loopw [29] (fun a29 wr => ∃ k : Nat, k ≤ G.length ∧ a29 = .int .i64 (k : Int) ∧ wr.ownsRow V0.heap.size 3 1 (.slice (some ⟨pb, 0, none⟩) G.length G.length) G.length (dQ (jy G.length k)) ∧ Below V0.heap.size V0 wr) (fun a29 _ => G.length - (intOf a29).toNat)
 case atStart => exact ⟨0, Nat.zero_le _, rfl, yS.out, Qf.out⟩
 case round =>
  obtain ⟨k, hk, rfl, hr, hg⟩ := hrel
  have P9 := ahM hg
  have HR := ahM hr
  by_cases hlt : k < G.length
  ·have dl : decide ((k : Int) < (G.length : Int)) = true := decide_eq_true agO
   have i1 : (k : Int) < (G.length : Int) := by omega
   have x1 := fG hr (by simp [jy]) hlt
   have x2 := hr.frozenAt k
   have r1 := (hr.stored k (.int .i64 (-1))).1
   rw [jQ, uh] at r1
   have R1 := ahM r1
   have G1 := ahM (hg.setCell (p := ⟨pb, k, none⟩) (hr.lt pb rfl).1 (.int .i64 (-1)))
   have Qy := (hr.lt pb rfl).2
   clear hr hg r1 yS Qf yH
   go_wp2_with fail
   go_roundw
   case rel => exact ⟨k + 1, by omega, by go_num, R1.out, G1.out⟩
   case measure => simp [intOf]; omega
  ·obtain rfl : k = G.length := by omega
   have dl : decide ((G.length : Int) < (G.length : Int)) = false := by simp
   obtain ⟨w2, hw2⟩ : ∃ w2 : World, w2 = wr := ⟨_, rfl⟩
   subst hw2
   have ED := ahM (ud _ _ G P w2 (YR.out.below hg) (Tk.out.below hg) Iy.out hn)
   have g0 : w2.cell? ⟨gq, 0, none⟩ = some (.slice A G.length cap) := (hg.cell (p := ⟨gq, 0, none⟩) s0).trans y0
   have g1 : w2.cell? ⟨gq, 1, none⟩ = some (.slice PA P.length aT) := (hg.cell (p := ⟨gq, 1, none⟩) s0).trans y1
   have sg2 : gq < w2.heap.size := by have := hg.size; omega
   rw [xB, ← tX G.length ord pos] at hr
   have wq := ahM hr
   rw [HO.out, HM.out] at ED
   clear hr hg yS Qf yH HR dl
   go_upto_region 10 with (go_at_call 36; refine ED.out.mono ?_; rintro e W3 ⟨⟨og, rD, rfl, Mf, hog⟩, hb3⟩)
   have MZ := ahM Mf
   have M6 := ahM (P9.out.trans (hb3.mono P9.out.size))
   have ou := ahM (ak wq.out hb3)
   have Pa := ahM hb3
   have Rn : og ≠ pb := by have := (wq.out.lt pb rfl).2; omega
   have acJ : pb < W3.heap.size := (ou.out.lt pb rfl).2
   clear Mf hb3 g0 g1 sg2 hog
   go_loopw [39] (fun a39 wr => ∃ i : Nat, i ≤ m ∧ a39 = .int .i64 (i : Int) ∧ wr.ownsRow V0.heap.size 3 1 (.slice (some ⟨pb, 0, none⟩) G.length G.length) G.length (dQ (jg G.length ord pos i)) ∧ Below V0.heap.size V0 wr ∧ W3.grownBy wr (some pb)) (fun a39 _ => m - (intOf a39).toNat)
   case atStart => exact ⟨0, Nat.zero_le _, rfl, ou.out, M6.out, ⟨rfl, rfl, rfl, Nat.le_refl _, fun _ _ _ => rfl⟩⟩
   case round =>
    obtain ⟨i, hi, rfl, hr, hg, hg3⟩ := hrel
    have O4 := ahM hg
    have YS := ahM hg3
    by_cases hlt : i < m
    ·have dl : decide ((i : Int) < (m : Int)) = true := decide_eq_true agO
     obtain ⟨b, hb⟩ : ∃ b, ord[i]? = some b := ⟨_, List.getElem?_eq_getElem ahm⟩
     have kA := nu.out.lt b (List.mem_of_getElem? hb)
     obtain ⟨-, Zo, h2⟩ := nW MZ.out (k := i) (by rw [bT, List.length_map, HM.out]; exact hlt)
     rw [vq hb] at h2
     have oc : wr.cell? ⟨og, i, none⟩ = some (.int .i64 (b : Int)) := hg3.cell h2 (fun e => Rn (by injection e))
     have sow : og < wr.heap.size := by have := hg3.size; omega
     have i1 : (b : Int) < (G.length : Int) := by omega
     have x1 := fG hr (xz _ _ _ _) kA
     have x2 := hr.frozenAt b
     have r1 := (hr.stored b (.int .i64 (i : Int))).1
     rw [jQ, tY nu.out hb] at r1
     have R1 := ahM r1
     have G1 := ahM (hg.setCell (p := ⟨pb, b, none⟩) (hr.lt pb rfl).1 (.int .i64 (i : Int)))
     have G3 := ahM (show W3.grownBy (wr.setCell ⟨pb, b, none⟩ (.int .i64 (i : Int))) (some pb) from ⟨hg3.os, hg3.tape, hg3.output, by have := hg3.size; simpa using this, fun k hk Rq => by
      have hkp : k ≠ pb := fun e => Rq (by rw [e])
      rw [Below.heap_setCell _ _ _ _ hkp]; exact hg3.block k hk Rq⟩)
     have Qy := (hr.lt pb rfl).2
     clear hr hg hg3 r1 h2 ou M6 hb
     go_wp2_with fail
     go_roundw
     case rel => exact ⟨i + 1, by omega, by go_num, R1.out, G1.out, G3.out⟩
     case measure => simp [intOf]; omega
    ·obtain rfl : m = i := by omega
     have dl : decide ((m : Int) < (m : Int)) = false := by simp
     obtain ⟨w4, hw4⟩ : ∃ w4 : World, w4 = wr := ⟨_, rfl⟩
     subst hw4
     have MR := ahM (wS _ _ G P w4 (YR.out.below hg) (Tk.out.below hg) Iy.out hn)
     have g0 : w4.cell? ⟨gq, 0, none⟩ = some (.slice A G.length cap) := (hg.cell (p := ⟨gq, 0, none⟩) s0).trans y0
     have g1 : w4.cell? ⟨gq, 1, none⟩ = some (.slice PA P.length aT) := (hg.cell (p := ⟨gq, 1, none⟩) s0).trans y1
     have sg2 : gq < w4.heap.size := by have := hg.size; omega
     have yT := ahM hr
     clear hr hg hg3 ou M6 Pa dl MZ Rn
     go_upto_region 15 with (go_at_call 37; refine MR.out.mono ?_; rintro e W5 ⟨⟨dv, D, rfl, Gx, Gi⟩, hb5⟩)
     have HDI := ahM Gx
     have OT := ahM Gi
     have Vl := ahM (show gm G.length (cU G) ord pos D by have := Gi; unfold fD at this; rwa [HO.out, Jq.out] at this)
     have EY := ahM (O4.out.trans (hb5.mono O4.out.size))
     have HR5 := ahM (ak yT.out hb5)
     have hs5 := EY.out.size
     have hmm := @run_makeMap Tryz.prog
     obtain ⟨mb, hmb⟩ : ∃ q, W5.heap.size = q := ⟨_, rfl⟩
     obtain ⟨W6, RP⟩ : ∃ V, W5.alloc (.map #[] 0) = V := ⟨_, rfl⟩
     have b6 : Below W5.heap.size W5 W6 := RP ▸ (Below.refl _ _).alloc (Nat.le_refl _) _
     have VC := ahM (show GM W6.heap.size W6 mb (fun _ => []) (fun _ => .slice none 0 0) by rw [← hmb]; have := GM.made (B := W6.heap.size) W5; rw [RP] at this; exact this)
     have B6 := ahM (EY.out.trans (b6.mono EY.out.size))
     have Lm := ahM (show w.heap.size ≤ mb by have := B0.out.size; omega)
     have DI6 := ahM (HDI.out.below b6)
     have R6 := ahM (ak HR5.out b6)
     have g2 : W6.cell? ⟨gq, 0, none⟩ = some (.slice A G.length cap) := (B6.out.cell (p := ⟨gq, 0, none⟩) s0).trans y0
     have g3 : W6.cell? ⟨gq, 1, none⟩ = some (.slice PA P.length aT) := (B6.out.cell (p := ⟨gq, 1, none⟩) s0).trans y1
     have sg6 : gq < W6.heap.size := by have := B6.out.size; omega
     clear Gx Gi hb5 g0 g1 sg2 b6 yT MR O4 YS HDI HR5
     go_upto_region 16 with fail
     have sS := ahM (D8 _ (.slice PA P.length aT) G W6 (YR.out.below B6.out) hn (fun x hx => by obtain ⟨i, hi⟩ := List.mem_iff_getElem?.1 hx; exact HB.out.two i x hi))
     rw [Vr.out] at sS
     clear hmm RP hmb
     go_upto_region 17 with (go_at_call 38; refine sS.out.mono ?_; rintro e V ⟨⟨ev, rfl, hev⟩, Bt⟩; obtain ⟨EA, dP, rfl, he1, he2, -⟩ := id hev)
     obtain ⟨ne, J4⟩ : ∃ n, EL.length = n := ⟨_, rfl⟩
     rw [J4] at he1 ⊢
     have Cg := ahM J4
     have Qa := ahM hev
     have uQ := ahM (B6.out.trans (Bt.mono B6.out.size))
     have EC := ahM (show ∀ k, k < G.length → V.cell? ⟨pb, k, none⟩ = some (.int .i64 ((jg G.length ord pos ord.length).getD k (-1))) from fun k hk => by
      have := fG (ak R6.out Bt) (xz _ _ _ _) hk
      rwa [← HM.out] at this)
     have spV : pb < V.heap.size := ((ak R6.out Bt).lt pb rfl).2
     have HDV := ahM (DI6.out.below Bt)
     have ID := ahM (show mJ V mb from (VC.out.im.below Bt VC.out.im.lt).QS)
     have IM := ahM (show GM V.heap.size V mb (fV ord pos (EL.take 0)) (fun _ => .slice none 0 0) from ⟨by rw [List.take_zero, F5]; exact VC.out.im.below Bt VC.out.im.lt, fun k => World.ownsRow_nil _ _ _ _, fun i j _ q hq => (by cases hq), fun _ _ => rfl⟩)
     have sgV : gq < V.heap.size := by have := uQ.out.size; omega
     have Zv := uQ.out.cell (p := ⟨gq, 0, none⟩) s0
     have QZ := uQ.out.cell (p := ⟨gq, 1, none⟩) s0
     rw [y0] at Zv
     rw [y1] at QZ
     have adI : ne ≤ 30000000 := by
      have := Bz G (fun x hx => by obtain ⟨i, hi⟩ := List.mem_iff_getElem?.1 hx; exact HB.out.two i x hi) G.length (Nat.le_refl _) []
      rw [Vr.out, J4] at this
      simp at this
      omega
     clear J4 hev Bt g2 g3 sg6 hs5
     go_loopw [55] (fun a55 wr => ∃ (k : Nat) (val : Nat → Value), k ≤ ne ∧ a55 = .int .i64 (k : Int) ∧ V.grownBy wr (some mb) ∧ GM V.heap.size wr mb (fV ord pos (EL.take k)) val ∧ fT ord pos D (EL.take k)) (fun a55 _ => ne - (intOf a55).toNat)
     case atStart => exact ⟨0, _, Nat.zero_le _, rfl, ⟨rfl, rfl, rfl, Nat.le_refl _, fun _ _ _ => rfl⟩, IM.out, fun e he => by simp at he⟩
     case round =>
      clear IM
      obtain ⟨k, val, hk, rfl, hg, wG, hok⟩ := hrel
      have HG := ahM hg
      have IM := ahM wG
      have pF := ahM hok
      have wF := hg.size
      clear hok
      by_cases hlt : k < ne
      ·have dl : decide ((k : Int) < (ne : Int)) = true := decide_eq_true agO
       have i1 : (k : Int) < (ne : Int) := by omega
       obtain ⟨e, he⟩ : ∃ e, EL[k]? = some e := ⟨_, List.getElem?_eq_getElem (by rw [Cg.out]; exact hlt)⟩
       obtain ⟨a, b, rfl, han, kA, eV⟩ := vN Iy.out (e := e) (by rw [Vr.out]; exact List.mem_of_getElem? he)
       have jl := ahM (show EL.take (k + 1) = EL.take k ++ [((a : Int), (b : Int))] by rw [List.take_add_one, he]; rfl)
       obtain ⟨eb, eo, hEA, seb, ec0, ec1⟩ : ∃ eb eo, EA = some ⟨eb, eo, none⟩ ∧ eb < V.heap.size ∧ V.cell? ⟨eb, eo + k * 2, none⟩ = some (.int .i64 (a : Int)) ∧ V.cell? ⟨eb, eo + k * 2 + 1, none⟩ = some (.int .i64 (b : Int)) := by
        obtain ⟨_, _, e1, _, _, e4⟩ := Qa.out
        cases e1
        obtain ⟨eb, eo, e5, e6, e7⟩ := e4 (by rw [Cg.out]; omega)
        exact ⟨eb, eo, e5, e6, (e7 k _ he).1, (e7 k _ he).2⟩
       subst hEA
       have ec2 := ID.out.cell hg ec0
       have ec3 := ID.out.cell hg ec1
       have sew : eb < wr.heap.size := by omega
       have pa := ID.out.cell hg (EC.out a han)
       have VU := ID.out.cell hg (EC.out b kA)
       rw [ny nu.out han] at pa
       rw [ny nu.out kA] at VU
       have Qx : pb < wr.heap.size := by omega
       have ian : (a : Int) < (G.length : Int) := by omega
       have ibn : (b : Int) < (G.length : Int) := by omega
       have mK := ahM eV
       clear ec0 ec1 he eV wG hg
       go_upto_region 19 with fail
       obtain ⟨q12, NK⟩ : ∃ q, wr.heap.size = q := ⟨_, rfl⟩
       obtain ⟨X, hX⟩ : ∃ X, wr.alloc (.cells #[.int .i64 (a : Int), .int .i64 (b : Int)] 109) = X := ⟨_, rfl⟩
       rw [hX, NK]
       have bX : Below wr.heap.size wr X := hX ▸ (Below.refl _ _).alloc (Nat.le_refl _) _
       have kX : X.heap[q12]? = some (.cells #[.int .i64 (a : Int), .int .i64 (b : Int)] 109 (0, 0)) := by rw [← NK, ← hX]; exact heap_alloc_new _ _
       have z0 : X.cell? ⟨q12, 0, none⟩ = some (.int .i64 (a : Int)) := by simp [World.cell?, kX]
       have z1 : X.cell? ⟨q12, 1, none⟩ = some (.int .i64 (b : Int)) := by simp [World.cell?, kX]
       have szq : q12 < X.heap.size := (Array.getElem?_eq_some_iff.1 kX).1
       have xa := (bX.cell (p := ⟨pb, a, none⟩) Qx).trans pa
       have xb := (bX.cell (p := ⟨pb, b, none⟩) Qx).trans VU
       have spX : pb < X.heap.size := by have := bX.size; omega
       have BX := ahM bX
       clear hX NK bX kX ec2 ec3 pa VU sew
       refine aj agP agP ?_
       repeat (go_big_quiet_step (fail))
       refine wpQuiet_nil ?_
       rintro _ ⟨y, rfl⟩
       by_cases hao : a ∈ ord
       ·have Mk : b ∈ ord := nu.out.closed a hao b mK.out
        rw [if_pos hao] at xa
        rw [if_pos Mk] at xb
        obtain ⟨qa, DF⟩ : ∃ q, pos a = q := ⟨_, rfl⟩
        obtain ⟨qb, zT⟩ : ∃ q, pos b = q := ⟨_, rfl⟩
        rw [DF] at xa
        rw [zT] at xb
        have d0 : decide ((qa : Int) < 0) = false := decide_eq_false agO
        by_cases hgt : qa < qb
        ·have mL := ahM (show ¬ (a ∈ ord ∧ pos b ≤ pos a) from fun h => by have := h.2; omega)
         have d1 : decide ((qa : Int) < (qb : Int)) = true := decide_eq_true agO
         have d2 : decide (qa < qb) = true := decide_eq_true hgt
         clear DF zT hgt hao Mk
         go_upto_region 20 with fail
         refine gY (x := y) agP agP ?_
         repeat (go_big_quiet_step (fail))
         refine wpQuiet_nil ?_
         rintro _ ⟨y2, rfl⟩
         have HY := ahM (BX.out.trans (y2.h.mono BX.out.size))
         clear xa xb z0 z1
         go_wp2_with fail
         go_roundw
         case rel => exact ⟨k + 1, val, by omega, by go_num, fB HG.out HY.out, by rw [jl.out, um mL.out]; exact IM.out.below HY.out, by rw [jl.out]; exact pF.out.snoc fun h1 h2 => absurd ⟨h1, h2⟩ mL.out⟩
         case measure => simp [intOf]; omega
        ·have sK := ahM (show a ∈ ord ∧ pos b ≤ pos a from ⟨hao, by omega⟩)
         have d1 : decide ((qa : Int) < (qb : Int)) = false := decide_eq_false agO
         have d2 : decide (qa < qb) = false := decide_eq_false hgt
         clear DF zT hgt Mk
         go_upto_region 20 with fail
         refine gY (x := y) agP agP ?_
         repeat (go_big_quiet_step (fail))
         refine wpQuiet_nil ?_
         rintro _ ⟨y2, rfl⟩
         have HY := ahM (BX.out.trans (y2.h.mono BX.out.size))
         clear xa xb z0 z1
         have TP := ahM (tI nu.out Vl.out (by rw [HM.out]; exact hol) hn _ b a y2.w ((ID.out.ints HG.out HDV.out).below HY.out) kA hao)
         clear hao
         by_cases DT : bO D a b
         ·have TR := ahM (TP.out.mono fun e w' (h : (∃ r : Bool, e = .returned (.bool r) ∧ (r = true ↔ bO D a b)) ∧ Below y2.w.heap.size y2.w w') => (show e = .returned (.bool true) ∧ Below y2.w.heap.size y2.w w' from by
           obtain ⟨⟨r, rfl, hr⟩, hb⟩ := h
           rw [hr.2 DT]
           exact ⟨rfl, hb⟩))
          have IB := ahM (show fT ord pos D (EL.take (k + 1)) by rw [jl.out]; exact pF.out.snoc fun _ _ => DT)
          clear DT
          go_upto_region 23 with (go_at_call 39; refine TR.out.mono ?_; rintro e W7 ⟨rfl, hb7⟩)
          have b7 := HY.out.trans (hb7.mono HY.out.size)
          have Qk := ahM (IM.out.below b7)
          have G7 := ahM (fB HG.out b7)
          have hl := Qk.out.look (i := b) agO
          have hown := Qk.out.own b
          have NP := Qk.out.ne b
          obtain ⟨FL, Mm⟩ : ∃ l, fV ord pos (EL.take k) b = l := ⟨_, rfl⟩
          have hFn : FL.length ≤ ne := by
           have := xK ord pos (EL.take k) b
           rw [Mm] at this
           have h2 : (EL.take k).length ≤ k := by simp; omega
           omega
          rw [Mm] at hown
          obtain ⟨vA, dF, DC⟩ : ∃ vA dF, val b = .slice vA FL.length dF := by
           rcases hown.2 with ⟨h, h'⟩ | ⟨g, cap', cur, h, _⟩
           ·exact ⟨_, _, by rw [h, h']⟩
           ·exact ⟨_, _, h⟩
          rw [DC] at hl hown NP
          have U7 := ahM DC
          have O7 := ahM Mm
          have yG := ahM hown
          have Yz := ahM NP
          have smb := Qk.out.im.lt
          have sV7 := G7.out.size
          obtain ⟨iI, pR, pT, nR, nQ⟩ := info_parts nP
          obtain ⟨U0, hW7⟩ : ∃ W : World, W = W7 := ⟨_, rfl⟩
          subst hW7
          clear DC Mm hown NP b7 hb7
          go_wp2_with (first | (at_builtin; refine wpList_append_own_at _ rfl (.tmp 89) (.tmp 91) 38 rfl V.heap.size 3 iI (.int .i64 0) 1 8 Tryz.underlying38 pR pT nR nQ rfl agQ (.slice vA FL.length dF) _ _ rfl (yG.out.alloc _) ⟨U0.heap.size, 0, none⟩ 1 1 [.int .i64 (a : Int)] rfl rfl (cell_one_new _ _ _) agR agS agO ag0 ?_; intro v' W' hown' hgrow _ jR; obtain ⟨g', cap', rfl⟩ := ownsRow_succ hown'; obtain ⟨W8, hput, hm8, o1, o2, o3, o4, o5⟩ := (Qk.out.im.keep ((hgrow.block mb agX Yz.out).trans (heap_alloc_old _ _ smb))).put (P := Tryz.prog) (kt := 3) (t := 107) (e := 38) Tryz.underlying3 Tryz.underlying107 (k := (b : Int)) (eP agO agO) (.slice (some ⟨g', 0, none⟩) (FL.length + 1) cap'); simp only [kv] at hput))
          go_roundw
          case rel =>
           have bA : Below U0.heap.size U0 (U0.alloc (.cells #[.int .i64 (a : Int)] 3)) := (Below.refl _ _).alloc (Nat.le_refl _) _
           refine ⟨k + 1, upd val b (.slice (some ⟨g', 0, none⟩) (FL.length + 1) cap'), by omega, by go_num, ?_, ?_, IB.out⟩
           ·exact Oc (rP (fB G7.out bA) hgrow (fun q hq => (yG.out.lt q hq).1)) o1 o2 o3 o4 o5
           ·rw [jl.out, F6 sK.out.1 sK.out.2]
            exact Qk.out.app bA (by rw [U7.out]; exact hgrow) (by rw [O7.out]; exact hown') (by rw [U7.out]; exact jR) hm8 o4 o5 o1 o2 o3
          case measure => simp [intOf]; omega
         ·have TR := ahM (TP.out.mono fun e w' (h : (∃ r : Bool, e = .returned (.bool r) ∧ (r = true ↔ bO D a b)) ∧ Below y2.w.heap.size y2.w w') => (show e = .returned (.bool false) ∧ Below y2.w.heap.size y2.w w' from by
           obtain ⟨⟨r, rfl, hr⟩, hb⟩ := h
           have : r = false := by
            cases r with
            | false => rfl
            | true => exact absurd (hr.1 rfl) DT
           rw [this]
           exact ⟨rfl, hb⟩))
          have Y6 := ahM (show ¬ fT ord pos D EL from fun h => DT (by
           have := h ((a : Int), (b : Int)) (List.mem_of_mem_take (i := k + 1) (by rw [jl.out]; simp))
           simpa using this sK.out.1 sK.out.2))
          clear DT
          go_wp2_with (go_at_call 39; refine TR.out.mono ?_; rintro e W7 ⟨rfl, hb7⟩)
          refine bodyPost_ret (results_tmp3 rfl _ _ _) rfl ⟨⟨D, OT.out, .inr ⟨_, rfl, Y6.out⟩⟩, ?_⟩
          exact (((B0.out.trans (uQ.out.mono B0.out.size)).grown (fB HG.out HY.out) (by have := B0.out.size; have := uQ.out.size; omega) (fun k hk => by cases hk; exact Lm.out)).trans (hb7.mono (by have := B0.out.size; have := uQ.out.size; have := (fB HG.out HY.out).size; omega)))
       ·have mL := ahM (show ¬ (a ∈ ord ∧ pos b ≤ pos a) from fun h => hao h.1)
        rw [if_neg hao] at xa
        have d0 : decide ((-1 : Int) < 0) = true := by decide
        clear hao
        go_upto_region 20 with fail
        refine gY (x := y) agP agP ?_
        repeat (go_big_quiet_step (fail))
        refine wpQuiet_nil ?_
        rintro _ ⟨y2, rfl⟩
        have HY := ahM (BX.out.trans (y2.h.mono BX.out.size))
        clear xa xb z0 z1
        go_wp2_with fail
        go_roundw
        case rel => exact ⟨k + 1, val, by omega, by go_num, fB HG.out HY.out, by rw [jl.out, um mL.out]; exact IM.out.below HY.out, by rw [jl.out]; exact pF.out.snoc fun h1 h2 => absurd ⟨h1, h2⟩ mL.out⟩
        case measure => simp [intOf]; omega
      ·obtain rfl : ne = k := by omega
       have dl : decide ((ne : Int) < (ne : Int)) = false := by simp
       have lf : EL.take ne = EL := List.take_of_length_le (by rw [Cg.out]; exact Nat.le_refl _)
       rw [lf] at wG
       obtain ⟨F, hF⟩ : ∃ f, fV ord pos EL = f := ⟨_, rfl⟩
       rw [hF] at wG
       have HF := ahM hF
       have HGF := ahM wG
       have IB := ahM (show fT ord pos D EL by have := pF.out; rwa [lf] at this)
       have Js := ahM (show ∀ h, ∀ l ∈ F h, l < G.length ∧ l ∈ ord ∧ h < G.length ∧ h ∈ ord from fun h l hl => by
        rw [← hF] at hl
        obtain ⟨e, h1, h2, h3, h4⟩ := JT l hl
        obtain ⟨a, b, rfl, h5, h6, h7⟩ := vN Iy.out (e := e) (by rw [Vr.out]; exact h1)
        simp only [Int.toNat_natCast] at h2 h3
        subst h2 h3
        exact ⟨h5, h4, h6, nu.out.closed _ h4 _ h7⟩)
       have Yx := ahM (show ∀ h, F h ≠ [] → h < G.length ∧ h ∈ ord from fun h hh => by
        obtain ⟨l, hl⟩ := List.exists_mem_of_ne_nil _ hh
        exact (Js.out h l hl).2.2)
       obtain ⟨X, hX⟩ : ∃ X, wr.alloc (.cells #[.map (some mb)] 107) = X := ⟨_, rfl⟩
       have bX : Below wr.heap.size wr X := hX ▸ (Below.refl _ _).alloc (Nat.le_refl _) _
       have HK := ahM (show Calls Tryz.prog 41 #[.map (some mb)] wr fun e w' => e = .returned (.func (.func 71) #[] #[.pointer (some ⟨wr.heap.size, 0, none⟩)]) ∧ X = w' from (Dt (some mb) wr).mono fun e w' ⟨h1, h2⟩ => ⟨h1, by rw [h2, hX]⟩)
       have Va := ahM (wV mb wr.heap.size G.length (mR F val) X (wG.im.below bX wG.im.lt) (fun k v hk => by
        have := qC.1 (show mR F val k ≠ none by rw [hk]; simp)
        have := (Yx.out _ this.2).1
        omega) agO (by rw [← hX]; simp) (by
        have k : X.heap[wr.heap.size]? = some (.cells #[.map (some mb)] 107 (0, 0)) := hX ▸ heap_alloc_new _ _
        simp [World.cell?, k]))
       have BX := ahM bX
       clear wG hg lf hF hX bX pF Cg dl he1 he2
       go_upto_region 27 with (first | (go_at_call 41; refine HK.out.mono ?_; rintro e w' ⟨rfl, rfl⟩) | (go_at_call 40; refine Va.out.mono ?_; rintro e W9 ⟨hv, hs, rfl, Gm, hsk, hb9⟩; obtain ⟨hA, hcap, rfl⟩ := gR Gm))
       have b9 := BX.out.trans (hb9.mono BX.out.size)
       have G9 := ahM (fB HG.out b9)
       have GM9 := ahM (HGF.out.below b9)
       have Zq : V.heap.size ≤ X.heap.size := by have := HG.out.size; have := BX.out.size; omega
       have Yg := ahM (qW Gm Zq)
       have Ye := ahM hsk
       obtain ⟨hn9, PB⟩ : ∃ n, hs.length = n := ⟨_, rfl⟩
       rw [PB] at Yg ⊢
       have TG := ahM PB
       have adE : hn9 ≤ 5000 := by
        have := rF (n := G.length) (l := hs) (hsk.MG.imp fun {a b} h => by omega) (fun x hx => by
         have := qC.1 ((hsk.mem x).1 hx)
         have := (Yx.out _ this.2).1
         omega)
        omega
       obtain ⟨iL, rN, Jf, Kh, hL2⟩ := info_parts Gc
       clear Gm hsk hb9 b9 PB IM HG HGF BX HK Va Zq
       go_loopw [15, 98] (fun a15 a98 wr => ∃ (j : Nat) (VW : Value) (Q : List Qp) (L : List Lp), j ≤ hn9 ∧ a98 = .int .i64 (j : Int) ∧ a15 = VW ∧ V.grownBy wr (some mb) ∧ GM V.heap.size wr mb F val ∧ wr.ownsRow V.heap.size 3 1 (.slice hA hn9 hcap) hn9 (dQ hs) ∧ LL V.heap.size wr VW Q L ∧ L.map (·.h) = hs.take j ∧ ∀ x ∈ L, x.la = bT (F x.h.toNat) ∧ yJ (lT P) (· ∈ ord) x.h.toNat (F x.h.toNat) x.bl) (fun _ a98 _ => hn9 - (intOf a98).toNat)
       case atStart => exact ⟨0, _, [], [], Nat.zero_le _, rfl, rfl, G9.out, GM9.out, Yg.out, LL.nil _ _, by simp, by simp⟩
       case round =>
        clear G9 GM9 Yg
        obtain ⟨j, VW, Q, L, hj, rfl, rfl, hg, wG, yN, tE, PN, UO⟩ := hrel
        obtain ⟨lA, F4, rfl⟩ := gR tE.row
        have HG := ahM hg
        have IM := ahM wG
        have HRS := ahM yN
        have Jr := ahM tE
        have Ty := ahM PN
        have IK := ahM UO
        have sVw := hg.size
        have PJ : Q.length = j ∧ L.length = j := by
         have h1 := congrArg List.length PN
         have h2 := tE.len
         have h3 := TG.out
         simp at h1
         omega
        have Vd := ahM PJ
        by_cases hlt : j < hn9
        ·have dl : decide ((j : Int) < (hn9 : Int)) = true := decide_eq_true agO
         obtain ⟨hx, hhx⟩ : ∃ x, hs[j]? = some x := ⟨_, List.getElem?_eq_getElem (by rw [TG.out]; exact hlt)⟩
         have hxs := qC.1 ((Ye.out.mem hx).1 (List.mem_of_getElem? hhx))
         obtain ⟨h, rfl⟩ : ∃ h : Nat, hx = (h : Int) := ⟨hx.toNat, by omega⟩
         rw [Int.toNat_natCast] at hxs
         obtain ⟨PB, WZ⟩ := Yx.out h hxs.2
         obtain ⟨hb, hbe, hbl, hc⟩ : ∃ hb, hA = some ⟨hb, 0, none⟩ ∧ hb < wr.heap.size ∧ wr.cell? ⟨hb, j, none⟩ = some (.int .i64 (h : Int)) := by
          rcases yN.2 with ⟨e, h0⟩ | ⟨g, cap', cur, e, _⟩
          ·omega
          ·cases e
           refine ⟨g, rfl, (yN.lt g rfl).2, ?_⟩
           rw [vO yN TG.out hlt]
           simp [List.getD, hhx]
         subst hbe
         have jl := ahM (show hs.take (j + 1) = hs.take j ++ [(h : Int)] by rw [List.take_add_one, hhx]; rfl)
         have hl := wG.look (i := h) agO
         have hown := wG.own h
         obtain ⟨vA, dF, DC⟩ : ∃ vA dF, val h = .slice vA (F h).length dF := by
          rcases hown.2 with ⟨h1, h'⟩ | ⟨g, cap', cur, h1, _⟩
          ·exact ⟨_, _, by rw [h1, h']⟩
          ·exact ⟨_, _, h1⟩
         obtain ⟨FL, Mm⟩ : ∃ l, F h = l := ⟨_, rfl⟩
         rw [Mm] at DC hown
         rw [DC] at hl hown
         obtain ⟨fn, hfn⟩ : ∃ n, FL.length = n := ⟨_, rfl⟩
         have O6 := ahM hfn
         have yG := ahM hown
         have O7 := ahM Mm
         rw [hfn] at hl DC
         have U7 := ahM DC
         clear hhx hxs hg wG yN tE PN UO PJ DC hfn hown Mm
         go_upto_region 30 with fail
         obtain ⟨q18, Gl⟩ : ∃ q, wr.heap.size = q := ⟨_, rfl⟩
         obtain ⟨X1, Kg⟩ : ∃ X, wr.alloc (.cells #[.int .i64 (h : Int), .slice none 0 0, .slice vA fn dF, .int .i64 (-1)] 46) = X := ⟨_, rfl⟩
         rw [Kg, Gl]
         have b1 : Below wr.heap.size wr X1 := Kg ▸ (Below.refl _ _).alloc (Nat.le_refl _) _
         have k1 : X1.heap[q18]? = some (.cells #[.int .i64 (h : Int), .slice none 0 0, .slice vA fn dF, .int .i64 (-1)] 46 (0, 0)) := by rw [← Gl, ← Kg]; exact heap_alloc_new _ _
         have GX := fB HG.out b1
         have HP1 := ahM (ID.out.lls GX (Tk.out.below uQ.out))
         have g0 := ID.out.cell GX Zv
         have g1 := ID.out.cell GX QZ
         have sgx : gq < X1.heap.size := by have := GX.size; omega
         have Yn := ahM (show Ik X1 pb 0 G.length (· ∈ ord) from ⟨by have := GX.size; omega, fun k hk => by
          have h1 := ID.out.cell GX (EC.out k hk)
          rw [ny nu.out hk] at h1
          refine ⟨_, by rw [Nat.zero_add]; exact h1, ?_⟩
          by_cases Uz : k ∈ ord
          ·rw [if_pos Uz]; simp [Uz]
          ·rw [if_neg Uz]; simp [Uz]⟩)
         have O0 := ahM (show Ints X1 (.slice vA fn dF) (bT FL) from eD (by
          have := ak yG.out b1
          rw [O6.out] at this
          rw [show (bT FL).length = fn by rw [bT, List.length_map, O6.out]]
          exact this))
         have hl1 := (IM.out.below b1).look (i := h) agO
         rw [U7.out] at hl1
         have WY := WZ
         have M5 := ahM (Ia Iy.out hn (fun x hx => nu.out.lt x hx) X1 pb 0 G.length h (.slice A G.length cap) (.slice PA P.length aT) (.slice vA fn dF) FL HP1.out Yn.out O0.out PB WZ (fun l hl => (Js.out h l (by rw [O7.out]; exact hl)).1))
         have B1X := ahM b1
         have K1X := ahM k1
         have sx1 : X1.heap.size = q18 + 1 := by rw [← Kg, World.size_alloc, Gl]
         have Yk := ahM Gl
         have bx := cJ k1
         have bx4 := bx.2.2.2.2
         clear Kg Gl b1 k1 GX WZ WY hl bx
         go_upto_region 31 with (go_at_call 42; refine M5.out.mono ?_; rintro e W2 ⟨bv2, bl, rfl, Mk, hbd, hb2⟩; obtain ⟨bA, iN, rfl⟩ := gR Mk; have k2 := (hb2.block q18 bx4).trans K1X.out; have k2c := (cJ k2).2.1; have k2f := AK k2 1; have k2s := (cJ k2).2.2.2.2)
         obtain ⟨X2, RO⟩ : ∃ X, W2.setCell ⟨q18, 1, none⟩ (.slice bA bl.length iN) = X := ⟨_, rfl⟩
         rw [RO]
         have k18 : X2.heap[q18]? = some (.cells #[.int .i64 (h : Int), .slice bA bl.length iN, .slice vA fn dF, .int .i64 (-1)] 46 (0, 0)) := RO ▸ heap_setCell_same W2 q18 1 _ _ _ k2
         obtain ⟨c0, c1, c2, c3, c4⟩ := cJ k18
         have hwq := Yk.out
         have Sz : Below wr.heap.size wr X2 := RO ▸ (B1X.out.trans (hb2.mono B1X.out.size)).setCell (p := ⟨q18, 1, none⟩) (by show wr.heap.size ≤ q18; omega) _
         have qq := ahM (show X2.ownsRow V.heap.size 3 1 (.slice bA bl.length iN) bl.length (dQ bl) from RO ▸ (qW Mk agO).kept (aO W2 q18 1 _) (by
          cases hu : (Value.slice bA bl.length iN).ownBlock with
          | none => exact .inl rfl
          | some q => exact .inr fun e => by have := (Mk.lt q hu).1; cases e; omega))
         have Tx := ahM (show X2.ownsRow V.heap.size 3 1 (.slice vA fn dF) (bT FL).length (dQ (bT FL)) by
          have := ak yG.out Sz
          rw [O6.out] at this
          rw [show (bT FL).length = fn by rw [bT, List.length_map, O6.out]]
          exact this)
         have II := ahM (Jr.out.below Sz)
         have hrow := II.out.row
         have hQ : Q.length ≤ 5000 := by have := Vd.out.1; omega
         have OU := ahM hrow
         have VJ := ahM Sz
         have Jv := ahM hbd
         have acR : V.heap.size ≤ X2.heap.size := by have := Sz.size; omega
         clear hwq RO k18 Sz hrow Mk hbd hb2 k2 k2c k2f k2s M5 hl1 hc g0 g1
         go_wp2_with (at_builtin; refine wpList_append_own_at _ rfl (.tmp 115) (.tmp 117) 35 rfl V.heap.size 46 iL _ 4 64 Tryz.underlying35 rN Jf Kh hL2 rfl agQ (.slice lA Q.length F4) _ _ rfl (OU.out.alloc _) ⟨X2.heap.size, 0, none⟩ 1 1 [.int .i64 (h : Int), .slice bA bl.length iN, .slice vA fn dF, .int .i64 (-1)] rfl rfl (r7 _ _ _ _ _ _) agR agS agO ag0 ?_; intro v' W' hown' hgrow _ jR; obtain ⟨g', cap', rfl⟩ := ownsRow_succ hown')
         go_roundw
         case rel =>
          have bA2 : Below X2.heap.size X2 (X2.alloc (.cells #[.int .i64 (h : Int), .slice bA bl.length iN, .slice vA fn dF, .int .i64 (-1)] 46)) := (Below.refl _ _).alloc (Nat.le_refl _) _
          have bW := VJ.out.trans (bA2.mono VJ.out.size)
          have ZX := OU.out.alloc (.cells #[.int .i64 (h : Int), .slice bA bl.length iN, .slice vA fn dF, .int .i64 (-1)] 46)
          refine ⟨j + 1, _, Q ++ [⟨(h : Int), .slice bA bl.length iN, .slice vA fn dF, -1⟩], L ++ [⟨(h : Int), bl, bT FL⟩], by omega, by go_num, rfl, ?_, (IM.out.below bW).Q0 ZX hgrow, eC (ak HRS.out bW) ZX hgrow, II.out.app (q := ⟨(h : Int), .slice bA bl.length iN, .slice vA fn dF, -1⟩) (x := ⟨(h : Int), bl, bT FL⟩) bA2 hgrow hown' ⟨rfl, qq.out, Tx.out⟩, ?_, fun x hx => ?_⟩
          ·exact rP (fB HG.out bW) hgrow (fun q hq => (OU.out.lt q hq).1)
          ·rw [List.map_append, Ty.out, jl.out]; rfl
          ·rcases List.mem_append.1 hx with hx | hx
           ·exact IK.out x hx
           ·obtain rfl : x = ⟨(h : Int), bl, bT FL⟩ := by simpa using hx
            simp only [Int.toNat_natCast]
            rw [O7.out]
            exact ⟨rfl, Jv.out⟩
         case measure => simp [intOf]; omega
        ·obtain rfl : hn9 = j := by omega
         have dl : decide ((hn9 : Int) < (hn9 : Int)) = false := by simp
         have HLR := ahM (show iR P ord pos EL D L from ⟨IB.out, by rw [PN, List.take_of_length_le (by rw [TG.out]; exact Nat.le_refl _)]; exact Ye.out.MG, fun x => by rw [PN, List.take_of_length_le (by rw [TG.out]; exact Nat.le_refl _), Ye.out.mem, qC, HF.out], fun x hx => by rw [HF.out]; exact UO x hx⟩)
         have hQ := PJ.1
         have hL9 : L.length ≤ 1000000 := by have := PJ.2; omega
         have HL9 := ahM PJ.2
         have HLQ := ahM (show LL V.heap.size wr (.slice lA hn9 F4) Q L by have := tE; rwa [hQ] at this)
         rw [hQ]
         clear hg wG yN tE PN UO PJ HRS IM hQ Jr
         go_upto_region 34 with fail
         go_loopw [122] (fun OE wr => ∃ (i : Nat) (Q : List Qp), i ≤ hn9 ∧ OE = .int .i64 (i : Int) ∧ V.grownBy wr (some mb) ∧ LL V.heap.size wr (.slice lA hn9 F4) Q L) (fun OE _ => hn9 - (intOf OE).toNat)
         case atStart => exact ⟨0, Q, Nat.zero_le _, rfl, HG.out, HLQ.out⟩
         case round =>
          clear HLQ HG
          obtain ⟨i, Q5, hi, rfl, hg, tE⟩ := hrel
          have HG := ahM hg
          have Jr := ahM tE
          have sVw := hg.size
          by_cases hlt : i < hn9
          ·have dl : decide ((i : Int) < (hn9 : Int)) = true := decide_eq_true agO
           have i1 : (i : Int) < (hn9 : Int) := by omega
           obtain ⟨g, hge, Mg, Xa⟩ : ∃ g, lA = some ⟨g, 0, none⟩ ∧ V.heap.size ≤ g ∧ g < wr.heap.size := by
            rcases tE.row.2 with ⟨e, _⟩ | ⟨g, cap', cur, e, _⟩
            ·cases e; omega
            ·cases e; exact ⟨g, rfl, tE.row.lt g rfl⟩
           subst hge
           have UH : Q5.length = hn9 := by rw [tE.len, HL9.out]
           obtain ⟨q, hq⟩ : ∃ q, Q5[i]? = some q := ⟨_, List.getElem?_eq_getElem (by rw [UH]; exact hlt)⟩
           have HQI := ahM hq
           have HQN := ahM UH
           have Yp := ahM (zE _ L i wr tE.LJ (by rw [HL9.out]; exact hlt) hL9)
           have T6 := ahM (show ∀ W3, Below wr.heap.size wr W3 → W3.cell? ⟨g, i * 4 + 3, none⟩ = some (.int .i64 q.p) ∧ W3.frozen? ⟨g, i * 4 + 3, none⟩ = false ∧ g < W3.heap.size from fun W3 hb => by
            have h3 := tE.below hb
            have hr := h3.row
            rw [UH] at hr
            refine ⟨?_, hr.frozenAt _, by have := hb.size; omega⟩
            rw [hr.cellAt _ agO, ru Q5 i 3 q hq agO]
            rfl)
           clear hg tE hq UH
           go_wp2_with (go_at_call 43; refine Yp.out.mono ?_; rintro e W3 ⟨⟨r, rfl⟩, hb3⟩; obtain ⟨cc1, cc2, cc3⟩ := T6.out W3 hb3)
           go_roundw
           case rel => exact ⟨i + 1, _, by omega, by go_num, rP (fB HG.out hb3) (aO W3 g _ _) (fun k hk => by cases hk; exact Mg), (Jr.out.below hb3).VS HQI.out r⟩
           case measure => simp [intOf]; omega
          ·obtain rfl : hn9 = i := by omega
           have dl : decide ((hn9 : Int) < (hn9 : Int)) = false := by simp
           clear hg tE
           go_wp2_with fail
           refine bodyPost_ret (results_tmp3 rfl _ _ _) rfl ⟨⟨D, OT.out, .inl ⟨_, L, rfl, Jr.out.LJ, HLR.out⟩⟩, ?_⟩
           exact (B0.out.trans (uQ.out.mono B0.out.size)).grown HG.out (by have := B0.out.size; have := uQ.out.size; omega) (fun k hk => by cases hk; exact Lm.out)
end
end Go.Proofs.YtlmgkipmfgijiaaGreatDoor
