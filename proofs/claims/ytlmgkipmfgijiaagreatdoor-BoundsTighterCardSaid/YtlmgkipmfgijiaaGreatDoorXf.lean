/-
  What is proved here: parts pIncl, pPar, pSort, pVis, pBody, pMem, pMem2, pFind, ppRow.
-/
import Derived.Test.YtlmgkipmfgijiaaGreatDoorXa
import Derived.Test.YtlmgkipmfgijiaaGreatDoorXe
import Derived.Shelf.SlIterI.Nil
import Derived.Shelf.SlIterI.Sorted
import Derived.Shelf.SortM.Plain
import Derived.Shelf.SortM.SortNone
import Derived.Ground.GgzProg
import Derived.Ground.SlgmProg
import Derived.Laws.EntriesVeiled
import Derived.Test.YtlmgkipmfgijiaaGreatDoorXb
import Derived.Maps.AppendAt
import Derived.Laws.AppendOwnNone
import Derived.Laws.OwnMore
namespace Go.Proofs.YtlmgkipmfgijiaaGreatDoor
set_option linter.unusedVariables false
set_option linter.unusedSimpArgs false
set_option maxRecDepth 100000
set_option maxHeartbeats 8000000
section
open Go.RowKit
def Mo (e : Ending) : Prop := ∃ r : Bool, e = .returned (.bool r)
def P6 (e : Ending) : Prop := ∃ r : Int, e = .returned (.int .i64 r)
theorem vS (u v : Value) (l1 l2 : List Int) (w : World) (H1 : Ints w u l1) (H2 : Ints w v l2) :
  Calls Tryz.prog 74 #[u, v] w fun e w' => Mo e ∧ Below w.heap.size w w' := by
 obtain ⟨A, cap, rfl, hc1, hc2⟩ := H1.slice
 obtain ⟨B, jd, rfl, hd1, hd2⟩ := H2.slice
 have HA := aiU H1
 have HB := aiU H2
 clear H1 H2
 obtain ⟨n1, hn1⟩ : ∃ n, l1.length = n := ⟨_, rfl⟩
 obtain ⟨n2, hn2⟩ : ∃ n, l2.length = n := ⟨_, rfl⟩
 rw [hn1] at hc1 ⊢
 rw [hn2] at hd1 ⊢
 have Qj := aiU hn1
 have BC := aiU hn2
 clear hn1 hn2
 go_enter Tryz.func74, Tryz.ntmps74
 go_upto_region 3 with fail
 go_loopw [5, 10] (fun a5 a10 wr => ∃ k i : Nat, k ≤ n2 ∧ i ≤ n1 ∧ a10 = .int .i64 (k : Int) ∧ a5 = .int .i64 (i : Int) ∧ Below w.heap.size w wr) (fun _ a10 _ => n2 - (intOf a10).toNat)
 case atStart => exact ⟨0, 0, Nat.zero_le _, Nat.zero_le _, rfl, rfl, Below.refl _ _⟩
 case round =>
  obtain ⟨k, i0, hk, hi0, rfl, rfl, hb⟩ := hrel
  have HW := aiU hb
  by_cases hlt : k < n2
  ·have dl : decide ((k : Int) < (n2 : Int)) = true := decide_eq_true ahU
   obtain ⟨x, bq, bo, hx, e, sq, c1⟩ := (BC.out ▸ HB.out : Ints w (.slice B l2.length jd) l2).at_ hb (j := k) (by rw [BC.out]; exact hlt)
   subst e
   have sw : bq < wr.heap.size := by have := hb.size; omega
   clear hb hx
   go_upto_region 5 with fail
   clear c1 sw
   go_loopw [5] (fun a5 wr => ∃ i : Nat, i ≤ n1 ∧ a5 = .int .i64 (i : Int) ∧ Below w.heap.size w wr) (fun a5 _ => n1 - (intOf a5).toNat)
   case atStart => exact ⟨i0, hi0, rfl, HW.out⟩
   case round =>
    clear HW hi0
    obtain ⟨i, hi, rfl, hb⟩ := hrel
    have HW := aiU hb
    by_cases hlt2 : i < n1
    ·have dl2 : decide ((i : Int) < (n1 : Int)) = true := decide_eq_true ahU
     have dl3 : ((i : Int) == (n1 : Int)) = false := beq_eq_false_iff_ne.2 ahU
     obtain ⟨y, aq, ao, hy, e, sq, c1⟩ := (Qj.out ▸ HA.out : Ints w (.slice A l1.length cap) l1).at_ hb (j := i) (by rw [Qj.out]; exact hlt2)
     subst e
     have sw : aq < wr.heap.size := by have := hb.size; omega
     clear hb hy
     by_cases hyx : y < x
     ·have d4 : decide (y < x) = true := decide_eq_true hyx
      go_wp2_with fail
      go_roundw
      case rel => exact ⟨i + 1, by omega, by go_num, HW.out⟩
      case measure => simp [intOf]; omega
     ·have d4 : decide (y < x) = false := decide_eq_false hyx
      by_cases hne : y = x
      ·have d5 : (y != x) = false := by simp [hne]
       go_wp2_with fail
       go_roundw
       case rel => exact ⟨k + 1, i, by omega, hi, by go_num, rfl, HW.out⟩
       case measure => simp [intOf]; omega
      ·have d5 : (y != x) = true := by simp [hne]
       go_wp2_with fail
       go_ret
       exact ⟨⟨false, rfl⟩, HW.out⟩
    ·obtain rfl : n1 = i := by omega
     have dl2 : decide ((n1 : Int) < (n1 : Int)) = false := by simp
     have dl3 : ((n1 : Int) == (n1 : Int)) = true := by simp
     clear hb
     go_wp2_with fail
     go_ret
     exact ⟨⟨false, rfl⟩, HW.out⟩
  ·obtain rfl : n2 = k := by omega
   have dl : decide ((n2 : Int) < (n2 : Int)) = false := by simp
   clear hb
   go_wp2_with fail
   go_ret
   exact ⟨⟨true, rfl⟩, HW.out⟩
end
section
open Go.RowKit
structure Lp where
 h : Int
 bl : List Int
 la : List Int
def Mr (w w' : World) (b o : Nat) (x : Lp) : Prop :=
 w'.cell? ⟨b, o, none⟩ = some (.int .i64 x.h) ∧ (∃ v, w'.cell? ⟨b, o + 1, none⟩ = some v ∧ Ints w v x.bl) ∧ (∃ v, w'.cell? ⟨b, o + 2, none⟩ = some v ∧ Ints w v x.la) ∧ ∃ p : Int, w'.cell? ⟨b, o + 3, none⟩ = some (.int .i64 p)
def tv (w : World) (v : Value) (L : List Lp) : Prop :=
 ∃ A cap, v = .slice A L.length cap ∧ L.length ≤ cap ∧ cap ≤ maxLen ∧ (0 < L.length → ∃ b off, A = some ⟨b, off, none⟩ ∧ b < w.heap.size ∧ ∀ (k : Nat) (x : Lp), L[k]? = some x → Mr w w b (off + k * 4) x)
theorem Mr.below {w w' : World} {b o : Nat} {x : Lp} (h : Mr w w b o x) (hb : Below w.heap.size w w') (hl : b < w.heap.size) : Mr w w' b o x := by
 obtain ⟨h1, ⟨v, h2, h3⟩, ⟨u, h4, h5⟩, p, h6⟩ := h
 exact ⟨(hb.cell (p := ⟨b, _, none⟩) hl).trans h1, ⟨v, (hb.cell (p := ⟨b, _, none⟩) hl).trans h2, h3⟩, ⟨u, (hb.cell (p := ⟨b, _, none⟩) hl).trans h4, h5⟩, p, (hb.cell (p := ⟨b, _, none⟩) hl).trans h6⟩
theorem tv.below {w w' : World} {v : Value} {L : List Lp} (h : tv w v L) (hb : Below w.heap.size w w') : tv w' v L := by
 obtain ⟨A, cap, h1, h2, h3, h4⟩ := h
 refine ⟨A, cap, h1, h2, h3, fun h0 => ?_⟩
 obtain ⟨b, off, e, hl, hc⟩ := h4 h0
 refine ⟨b, off, e, by have := hb.size; omega, fun k x hx => ?_⟩
 obtain ⟨h1, ⟨v, h2, h3⟩, ⟨u, h4, h5⟩, p, h6⟩ := (hc k x hx).below hb hl
 exact ⟨h1, ⟨v, h2, h3.below hb⟩, ⟨u, h4, h5.below hb⟩, p, h6⟩
theorem cK {w : World} {b : Nat} {a c d e : Value} {t : TypeId} (h : w.heap[b]? = some (.cells #[a, c, d, e] t (0, 0))) : w.cell? ⟨b, 0, none⟩ = some a ∧ w.cell? ⟨b, 1, none⟩ = some c ∧ w.cell? ⟨b, 2, none⟩ = some d ∧ w.cell? ⟨b, 3, none⟩ = some e ∧ b < w.heap.size :=
 ⟨by simp [World.cell?, h], by simp [World.cell?, h], by simp [World.cell?, h], by simp [World.cell?, h], (Array.getElem?_eq_some_iff.1 h).1⟩
theorem Aa (v : Value) (L : List Lp) (i : Nat) (w : World) (HL : tv w v L) (hi : i < L.length) (hn5 : L.length ≤ 1000000) :
  Calls Tryz.prog 43 #[v, .int .i64 (i : Int)] w fun e w' => P6 e ∧ Below w.heap.size w w' := by
 obtain ⟨A, cap, rfl, hc1, hc2, h4⟩ := HL
 obtain ⟨q, off, rfl, hq, hc⟩ := h4 ahU
 obtain ⟨n, hn⟩ : ∃ n, L.length = n := ⟨_, rfl⟩
 rw [hn] at hi hn5 ⊢
 have HN := aiU hn
 have HC := aiU hc
 obtain ⟨x, hx⟩ : ∃ x, L[i]? = some x := ⟨_, List.getElem?_eq_getElem (by rw [HN.out]; exact hi)⟩
 obtain ⟨c0, ⟨bv, c1, mV⟩, ⟨lv, c2, hlv⟩, p0, c3⟩ := hc i x hx
 obtain ⟨BA, jd, rfl, hb1, hb2⟩ := mV.slice
 obtain ⟨ZA, RB, rfl, -, -⟩ := hlv.slice
 obtain ⟨zn, hzn⟩ : ∃ n, x.la.length = n := ⟨_, rfl⟩
 rw [hzn] at c2
 obtain ⟨bn, lu⟩ : ∃ n, x.bl.length = n := ⟨_, rfl⟩
 rw [lu] at c1
 obtain ⟨xh, qP⟩ : ∃ h, x.h = h := ⟨_, rfl⟩
 rw [qP] at c0
 have vt := aiU mV
 have Rq := aiU lu
 have i1 : (i : Int) < (n : Int) := by omega
 clear h4 hc hx hn hc1 hc2 mV hlv hb1 hb2 lu qP hzn
 go_enter Tryz.func43, Tryz.ntmps43
 go_upto_region 3 with fail
 obtain ⟨q6, hq6⟩ : ∃ q, w.heap.size = q := ⟨_, rfl⟩
 obtain ⟨V, hV⟩ : ∃ V, w.alloc (.cells #[.int .i64 xh, .slice BA bn jd, .slice ZA zn RB, .int .i64 p0] 46) = V := ⟨_, rfl⟩
 rw [hV, hq6]
 have b1 : Below w.heap.size w V := hV ▸ (Below.refl _ _).alloc (Nat.le_refl _) _
 have k6 : V.heap[q6]? = some (.cells #[.int .i64 xh, .slice BA bn jd, .slice ZA zn RB, .int .i64 p0] 46 (0, 0)) := by rw [← hq6, ← hV]; exact heap_alloc_new _ _
 have K6 := aiU k6
 have B1 := aiU b1
 have lq6 := (cK k6).2.2.2.2
 clear k6 b1 hV hq6 c0 c1 c2 c3 i1
 go_upto_region 4 with fail
 go_loopw [5, 15] (fun a5 a15 wr => ∃ (k : Nat) (best : Int), k ≤ n ∧ (best = -1 ∨ 0 ≤ best ∧ best < (n : Int)) ∧ a15 = .int .i64 (k : Int) ∧ a5 = .int .i64 best ∧ Below V.heap.size V wr) (fun _ a15 _ => n - (intOf a15).toNat)
 case atStart => exact ⟨0, -1, Nat.zero_le _, .inl rfl, rfl, rfl, Below.refl _ _⟩
 case round =>
  obtain ⟨k, best, hk, yB, rfl, rfl, hb⟩ := hrel
  have HW := aiU hb
  have hsz := hb.size
  have Zd := aiU (B1.out.trans (hb.mono B1.out.size))
  by_cases hlt : k < n
  ·have dl : decide ((k : Int) < (n : Int)) = true := decide_eq_true ahU
   obtain ⟨y, hy⟩ : ∃ x, L[k]? = some x := ⟨_, List.getElem?_eq_getElem (by rw [HN.out]; exact hlt)⟩
   obtain ⟨c0, ⟨yv, c1, XH⟩, ⟨zv, c2, hzv⟩, p1, c3⟩ := (HC.out k y hy).below Zd.out hq
   obtain ⟨YA, N9, rfl, hy1, hy2⟩ := XH.slice
   obtain ⟨TA, RF, rfl, -, -⟩ := hzv.slice
   obtain ⟨tn, htn⟩ : ∃ n, y.la.length = n := ⟨_, rfl⟩
   rw [htn] at c2
   obtain ⟨yn, MV⟩ : ∃ n, y.bl.length = n := ⟨_, rfl⟩
   rw [MV] at c1
   obtain ⟨yh, QG⟩ : ∃ h, y.h = h := ⟨_, rfl⟩
   rw [QG] at c0
   have HYV := aiU XH
   have HYN := aiU MV
   have sq : q < wr.heap.size := by have := Zd.out.size; omega
   have i1 : (k : Int) < (n : Int) := by omega
   clear hb hy XH hzv hy1 hy2 MV QG htn
   go_upto_region 6 with fail
   obtain ⟨q8, hq8⟩ : ∃ q, wr.heap.size = q := ⟨_, rfl⟩
   obtain ⟨X, hX⟩ : ∃ X, wr.alloc (.cells #[.int .i64 yh, .slice YA yn N9, .slice TA tn RF, .int .i64 p1] 46) = X := ⟨_, rfl⟩
   rw [hX, hq8]
   have bX : Below wr.heap.size wr X := hX ▸ (Below.refl _ _).alloc (Nat.le_refl _) _
   have k8 : X.heap[q8]? = some (.cells #[.int .i64 yh, .slice YA yn N9, .slice TA tn RF, .int .i64 p1] 46 (0, 0)) := by rw [← hq8, ← hX]; exact heap_alloc_new _ _
   obtain ⟨z0, z1, -, -, z4⟩ := cK k8
   have QU : Below V.heap.size V X := HW.out.trans (bX.mono hsz)
   obtain ⟨y0, y1, -, -, y4⟩ := cK ((QU.block q6 lq6).trans K6.out)
   have SG : Below w.heap.size w X := B1.out.trans (QU.mono B1.out.size)
   have Uo := aiU QU
   have HWX := aiU SG
   have sqX : q < X.heap.size := by have := SG.size; omega
   have SK := QU.size
   have UU := aiU (fun (W : World) (hW : Below X.heap.size X W) => vS (.slice YA yn N9) (.slice BA bn jd) y.bl x.bl W (by have := (HYV.out.below SG).below hW; rw [HYN.out] at this; exact this) (by have := (vt.out.below SG).below hW; rw [Rq.out] at this; exact this))
   clear bX k8 hX hq8 c0 c1 c2 c3 QU SG sq
   by_cases hh : yh = xh
   ·have e1 : (yh == xh) = true := beq_iff_eq.2 hh
    go_wp2_with fail
    go_roundw
    case rel => exact ⟨k + 1, best, by omega, yB, by go_num, rfl, Uo.out⟩
    case measure => simp [intOf]; omega
   ·have e1 : (yh == xh) = false := beq_eq_false_iff_ne.2 hh
    by_cases hl : yn < bn
    ·have e2 : decide ((yn : Int) < (bn : Int)) = true := decide_eq_true ahU
     have e3 : decide (yn < bn) = true := decide_eq_true hl
     go_wp2_with fail
     go_roundw
     case rel => exact ⟨k + 1, best, by omega, yB, by go_num, rfl, Uo.out⟩
     case measure => simp [intOf]; omega
    ·have e2 : decide ((yn : Int) < (bn : Int)) = false := decide_eq_false ahU
     have e3 : decide (yn < bn) = false := decide_eq_false hl
     have HBE := aiU yB
     by_cases hneg : best < 0
     ·have e4 : decide ((0 : Int) ≤ best) = false := decide_eq_false ahU
      clear yB
      go_upto_region 7 with fail
      refine aj ahV ahV ?_
      repeat (go_big_quiet_step (fail))
      refine wpQuiet_nil ?_
      rintro _ ⟨s, rfl⟩
      have hsx := s.h.size
      have a1 := s.cell q8 1 z4
      have a2 := s.cell q6 1 y4
      rw [z1] at a1
      rw [y1] at a2
      have sl1 : q8 < s.w.heap.size := by omega
      have sl2 : q6 < s.w.heap.size := by omega
      clear z0 z1 y0 y1
      go_wp2_with (go_at_call 74; refine (UU.out s.w s.h).mono ?_; rintro e W9 ⟨⟨r, rfl⟩, hb9⟩)
      all_goals have NR := aiU (Uo.out.trans ((s.h.trans (hb9.mono s.h.size)).mono SK))
      all_goals go_roundw
      case rel => exact ⟨k + 1, (k : Int), by omega, .inr ⟨by omega, by omega⟩, by go_num, rfl, NR.out⟩
      case measure => simp [intOf]; omega
      case rel => exact ⟨k + 1, best, by omega, HBE.out, by go_num, rfl, NR.out⟩
      case measure => simp [intOf]; omega
     ·obtain ⟨m, rfl⟩ : ∃ m : Nat, best = (m : Int) := ⟨best.toNat, by omega⟩
      have hmn : m < n := by omega
      have e4 : decide ((0 : Int) ≤ (m : Int)) = true := decide_eq_true ahU
      obtain ⟨z, hz⟩ : ∃ x, L[m]? = some x := ⟨_, List.getElem?_eq_getElem (by rw [HN.out]; exact hmn)⟩
      obtain ⟨-, ⟨uv, c1, huv⟩, -, -⟩ := (HC.out m z hz).below HWX.out hq
      obtain ⟨UA, adI, rfl, -, -⟩ := huv.slice
      obtain ⟨un, hun⟩ : ∃ n, z.bl.length = n := ⟨_, rfl⟩
      rw [hun] at c1
      have i2 : (m : Int) < (n : Int) := by omega
      clear yB hz huv hun hneg
      by_cases hu : un ≤ yn
      ·have e5 : decide ((un : Int) ≤ (yn : Int)) = true := decide_eq_true ahU
       have e6 : decide (un ≤ yn) = true := decide_eq_true hu
       go_upto_region 7 with fail
       refine aj ahV ahV ?_
       repeat (go_big_quiet_step (fail))
       refine wpQuiet_nil ?_
       rintro _ ⟨s, rfl⟩
       have hsx := s.h.size
       have a1 := s.cell q8 1 z4
       have a2 := s.cell q6 1 y4
       rw [z1] at a1
       rw [y1] at a2
       have sl1 : q8 < s.w.heap.size := by omega
       have sl2 : q6 < s.w.heap.size := by omega
       clear z0 z1 y0 y1
       clear c1
       go_wp2_with fail
       go_roundw
       case rel => exact ⟨k + 1, (m : Int), by omega, HBE.out, by go_num, rfl, Uo.out.trans (s.h.mono SK)⟩
       case measure => simp [intOf]; omega
      ·have e5 : decide ((un : Int) ≤ (yn : Int)) = false := decide_eq_false ahU
       have e6 : decide (un ≤ yn) = false := decide_eq_false hu
       go_upto_region 7 with fail
       refine aj ahV ahV ?_
       repeat (go_big_quiet_step (fail))
       refine wpQuiet_nil ?_
       rintro _ ⟨s, rfl⟩
       have hsx := s.h.size
       have a1 := s.cell q8 1 z4
       have a2 := s.cell q6 1 y4
       rw [z1] at a1
       rw [y1] at a2
       have sl1 : q8 < s.w.heap.size := by omega
       have sl2 : q6 < s.w.heap.size := by omega
       clear z0 z1 y0 y1
       clear c1
       go_wp2_with (go_at_call 74; refine (UU.out s.w s.h).mono ?_; rintro e W9 ⟨⟨r, rfl⟩, hb9⟩)
       all_goals have NR := aiU (Uo.out.trans ((s.h.trans (hb9.mono s.h.size)).mono SK))
       all_goals go_roundw
       case rel => exact ⟨k + 1, (k : Int), by omega, .inr ⟨by omega, by omega⟩, by go_num, rfl, NR.out⟩
       case measure => simp [intOf]; omega
       case rel => exact ⟨k + 1, (m : Int), by omega, HBE.out, by go_num, rfl, NR.out⟩
       case measure => simp [intOf]; omega
  ·obtain rfl : n = k := by omega
   have dl : decide ((n : Int) < (n : Int)) = false := by simp
   clear hb
   go_wp2_with fail
   go_ret
   exact ⟨⟨best, rfl⟩, Zd.out⟩
end
section
open Go.RowKit Go.Maps Go.Sort Go.Shelf Go.MapKept Go.ChangeMaps
def uK : Go.Shelf.Ren := ⟨fun | 7 => 73 | 10 => 99 | n => n, fun | 23 => 99 | 26 => 3 | 3 => 4 | 28 => 113 | 0 => 0 | 27 => 112 | 33 => 155 | 4 => 4 | n => n, fun | n => n⟩
theorem MQ : Go.Proofs.SlLaysZI.n7 Tryz.prog uK := {
  mixed := by kernel_rfl
  f7 := ⟨Tryz.f73.name, by decide, Tryz.func73.trans (congrArg some ahV)⟩
  f10 := ⟨Tryz.f99.name, by decide, Tryz.func99.trans (congrArg some ahV)⟩
  t0 := Tryz.underlying0
  a0 := Tryz.isAgg0
  z0 := Tryz.sizeOf0
  v0 := Tryz.zeroValue0
  t4 := Tryz.underlying4
  a4 := Tryz.isAgg4
  z4 := Tryz.sizeOf4
  v4 := Tryz.zeroValue4
  t23 := Tryz.underlying99
  a23 := Tryz.isAgg99
  z23 := Tryz.sizeOf99
  v23 := Tryz.zeroValue99
  t26 := Tryz.underlying3
  a26 := Tryz.isAgg3
  z26 := Tryz.sizeOf3
  v26 := Tryz.zeroValue3
  t27 := Tryz.underlying112
  a27 := Tryz.isAgg112
  z27 := Tryz.sizeOf112
  v27 := Tryz.zeroValue112
  t28 := Tryz.underlying113
  a28 := Tryz.isAgg113
  z28 := Tryz.sizeOf113
  v28 := Tryz.zeroValue113
  t33 := Tryz.underlying155
  a33 := Tryz.isAgg155
  z33 := Tryz.sizeOf155
  v33 := Tryz.zeroValue155 }
def keysL_ren : Go.Shelf.Ren := ⟨fun | 7 => 41 | 10 => 71 | n => n, fun | 23 => 107 | 26 => 3 | 3 => 38 | 28 => 113 | 0 => 0 | 27 => 112 | 33 => 155 | 4 => 4 | n => n, fun | n => n⟩
theorem keysL : Go.Proofs.SlLaysZI.n7 Tryz.prog keysL_ren := {
  mixed := by kernel_rfl
  f7 := ⟨Tryz.f41.name, by decide, Tryz.func41.trans (congrArg some ahV)⟩
  f10 := ⟨Tryz.f71.name, by decide, Tryz.func71.trans (congrArg some ahV)⟩
  t0 := Tryz.underlying0
  a0 := Tryz.isAgg0
  z0 := Tryz.sizeOf0
  v0 := Tryz.zeroValue0
  t4 := Tryz.underlying4
  a4 := Tryz.isAgg4
  z4 := Tryz.sizeOf4
  v4 := Tryz.zeroValue4
  t23 := Tryz.underlying107
  a23 := Tryz.isAgg107
  z23 := Tryz.sizeOf107
  v23 := Tryz.zeroValue107
  t26 := Tryz.underlying3
  a26 := Tryz.isAgg3
  z26 := Tryz.sizeOf3
  v26 := Tryz.zeroValue3
  t27 := Tryz.underlying112
  a27 := Tryz.isAgg112
  z27 := Tryz.sizeOf112
  v27 := Tryz.zeroValue112
  t28 := Tryz.underlying113
  a28 := Tryz.isAgg113
  z28 := Tryz.sizeOf113
  v28 := Tryz.zeroValue113
  t33 := Tryz.underlying155
  a33 := Tryz.isAgg155
  z33 := Tryz.sizeOf155
  v33 := Tryz.zeroValue155 }
def pW : Go.Shelf.Ren := ⟨fun | 6 => 40 | 8 => 69 | 9 => 70 | 11 => 96 | 13 => 98 | 12 => 97 | 23 => 125 | 24 => 126 | 14 => 116 | 15 => 117 | 16 => 118 | 17 => 119 | 18 => 120 | 19 => 121 | 20 => 122 | 21 => 123 | 22 => 124 | 25 => 137 | 26 => 138 | 27 => 139 | 28 => 140 | 29 => 141 | 30 => 142 | 31 => 151 | n => n, fun | 26 => 3 | 28 => 113 | 24 => 38 | 0 => 0 | 3 => 3 | 37 => 129 | 48 => 70 | 50 => 206 | 4 => 4 | 40 => 200 | 39 => 199 | 45 => 47 | 5 => 5 | 9 => 9 | 51 => 213 | 55 => 135 | 57 => 218 | 58 => 133 | 33 => 155 | n => n, fun | n => n⟩
theorem BJ : Go.Proofs.SlLaysZI.n6 Tryz.prog pW := {
  mixed := by kernel_rfl
  f6 := ⟨Tryz.f40.name, by decide, Tryz.func40.trans (congrArg some ahV)⟩
  f8 := ⟨Tryz.f69.name, by decide, Tryz.func69.trans (congrArg some ahV)⟩
  f11 := ⟨Tryz.f96.name, by decide, Tryz.func96.trans (congrArg some ahV)⟩
  t0 := Tryz.underlying0
  a0 := Tryz.isAgg0
  z0 := Tryz.sizeOf0
  v0 := Tryz.zeroValue0
  t24 := Tryz.underlying38
  a24 := Tryz.isAgg38
  z24 := Tryz.sizeOf38
  v24 := Tryz.zeroValue38
  t26 := Tryz.underlying3
  a26 := Tryz.isAgg3
  z26 := Tryz.sizeOf3
  v26 := Tryz.zeroValue3
  t28 := Tryz.underlying113
  a28 := Tryz.isAgg113
  z28 := Tryz.sizeOf113
  v28 := Tryz.zeroValue113
  i26 := by kernel_rfl }
def Dq : Go.Shelf.Ren := ⟨fun | 5 => 70 | 8 => 98 | 7 => 97 | 19 => 125 | 20 => 126 | 10 => 116 | 11 => 117 | 12 => 118 | 13 => 119 | 14 => 120 | 15 => 121 | 16 => 122 | 17 => 123 | 18 => 124 | 30 => 137 | 31 => 138 | 32 => 139 | 33 => 140 | 34 => 141 | 35 => 142 | 40 => 151 | n => n, fun | 23 => 38 | 25 => 3 | 3 => 3 | 32 => 129 | 22 => 38 | 0 => 0 | 44 => 70 | 46 => 206 | 4 => 4 | 36 => 200 | 35 => 199 | 41 => 47 | 5 => 5 | 9 => 9 | 53 => 213 | 57 => 135 | 63 => 218 | 64 => 133 | n => n, fun | n => n⟩
theorem MJ : Go.Proofs.SlLaysM.n5 Tryz.prog Dq := {
  mixed := by kernel_rfl
  f5 := ⟨Tryz.f70.name, by decide, Tryz.func70.trans (congrArg some ahV)⟩
  f7 := ⟨Tryz.f97.name, by decide, Tryz.func97.trans (congrArg some ahV)⟩
  f8 := Tryz.func98.trans (congrArg some ahV)
  f10 := ⟨Tryz.f116.name, by decide, Tryz.func116.trans (congrArg some ahV)⟩
  f11 := ⟨Tryz.f117.name, by decide, Tryz.func117.trans (congrArg some ahV)⟩
  f12 := ⟨Tryz.f118.name, by decide, Tryz.func118.trans (congrArg some ahV)⟩
  f13 := ⟨Tryz.f119.name, by decide, Tryz.func119.trans (congrArg some ahV)⟩
  f14 := ⟨Tryz.f120.name, by decide, Tryz.func120.trans (congrArg some ahV)⟩
  f15 := ⟨Tryz.f121.name, by decide, Tryz.func121.trans (congrArg some ahV)⟩
  f16 := ⟨Tryz.f122.name, by decide, Tryz.func122.trans (congrArg some ahV)⟩
  f17 := ⟨Tryz.f123.name, by decide, Tryz.func123.trans (congrArg some ahV)⟩
  f18 := ⟨Tryz.f124.name, by decide, Tryz.func124.trans (congrArg some ahV)⟩
  f19 := Tryz.func125.trans (congrArg some ahV)
  f20 := Tryz.func126.trans (congrArg some ahV)
  f30 := ⟨Tryz.f137.name, by decide, Tryz.func137.trans (congrArg some ahV)⟩
  f31 := Tryz.func138.trans (congrArg some ahV)
  f32 := Tryz.func139.trans (congrArg some ahV)
  f33 := ⟨Tryz.f140.name, by decide, Tryz.func140.trans (congrArg some ahV)⟩
  f34 := ⟨Tryz.f141.name, by decide, Tryz.func141.trans (congrArg some ahV)⟩
  f35 := ⟨Tryz.f142.name, by decide, Tryz.func142.trans (congrArg some ahV)⟩
  f40 := ⟨Tryz.f151.name, by decide, Tryz.func151.trans (congrArg some ahV)⟩
  t0 := Tryz.underlying0
  a0 := Tryz.isAgg0
  z0 := Tryz.sizeOf0
  v0 := Tryz.zeroValue0
  t3 := Tryz.underlying3
  a3 := Tryz.isAgg3
  z3 := Tryz.sizeOf3
  v3 := Tryz.zeroValue3
  t4 := Tryz.underlying4
  a4 := Tryz.isAgg4
  z4 := Tryz.sizeOf4
  v4 := Tryz.zeroValue4
  t5 := Tryz.underlying5
  a5 := Tryz.isAgg5
  z5 := Tryz.sizeOf5
  v5 := Tryz.zeroValue5
  t9 := Tryz.underlying9
  a9 := Tryz.isAgg9
  z9 := Tryz.sizeOf9
  v9 := Tryz.zeroValue9
  t22 := Tryz.underlying38
  a22 := Tryz.isAgg38
  z22 := Tryz.sizeOf38
  v22 := Tryz.zeroValue38
  t23 := Tryz.underlying38
  a23 := Tryz.isAgg38
  z23 := Tryz.sizeOf38
  v23 := Tryz.zeroValue38
  t25 := Tryz.underlying3
  a25 := Tryz.isAgg3
  z25 := Tryz.sizeOf3
  v25 := Tryz.zeroValue3
  t32 := Tryz.underlying129
  a32 := Tryz.isAgg129
  z32 := Tryz.sizeOf129
  v32 := Tryz.zeroValue129
  t35 := Tryz.underlying199
  a35 := Tryz.isAgg199
  z35 := Tryz.sizeOf199
  v35 := Tryz.zeroValue199
  t36 := Tryz.underlying200
  a36 := Tryz.isAgg200
  z36 := Tryz.sizeOf200
  v36 := Tryz.zeroValue200
  t41 := Tryz.underlying47
  a41 := Tryz.isAgg47
  z41 := Tryz.sizeOf47
  v41 := Tryz.zeroValue47
  t44 := Tryz.underlying70
  a44 := Tryz.isAgg70
  z44 := Tryz.sizeOf70
  v44 := Tryz.zeroValue70
  t46 := Tryz.underlying206
  a46 := Tryz.isAgg206
  z46 := Tryz.sizeOf206
  v46 := Tryz.zeroValue206
  t53 := Tryz.underlying213
  a53 := Tryz.isAgg213
  z53 := Tryz.sizeOf213
  v53 := Tryz.zeroValue213
  t57 := Tryz.underlying135
  a57 := Tryz.isAgg135
  z57 := Tryz.sizeOf135
  v57 := Tryz.zeroValue135
  t63 := Tryz.underlying218
  a63 := Tryz.isAgg218
  z63 := Tryz.sizeOf218
  v63 := Tryz.zeroValue218
  t64 := Tryz.underlying133
  a64 := Tryz.isAgg133
  z64 := Tryz.sizeOf133
  v64 := Tryz.zeroValue133 }
theorem Ga (m : Nat) : AnyZI.SortsIn Tryz.prog pW Fence.wide m :=
  ⟨fun blk off cap ss W hH hblk hsz => callsIn_wide.2 (AnyM.slices_Sort_int MJ blk off cap ss W hH hblk hsz),
   fun p cap W => callsIn_wide.2 (AnyM.slices_Sort_int_none MJ p cap W)⟩
theorem Ef (mb : Option Nat) (W : World) : Calls Tryz.prog 73 #[.map mb] W fun e w' => e = .returned (.func (.func 99) #[] #[.pointer (some ⟨W.heap.size, 0, none⟩)]) ∧ w' = W.alloc (.cells #[.map mb] 99) :=
  (callsIn_wide (n := 5)).1 (AnyZI.keys_in MQ Fence.wide 5 trivial rfl mb W)
theorem Ee (mb : Option Nat) (W : World) : Calls Tryz.prog 41 #[.map mb] W fun e w' => e = .returned (.func (.func 71) #[] #[.pointer (some ⟨W.heap.size, 0, none⟩)]) ∧ w' = W.alloc (.cells #[.map mb] 107) :=
  (callsIn_wide (n := 5)).1 (AnyZI.keys_in keysL Fence.wide 5 trivial rfl mb W)
def Eg : Value → Int
  | .int _ a => a
  | _ => 0
def xP : Value → Option (DataW Unit × List MemPlace) := fun _ => some (.nil, [])
theorem rS {n : Nat} {l : List Int} (h : l.Nodup) (hl : ∀ x ∈ l, 0 ≤ x ∧ x < (n : Int)) : l.length ≤ n := by
  have h1 : (l.map Int.toNat).Nodup := by
    unfold List.Nodup
    rw [List.pairwise_map]
    refine h.imp_of_mem fun {a b} ha hb hne e => hne ?_
    have := hl a ha
    have := hl b hb
    omega
  have h2 := fy (n := n) h1 fun x hx => by
    obtain ⟨y, hy, rfl⟩ := List.mem_map.1 hx
    have := hl y hy
    omega
  simpa using h2
theorem Im.own {w : World} {b : Nat} {f : Int → Option Value} (h : Im w b f) (N : Nat) (hN : ∀ k v, f k = some v → 0 ≤ k ∧ k < (N : Int)) (VU : N ≤ 1000000) :
    ∃ (ks : List Int) (D0 : DataW Unit), ks.Nodup ∧ (∀ x, x ∈ ks ↔ f x ≠ none) ∧ w.ownsMap Tryz.prog 3 xP b N D0 ∧ (intKeys D0).Perm ks ∧ Maps.size D0 = ks.length ∧ ks.length ≤ N := by
  obtain ⟨es, clock, hb, q⟩ := h
  have hst := (stamped_iff es clock).1 q.stamped
  have hrd : ∀ x ∈ es.toList, ∃ k, K8 k ∧ x.key = kv k ∧ f k = some x.val ∧ Go.WideElems.rg Tryz.prog 3 xP x = (.int .i64 k, .nil) := fun x hx => by
    obtain ⟨k, h1, h2, h3⟩ := q.vals x hx
    refine ⟨k, h1, h2, h3, ?_⟩
    have := gP (P := Tryz.prog) (kt := 3) Tryz.underlying3 h1
    simp [Go.WideElems.rg, Go.WideElems.rd, h2, this, xP]
  have hnd : (es.toList.map fun x => Eg x.key).Nodup := by
    unfold List.Nodup
    rw [List.pairwise_map]
    refine hst.2.2.imp_of_mem fun {a c} ha hc hne e => hne ?_
    obtain ⟨k, _, h2, _⟩ := hrd a ha
    obtain ⟨k', _, h2', _⟩ := hrd c hc
    rw [h2, h2'] at e ⊢
    simp only [Eg, kv] at e
    rw [e]
  have hmem : ∀ x, x ∈ es.toList.map (fun x => Eg x.key) ↔ f x ≠ none := fun x => by
    rw [List.mem_map]
    constructor
    · rintro ⟨y, hy, rfl⟩
      obtain ⟨k, _, h2, h3, _⟩ := hrd y hy
      rw [h2]
      simp [Eg, kv, h3]
    · intro hx
      obtain ⟨v, hv⟩ := Option.ne_none_iff_exists'.1 hx
      obtain ⟨y, hy, e⟩ := q.rest x v hv
      exact ⟨y, hy, by rw [e]; rfl⟩
  have hlen : (es.toList.map fun x => Eg x.key).length ≤ N := rS hnd fun x hx => by
    obtain ⟨v, hv⟩ := Option.ne_none_iff_exists'.1 ((hmem x).1 hx)
    exact hN x v hv
  have hsz : es.size ≤ N := by simpa using hlen
  have hperm := Go.WideShapes.sorted_perm (es.toList.map (Go.WideElems.rg Tryz.prog 3 xP))
  refine ⟨_, _, hnd, hmem, ⟨es, clock, hb, ⟨by unfold maxLen; omega, q.stamped, fun x hx => ?_⟩, hsz, rfl⟩, ?_, ?_, hlen⟩
  · obtain ⟨k, h1, h2, _⟩ := hrd x hx
    have := gP (P := Tryz.prog) (kt := 3) Tryz.underlying3 h1
    exact ⟨_, by simp [Go.WideElems.rd, h2, this, xP]; rfl⟩
  · have := hperm.map fun p => Go.intOf p.1
    rw [List.map_map] at this
    refine List.Perm.trans this (List.Perm.of_eq (List.map_congr_left fun x hx => ?_))
    obtain ⟨k, _, h2, _, h4⟩ := hrd x hx
    simp only [Function.comp, h4, h2, Eg, kv]
    rfl
  · show List.length _ = _
    rw [hperm.length_eq]; simp
theorem rD {w : World} {base base' : Nat} {e : TypeId} {size : Nat} {v : Value} {n : Nat} {xs : List Value} (h : w.ownsRow base e size v n xs) (hb : base' ≤ base) : w.ownsRow base' e size v n xs := by
  refine ⟨h.1, ?_⟩
  rcases h.2 with h2 | ⟨g, cap, cur, h2, h3, h4⟩
  · exact .inl h2
  · exact .inr ⟨g, cap, cur, h2, Nat.le_trans hb h3, h4⟩
structure kD (f : Int → Option Value) (l : List Int) : Prop where
  Fq : l.Pairwise (· < ·)
  mem : ∀ x, x ∈ l ↔ f x ≠ none
theorem pU {ks ss : List Int} {f : Int → Option Value} (hn : ks.Nodup) (hm : ∀ x, x ∈ ks ↔ f x ≠ none) (hp : ss.Perm ks) : kD f (ss.mergeSort fun x y => decide (x ≤ y)) := by
  have hps := (List.mergeSort_perm ss fun x y => decide (x ≤ y)).trans hp
  refine ⟨?_, fun x => (hps.mem_iff).trans (hm x)⟩
  have h1 : (ss.mergeSort fun x y => decide (x ≤ y)).Pairwise fun x y => decide (x ≤ y) = true := List.pairwise_mergeSort (fun a b c h1 h2 => by simp only [decide_eq_true_eq] at *; omega) (fun a b => by simp only [Bool.or_eq_true, decide_eq_true_eq]; omega) ss
  have h2 : (ss.mergeSort fun x y => decide (x ≤ y)).Nodup := hps.nodup_iff.2 hn
  refine (h1.and h2).imp fun {a b} ⟨h3, h4⟩ => ?_
  have := of_decide_eq_true h3
  omega
theorem xD (b q N : Nat) (f : Int → Option Value) (w : World) (hM : Im w b f) (hN : ∀ k v, f k = some v → 0 ≤ k ∧ k < (N : Int)) (VU : N ≤ 1000000) (hq : q < w.heap.size) (hc : w.cell? ⟨q, 0, none⟩ = some (.map (some b))) :
    Calls Tryz.prog 40 #[.func (.func 99) #[] #[.pointer (some ⟨q, 0, none⟩)]] w fun e w' => ∃ v l, e = .returned v ∧ w'.ownsRow w.heap.size 3 1 v l.length (dU l) ∧ kD f l ∧ Below w.heap.size w w' := by
  obtain ⟨ks, D0, h1, h2, hown, h3, h4, h5⟩ := hM.own N hN VU
  have hseq : SeqGives Fence.wide 2 Tryz.prog 99 #[.pointer (some ⟨q, 0, none⟩)] encZ (fun ss => ss.Perm (intKeys D0)) (Maps.size D0) w :=
    AnyZI.keys_gives (ρ := uK) { MQ with } Fence.wide _ trivial rfl ahU q b N D0 _ hq hc hown
  have cS := AnyZI.sorted_in BJ Fence.wide 5 trivial trivial trivial trivial rfl ahU (Ga _) (enters_of Tryz.func70 ahV rfl) 99 #[.pointer (some ⟨q, 0, none⟩)] trivial (enters_of Tryz.func99 ahV rfl) _ _ (by rw [h4]; unfold maxLen; omega) (by rw [h4]; omega) w hseq
  refine ((callsIn_wide (n := 5)).1 cS).mono ?_
  rintro e w' ⟨v, ss, rfl, hS, hrow, hnil, hb⟩
  refine ⟨v, _, rfl, ?_, pU h1 h2 (List.Perm.trans hS h3), hb⟩
  have e1 : (ss.mergeSort fun x y => decide (x ≤ y)).length = ss.length := List.length_mergeSort ..
  rw [← e1] at hrow
  exact hrow
theorem xC (b q N : Nat) (f : Int → Option Value) (w : World) (hM : Im w b f) (hN : ∀ k v, f k = some v → 0 ≤ k ∧ k < (N : Int)) (VU : N ≤ 1000000) (hq : q < w.heap.size) (hc : w.cell? ⟨q, 0, none⟩ = some (.map (some b))) :
    Calls Tryz.prog 40 #[.func (.func 71) #[] #[.pointer (some ⟨q, 0, none⟩)]] w fun e w' => ∃ v l, e = .returned v ∧ w'.ownsRow w.heap.size 3 1 v l.length (dU l) ∧ kD f l ∧ Below w.heap.size w w' := by
  obtain ⟨ks, D0, h1, h2, hown, h3, h4, h5⟩ := hM.own N hN VU
  have hseq : SeqGives Fence.wide 2 Tryz.prog 71 #[.pointer (some ⟨q, 0, none⟩)] encZ (fun ss => ss.Perm (intKeys D0)) (Maps.size D0) w :=
    AnyZI.keys_gives (ρ := keysL_ren) { keysL with } Fence.wide _ trivial rfl ahU q b N D0 _ hq hc hown
  have cS := AnyZI.sorted_in BJ Fence.wide 5 trivial trivial trivial trivial rfl ahU (Ga _) (enters_of Tryz.func70 ahV rfl) 71 #[.pointer (some ⟨q, 0, none⟩)] trivial (enters_of Tryz.func71 ahV rfl) _ _ (by rw [h4]; unfold maxLen; omega) (by rw [h4]; omega) w hseq
  refine ((callsIn_wide (n := 5)).1 cS).mono ?_
  rintro e w' ⟨v, ss, rfl, hS, hrow, hnil, hb⟩
  refine ⟨v, _, rfl, ?_, pU h1 h2 (List.Perm.trans hS h3), hb⟩
  have e1 : (ss.mergeSort fun x y => decide (x ≤ y)).length = ss.length := List.length_mergeSort ..
  rw [← e1] at hrow
  exact hrow
end
section
open Go.RowKit
open Classical in
noncomputable def jc (S : Nat → Prop) : Int → Option Value := fun k => if 0 ≤ k ∧ S k.toNat then some (.bool true) else none
theorem I2 {S : Nat → Prop} {b : Nat} (h : S b) : jc S (b : Int) = some (.bool true) := by unfold jc; rw [if_pos ⟨by omega, by rw [Int.toNat_natCast]; exact h⟩]
theorem Cv {S : Nat → Prop} {b : Nat} (h : ¬ S b) : jc S (b : Int) = none := by unfold jc; rw [if_neg]; rintro ⟨_, h2⟩; rw [Int.toNat_natCast] at h2; exact h h2
theorem sP (S : Nat → Prop) (b : Nat) : fZ (jc S) (b : Int) (.bool true) = jc (fun x => S x ∨ x = b) := by
 funext k
 unfold fZ jc
 by_cases h : k = (b : Int)
 ·subst h
  rw [if_pos rfl, if_pos ⟨by omega, .inr (Int.toNat_natCast b)⟩]
 ·rw [if_neg h]
  by_cases h0 : 0 ≤ k
  ·have : k.toNat ≠ b := by omega
   by_cases hs : S k.toNat <;> simp [h0, this, hs]
  ·simp [h0]
theorem Mb {S : Nat → Prop} {n : Nat} (h : ∀ x, S x → x < n) : ∀ k v, jc S k = some v → 0 ≤ k ∧ k < (n : Int) := fun k v hk => by
 unfold jc at hk
 split at hk
 ·rename_i hc
  have := h _ hc.2
  omega
 ·cases hk
theorem Ma {S : Nat → Prop} {x : Int} : jc S x ≠ none ↔ 0 ≤ x ∧ S x.toNat := by
 unfold jc
 split
 ·rename_i h; simp [h]
 ·rename_i h; simp only [ne_eq, not_true_eq_false, false_iff]; exact h
open Classical in
noncomputable def oF (S : Nat → Prop) (l : List Nat) : Nat := l.countP fun x => decide (¬ S x)
theorem uX {S S' : Nat → Prop} (h : ∀ x, S x → S' x) (l : List Nat) : oF S' l ≤ oF S l := by
 unfold oF
 refine List.countP_mono_left fun x _ hx => ?_
 simp only [decide_eq_true_eq] at hx ⊢
 exact fun h1 => hx (h x h1)
noncomputable def EN (n : Nat) (S : Nat → Prop) : Nat := oF S (List.range n)
theorem EM {n : Nat} {S S' : Nat → Prop} (h : ∀ x, S x → S' x) : EN n S' ≤ EN n S := uX h _
theorem qm (S : Nat → Prop) (l m : List Nat) : oF S (l ++ m) = oF S l + oF S m := by unfold oF; exact List.countP_append
theorem IL {S : Nat → Prop} {b : Nat} (h : S b) (l : List Nat) : oF S (b :: l) = oF S l := by unfold oF; rw [List.countP_cons, if_neg (by simp [h])]; rfl
theorem LS {S : Nat → Prop} {b : Nat} (h : ¬ S b) (l : List Nat) : oF S (b :: l) = oF S l + 1 := by unfold oF; rw [List.countP_cons, if_pos (by simp [h])]
theorem yN {n b : Nat} {S : Nat → Prop} (hb : b < n) (h : ¬ S b) : EN n (fun x => S x ∨ x = b) < EN n S := by
 unfold EN
 have e1 : List.range n = List.range b ++ b :: (List.range' (b + 1) (n - b - 1)) := by
  rw [List.range_eq_range', List.range_eq_range', show n = b + (1 + (n - b - 1)) by omega, ← List.range'_append_1, ← List.range'_append_1]
  simp
 have le := uX (S := S) (S' := fun x => S x ∨ x = b) fun x hx => .inl hx
 rw [e1, qm, qm, LS h, IL (S := fun x => S x ∨ x = b) (.inr rfl)]
 have h1 := le (List.range b)
 have h2 := le (List.range' (b + 1) (n - b - 1))
 omega
structure FM (w wr : World) (mq pq gq fq mb : Nat) (pv bv lv : Value) (S : Nat → Prop) : Prop where
 aD : Below w.heap.size w wr
 Vx : wr.heap[mq]? = some (.cells #[.map (some mb)] 99 (0, 0))
 Ed : wr.heap[pq]? = some (.cells #[pv] 38 (0, 0))
 La : wr.heap[gq]? = some (.cells #[bv, lv] 31 (0, 0))
 Lb : wr.heap[fq]? = some (.cells #[.func (.func 72) #[] #[.pointer (some ⟨mq, 0, none⟩), .pointer (some ⟨pq, 0, none⟩), .pointer (some ⟨gq, 0, none⟩), .pointer (some ⟨fq, 0, none⟩)]] 152 (0, 0))
 im : Im wr mb (jc S)
 hi : w.heap.size ≤ mb
section
variable {w wr : World} {mq pq gq fq mb : Nat} {pv bv lv : Value} {S : Nat → Prop}
theorem FM.put (h : FM w wr mq pq gq fq mb pv bv lv S) (b : Nat) {w' : World} (hm : Im w' mb (fZ (jc S) (b : Int) (.bool true))) (ho : w'.os = wr.os) (ht : w'.tape = wr.tape) (hp : w'.output = wr.output) (hs : w'.heap.size = wr.heap.size) (hk : ∀ i, i ≠ mb → w'.heap[i]? = wr.heap[i]?) : FM w w' mq pq gq fq mb pv bv lv (fun x => S x ∨ x = b) := by
 have ne : ∀ (q : Nat) (o : Array Value) (t : TypeId), wr.heap[q]? = some (.cells o t (0, 0)) → q ≠ mb := fun q o t hq e => by
  obtain ⟨es, cl, h1, _⟩ := h.im
  rw [e, h1] at hq; cases hq
 refine ⟨h.aD.trans ⟨ho, ht, hp, by omega, fun k hk' => hk k (by have := h.hi; omega)⟩, (hk _ (ne _ _ _ h.Vx)).trans h.Vx, (hk _ (ne _ _ _ h.Ed)).trans h.Ed, (hk _ (ne _ _ _ h.La)).trans h.La, (hk _ (ne _ _ _ h.Lb)).trans h.Lb, ?_, h.hi⟩
 rw [← sP]; exact hm
theorem FM.cells (h : FM w wr mq pq gq fq mb pv bv lv S) : wr.cell? ⟨mq, 0, none⟩ = some (.map (some mb)) ∧ wr.cell? ⟨pq, 0, none⟩ = some pv ∧ wr.cell? ⟨gq, 1, none⟩ = some lv ∧ wr.cell? ⟨fq, 0, none⟩ = some (.func (.func 72) #[] #[.pointer (some ⟨mq, 0, none⟩), .pointer (some ⟨pq, 0, none⟩), .pointer (some ⟨gq, 0, none⟩), .pointer (some ⟨fq, 0, none⟩)]) ∧ mq < wr.heap.size ∧ pq < wr.heap.size ∧ gq < wr.heap.size ∧ fq < wr.heap.size :=
 ⟨by simp [World.cell?, h.Vx], by simp [World.cell?, h.Ed], by simp [World.cell?, h.La], by simp [World.cell?, h.Lb], (Array.getElem?_eq_some_iff.1 h.Vx).1, (Array.getElem?_eq_some_iff.1 h.Ed).1, (Array.getElem?_eq_some_iff.1 h.La).1, (Array.getElem?_eq_some_iff.1 h.Lb).1⟩
end
structure Jq (w : World) (pk po n : Nat) (R : Nat → Prop) : Prop where
 lt : pk < w.heap.size
 at_ : ∀ k, k < n → ∃ x : Int, w.cell? ⟨pk, po + k, none⟩ = some (.int .i64 x) ∧ (0 ≤ x ↔ R k)
theorem sS (w : World) : (zeroValue 4).run Tryz.prog w = .ok (.bool false) w := by kernel_rfl
theorem Bd {G : List aU} {P : List (List Int)} {R : Nat → Prop} (HV : bQ G P) (hn5 : G.length ≤ 5000) (w : World) (mq pq gq fq mb pk po aX : Nat) (bv lv : Value) (HP : mG w lv P) (Kh : Jq w pk po G.length R) : ∀ (f b : Nat) (S : Nat → Prop) (wr : World), FM w wr mq pq gq fq mb (.slice (some ⟨pk, po, none⟩) G.length aX) bv lv S → EN G.length S ≤ f → b < G.length →
  Calls Tryz.prog 72 #[.int .i64 (b : Int), .pointer (some ⟨mq, 0, none⟩), .pointer (some ⟨pq, 0, none⟩), .pointer (some ⟨gq, 0, none⟩), .pointer (some ⟨fq, 0, none⟩)] wr fun e w' => e = .returned (.tuple #[]) ∧ ∃ S' : Nat → Prop, FM w w' mq pq gq fq mb (.slice (some ⟨pk, po, none⟩) G.length aX) bv lv S' ∧ Kb (mA P) R b S S' := by
 have he : ∀ (args : Array Value) (w : World), (callFunc 72 args).run Tryz.prog w = .ok (.enter 72 args) w := fun _ _ => by kernel_rfl
 obtain ⟨PA, yc, rfl, hp1, hp2⟩ := HP.slice
 have xe := aiU HV.len
 have Jw := aiU HV
 have Zr := aiU HP
 have Kh := aiU Kh
 clear HP HV hp1 hp2
 have seen : ∀ (b : Nat) (S : Nat → Prop) (wr : World), FM w wr mq pq gq fq mb (.slice (some ⟨pk, po, none⟩) G.length aX) bv (.slice PA P.length yc) S → S b → b < G.length →
   Calls Tryz.prog 72 #[.int .i64 (b : Int), .pointer (some ⟨mq, 0, none⟩), .pointer (some ⟨pq, 0, none⟩), .pointer (some ⟨gq, 0, none⟩), .pointer (some ⟨fq, 0, none⟩)] wr fun e w' => e = .returned (.tuple #[]) ∧ ∃ S' : Nat → Prop, FM w w' mq pq gq fq mb (.slice (some ⟨pk, po, none⟩) G.length aX) bv (.slice PA P.length yc) S' ∧ Kb (mA P) R b S S' := by
  intro b S wr hB hS lu
  obtain ⟨t1, t2, t3, t4, t5, t6, t7, t8⟩ := hB.cells
  have Rp := aiU hB
  have hl := hB.im.gB (P := Tryz.prog) (kt := 3) (t := 99) (e := 4) Tryz.underlying3 Tryz.underlying99 (I2 hS) false
  simp only [kv, Bool.false_eq_true, if_false] at hl
  have HR := aiU (show Kb (mA P) R b S S from .skip (.inl hS))
  clear hB hS
  go_enter Tryz.func72, Tryz.ntmps72
  go_wp2_with fail
  refine bodyPost_ret (results_none rfl _ _ _) rfl ⟨rfl, S, Rp.out, HR.out⟩
 have SEEN := aiU seen
 clear seen
 intro f
 induction f with
 | zero =>
  intro b S wr hB tW lu
  refine SEEN.out b S wr hB (Classical.byContradiction fun hno => ?_) lu
  have := yN lu hno
  omega
 | succ f ih =>
  intro b S wr hB tW lu
  obtain ⟨t1, t2, t3, t4, t5, t6, t7, t8⟩ := hB.cells
  have hsz := hB.aD.size
  have i1 : (b : Int) < (G.length : Int) := by omega
  obtain ⟨x, hx, SE⟩ := Kh.out.at_ b lu
  have Xk := Kh.out.lt
  have x1 : wr.cell? ⟨pk, po + b, none⟩ = some (.int .i64 x) := (hB.aD.cell (p := ⟨pk, po + b, none⟩) Xk).trans hx
  have RL : pk < wr.heap.size := by omega
  have Rp := aiU hB
  have IH := aiU ih
  have zE := aiU tW
  clear ih tW hx
  by_cases hS : S b
  ·exact SEEN.out b S wr hB hS lu
  ·have hl := hB.im.iw (P := Tryz.prog) (kt := 3) (t := 99) (e := 4) Tryz.underlying3 Tryz.underlying99 (sS wr) (eX (k := (b : Int)) ahU ahU) (Cv hS) false
   simp only [kv, Bool.false_eq_true, if_false] at hl
   by_cases hx0 : x < 0
   ·have dx : decide (x < 0) = true := decide_eq_true hx0
    have HR := aiU (show Kb (mA P) R b S S from .skip (.inr fun hr => by have := SE.2 hr; omega))
    clear hB hS
    go_enter Tryz.func72, Tryz.ntmps72
    go_wp2_with fail
    refine bodyPost_ret (results_none rfl _ _ _) rfl ⟨rfl, S, Rp.out, HR.out⟩
   ·have dx : decide (x < 0) = false := decide_eq_false hx0
    have Ws := aiU (show R b from SE.1 ahU)
    obtain ⟨W2, hput, hm2, o1, o2, o3, o4, o5⟩ := hB.im.put (P := Tryz.prog) (kt := 3) (t := 99) (e := 4) Tryz.underlying3 Tryz.underlying99 (k := (b : Int)) (eX ahU ahU) (.bool true)
    simp only [kv] at hput
    have hB2 := hB.put b hm2 o1 o2 o3 o4 o5
    have FH := aiU hB2
    obtain ⟨-, -, u3, -, -, -, u7, -⟩ := hB2.cells
    obtain ⟨pl, hpl⟩ : ∃ l, P.getD b [] = l := ⟨_, rfl⟩
    have ibP : (b : Int) < (P.length : Int) := by rw [xe.out]; omega
    obtain ⟨qk, qo, Tl, sqk, lv, pc1, hlv⟩ : ∃ qk qo, PA = some ⟨qk, qo, none⟩ ∧ qk < w.heap.size ∧ ∃ lv, w.cell? ⟨qk, qo + b, none⟩ = some lv ∧ Ints w lv pl := by
     obtain ⟨_, _, e1, _, _, e4⟩ := Zr.out
     cases e1
     have Tg : b < P.length := by omega
     obtain ⟨pk, po, e5, e6, e7⟩ := e4 ahU
     obtain ⟨lv, e8, e9⟩ := e7 b _ (List.getElem?_eq_getElem Tg)
     refine ⟨pk, po, e5, e6, lv, e8, ?_⟩
     rw [← hpl, List.getD, List.getElem?_eq_getElem Tg]
     exact e9
    subst Tl
    obtain ⟨LA, lc2, rfl, hl1, hl2⟩ := hlv.slice
    have pc2 : W2.cell? ⟨qk, qo + b, none⟩ = some (.slice LA pl.length lc2) := (hB2.aD.cell (p := ⟨qk, qo + b, none⟩) sqk).trans pc1
    have sqw : qk < W2.heap.size := by have := hB2.aD.size; omega
    have UM := aiU hlv
    have Jy := aiU (fun p => BS (p := p) Jw.out lu)
    have BB := aiU hpl
    have HNS := aiU hS
    clear hB hB2 hS hlv hpl pc1 hm2 o1 o2 o3 o4 o5 SE hx0
    go_enter Tryz.func72, Tryz.ntmps72
    go_upto_region 3 with fail
    clear pc2 sqw u3 u7 t1 t2 t3 t4 t5 t6 t7 t8 hl hput x1
    go_loopw [26] (fun a26 wr => ∃ (j : Nat) (S' : Nat → Prop), j ≤ pl.length ∧ a26 = .int .i64 (j : Int) ∧ FM w wr mq pq gq fq mb (.slice (some ⟨pk, po, none⟩) G.length aX) bv (.slice (some ⟨qk, qo, none⟩) P.length yc) S' ∧ ug (mA P) R ((mA P b).take j) (fun x => S x ∨ x = b) S') (fun a26 _ => pl.length - (intOf a26).toNat)
    case atStart => exact ⟨0, _, Nat.zero_le _, rfl, FH.out, .nil⟩
    case round =>
     clear FH
     obtain ⟨j, S', hj, rfl, hB, Aw⟩ := hrel
     obtain ⟨t1, t2, t3, t4, t5, t6, t7, t8⟩ := hB.cells
     have N6 := aiU hB
     have Ze := aiU Aw
     by_cases hlt : j < pl.length
     ·have dl : decide ((j : Int) < (pl.length : Int)) = true := decide_eq_true ahU
      obtain ⟨pv0, lb, lo, hs, Pj, RN, lc⟩ := UM.out.at_ hB.aD hlt
      subst Pj
      have hpv := (Jy.out 0).2 pv0 (by rw [BB.out]; exact List.mem_of_getElem? hs)
      obtain ⟨p, rfl⟩ : ∃ p : Nat, pv0 = (p : Int) := ⟨pv0.toNat, by omega⟩
      have yu : p < G.length := by omega
      have jC := aiU (show (mA P b).take (j + 1) = (mA P b).take j ++ [p] by
       have : (mA P b)[j]? = some p := by unfold mA; rw [BB.out, List.getElem?_map, hs]; rfl
       rw [List.take_add_one, this]; rfl)
      have Vt : lb < wr.heap.size := by have := hB.aD.size; omega
      have tJ := aiU (IH.out p S' wr hB (by
       have h1 := yN lu HNS.out
       have h2 := EM (n := G.length) Aw.grow
       have h3 := zE.out
       omega) yu)
      clear hB Aw hs hpv
      go_wp2_with (go_at_call 72; refine tJ.out.mono ?_; rintro e W7 ⟨rfl, S7, Yz, Yr⟩)
      go_roundw
      case rel => exact ⟨j + 1, S7, by omega, by go_num, Yz, by rw [jC.out]; exact Ze.out.snoc Yr⟩
      case measure => simp [intOf]; omega
     ·obtain rfl : j = pl.length := by omega
      have dl : decide ((pl.length : Int) < (pl.length : Int)) = false := by simp
      have HR := aiU (show Kb (mA P) R b S S' from .of Ws.out HNS.out (by
       have e : (mA P b).take pl.length = mA P b := List.take_of_length_le (by unfold mA; rw [BB.out, List.length_map]; exact Nat.le_refl _)
       rw [e] at Aw
       exact Aw))
      clear hB Aw
      go_wp2_with fail
      refine bodyPost_end (results_none rfl _ _ _) rfl ⟨rfl, S', N6.out, HR.out⟩
end
section
open Go.RowKit
structure zf (pv : Nat → List Nat) (R : Nat → Prop) (h : Nat) (gO : List Nat) (l : List Int) : Prop where
 Fq : l.Pairwise (· < ·)
 mem : ∀ x, x ∈ l ↔ 0 ≤ x ∧ NN pv R h gO x.toNat
theorem Jg {G : List aU} {P : List (List Int)} {R : Nat → Prop} (HV : bQ G P) (hn5 : G.length ≤ 5000) (hR : ∀ x, R x → x < G.length) (w : World) (pk po aX h : Nat) (bv lv Sk : Value) (gO : List Nat) (HP : mG w lv P) (Kh : Jq w pk po G.length R) (HL : Ints w Sk (cm gO)) (hh : h < G.length) (hRh : R h) (S4 : ∀ l ∈ gO, l < G.length) :
  Calls Tryz.prog 42 #[.agg #[bv, lv], .int .i64 (h : Int), Sk, .slice (some ⟨pk, po, none⟩) G.length aX] w fun e w' => ∃ v l, e = .returned v ∧ w'.ownsRow w.heap.size 3 1 v l.length (dU l) ∧ zf (mA P) R h gO l ∧ Below w.heap.size w w' := by
 have mk := fun W : World => (show (Instr.makeMap 99 none).run Tryz.prog W = .ok (.map (some W.heap.size)) (W.alloc (.map #[] 0)) from rfl)
 have X7 : ∀ (fn : Fn) (first cap : Array Value) (w : World), (Instr.makeFunc fn first cap).run Tryz.prog w = .ok (.func fn first cap) w := fun _ _ _ _ => rfl
 have he : ∀ (args : Array Value) (w : World), (callFunc 72 args).run Tryz.prog w = .ok (.enter 72 args) w := fun _ _ => by kernel_rfl
 obtain ⟨LA, yc, rfl, hl1, hl2⟩ := HL.slice
 obtain ⟨PA, jH, rfl, -, -⟩ := HP.slice
 obtain ⟨m, hm⟩ : ∃ m, (cm gO).length = m := ⟨_, rfl⟩
 rw [hm] at hl1 ⊢
 have HM := aiU hm
 obtain ⟨pn, yu⟩ : ∃ m, P.length = m := ⟨_, rfl⟩
 have HPN := aiU yu
 rw [yu]
 have Jw := aiU HV
 have Zr := aiU (show mG w (.slice PA pn jH) P by rw [← yu]; exact HP)
 have Zs := aiU Kh
 have Ki := aiU HL
 have ZL := aiU S4
 obtain ⟨gq, J1⟩ : ∃ q, w.heap.size = q := ⟨_, rfl⟩
 obtain ⟨pq, hpq⟩ : ∃ q, gq + 1 = q := ⟨_, rfl⟩
 obtain ⟨mb, hmb⟩ : ∃ q, pq + 1 = q := ⟨_, rfl⟩
 obtain ⟨W1, hW1⟩ : ∃ V, w.alloc (.cells #[bv, .slice PA pn jH] 31) = V := ⟨_, rfl⟩
 obtain ⟨W2, hW2⟩ : ∃ V, W1.alloc (.cells #[.slice (some ⟨pk, po, none⟩) G.length aX] 38) = V := ⟨_, rfl⟩
 have s1 : W1.heap.size = w.heap.size + 1 := by rw [← hW1]; simp
 have s2 : W2.heap.size = w.heap.size + 1 + 1 := by rw [← hW2, World.size_alloc, s1]
 obtain ⟨W3, hput, hm3, o1, o2, o3, o4, o5⟩ := (Im.made W2).put (P := Tryz.prog) (kt := 3) (t := 99) (e := 4) Tryz.underlying3 Tryz.underlying99 (k := (h : Int)) (eX ahU ahU) (.bool true)
 have hb2 : Below w.heap.size w W2 := hW2 ▸ (hW1 ▸ (Below.refl _ _).alloc (Nat.le_refl _) _ : Below w.heap.size w W1).alloc ahU _
 have hb3 : Below w.heap.size w W3 := (hb2.alloc ahU (.map #[] 0)).trans ⟨o1, o2, o3, by rw [o4]; exact Nat.le_refl _, fun k hk => o5 k ahU⟩
 have es2 : W2.heap.size = mb := by rw [s2, J1, hpq, hmb]
 have e3 : W3.heap.size = mb + 1 := by rw [o4, World.size_alloc, es2]
 have k1 : W3.heap[gq]? = some (.cells #[bv, .slice PA pn jH] 31 (0, 0)) := by
  rw [o5 gq ahU, heap_alloc_old _ _ ahU, ← hW2, heap_alloc_old _ _ ahU, ← hW1, ← J1]; exact heap_alloc_new _ _
 have k2 : W3.heap[pq]? = some (.cells #[.slice (some ⟨pk, po, none⟩) G.length aX] 38 (0, 0)) := by
  rw [o5 pq ahU, heap_alloc_old _ _ ahU, ← hW2, ← hpq, ← J1, ← s1]; exact heap_alloc_new _ _
 have SX : Im W3 mb (jc (fun x => x = h)) := by
  rw [← es2]
  have e : fZ (fun _ => none) (h : Int) (.bool true) = jc (fun x => x = h) := by
   have := sP (fun _ => False) h
   rw [show jc (fun _ => False) = fun _ => none by funext k; simp [jc]] at this
   rw [this]; congr 1; funext x; simp
  rw [← e]; exact hm3
 simp only [kv, es2] at hput
 have K1 := aiU k1
 have K2 := aiU k2
 have M3 := aiU SX
 have B3 := aiU hb3
 clear es2 HV HP Kh HL S4 hm yu hm3 SX o1 o2 o3 o4 o5 k1 k2 hb2 hb3
 go_enter Tryz.func42, Tryz.ntmps42
 go_upto_region 2 with fail
 obtain ⟨mq, M8⟩ : ∃ q, mb + 1 = q := ⟨_, rfl⟩
 obtain ⟨V4, qQ⟩ : ∃ V, W3.alloc (.cells #[.map (some mb)] 99) = V := ⟨_, rfl⟩
 rw [qQ, M8]
 obtain ⟨fq, QN⟩ : ∃ q, V4.heap.size = q := ⟨_, rfl⟩
 obtain ⟨V5, uR⟩ : ∃ V, V4.alloc (.cells #[.func (.func 72) #[] #[.pointer (some ⟨mq, 0, none⟩), .pointer (some ⟨pq, 0, none⟩), .pointer (some ⟨gq, 0, none⟩), .pointer (some ⟨fq, 0, none⟩)]] 152) = V := ⟨_, rfl⟩
 have HMQ := aiU M8
 clear hput M8
 go_upto_region 4 with fail
 have M8 := HMQ.out
 have s4 : V4.heap.size = W3.heap.size + 1 := by rw [← qQ]; simp
 have keep : ∀ (q : Nat) (x : Option Obj), q < W3.heap.size → W3.heap[q]? = x → V5.heap[q]? = x := fun q x hq hx => by
  rw [← uR, heap_alloc_old _ _ ahU, ← qQ, heap_alloc_old _ _ hq]; exact hx
 have hB0 : FM w V5 mq pq gq fq mb (.slice (some ⟨pk, po, none⟩) G.length aX) bv (.slice PA pn jH) (fun x => x = h) := by
  refine ⟨?_, ?_, keep _ _ ahU K2.out, keep _ _ ahU K1.out, ?_, ?_, by omega⟩
  ·rw [← uR, ← qQ]
   exact ((B3.out.alloc B3.out.size _).alloc (by have := B3.out.size; simp; omega) _)
  ·rw [← uR, heap_alloc_old _ _ ahU, ← qQ, show mq = W3.heap.size by omega]; exact heap_alloc_new _ _
  ·rw [← uR, ← QN]; exact heap_alloc_new _ _
  ·exact M3.out.keep (keep _ _ ahU rfl)
 have HB0 := aiU hB0
 clear keep s4 uR QN qQ hB0 K1 K2 M3 B3 e3 s1 s2 hW1 hW2 J1 hpq hmb mk M8 HMQ
 go_upto_region 5 with fail
 go_loopw [19] (fun a19 wr => ∃ (j : Nat) (S : Nat → Prop), j ≤ m ∧ a19 = .int .i64 (j : Int) ∧ FM w wr mq pq gq fq mb (.slice (some ⟨pk, po, none⟩) G.length aX) bv (.slice PA pn jH) S ∧ ug (mA P) R (gO.take j) (fun x => x = h) S) (fun a19 _ => m - (intOf a19).toNat)
 case atStart => exact ⟨0, _, Nat.zero_le _, rfl, HB0.out, .nil⟩
 case round =>
  clear HB0
  obtain ⟨j, S, hj, rfl, hB, Aw⟩ := hrel
  obtain ⟨t1, t2, t3, t4, t5, t6, t7, t8⟩ := hB.cells
  have N6 := aiU hB
  have Ze := aiU Aw
  by_cases hlt : j < m
  ·have dl : decide ((j : Int) < (m : Int)) = true := decide_eq_true ahU
   have tV : gO.length = m := by have := HM.out; simpa [cm] using this
   obtain ⟨l, hl⟩ : ∃ l, gO[j]? = some l := ⟨_, List.getElem?_eq_getElem ahU⟩
   obtain ⟨pv0, lb, lo, hs, Pj, RN, lc⟩ := (HM.out ▸ Ki.out : Ints w (.slice LA (cm gO).length yc) (cm gO)).at_ hB.aD (j := j) ait
   subst Pj
   obtain rfl : pv0 = (l : Int) := by simp [cm, hl] at hs; exact hs.symm
   have Vt : lb < wr.heap.size := by have := hB.aD.size; omega
   have tJ := aiU (Bd Jw.out hn5 w mq pq gq fq mb pk po aX bv (.slice PA pn jH) Zr.out Zs.out _ l S wr hB (Nat.le_refl _) (ZL.out l (List.mem_of_getElem? hl)))
   have jC := aiU (show gO.take (j + 1) = gO.take j ++ [l] by rw [List.take_add_one, hl]; rfl)
   clear hB Aw hs hl tV
   go_wp2_with (go_at_call 72; refine tJ.out.mono ?_; rintro e W7 ⟨rfl, S7, Yz, Yr⟩)
   go_roundw
   case rel => exact ⟨j + 1, S7, by omega, by go_num, Yz, by rw [jC.out]; exact Ze.out.snoc Yr⟩
   case measure => simp [intOf]; omega
  ·obtain rfl : m = j := by omega
   have dl : decide ((m : Int) < (m : Int)) = false := by simp
   have hall : gO.take m = gO := List.take_of_length_le (by have := HM.out; simp [cm] at this; omega)
   rw [hall] at Aw
   have Km := aiU (Aw.body hRh)
   have uj := aiU (show ∀ x, S x → x < G.length from fun x hx => by
    rcases Aw.BP x hx with rfl | h1
    ·exact hh
    ·exact hR x h1)
   have ssz := hB.aD.size
   obtain ⟨X, hX⟩ : ∃ X, wr.alloc (.cells #[.map (some mb)] 99) = X := ⟨_, rfl⟩
   have bX : Below wr.heap.size wr X := hX ▸ (Below.refl _ _).alloc (Nat.le_refl _) _
   have HK := aiU (show Calls Tryz.prog 73 #[.map (some mb)] wr fun e w' => e = .returned (.func (.func 99) #[] #[.pointer (some ⟨wr.heap.size, 0, none⟩)]) ∧ X = w' from (Ef (some mb) wr).mono fun e w' ⟨h1, h2⟩ => ⟨h1, by rw [h2, hX]⟩)
   have Wp := aiU (xD mb wr.heap.size G.length (jc S) X (hB.im.below bX hB.im.lt) (Mb uj.out) ahU (by rw [← hX]; simp) (by
    have k : X.heap[wr.heap.size]? = some (.cells #[.map (some mb)] 99 (0, 0)) := hX ▸ heap_alloc_new _ _
    simp [World.cell?, k]))
   have lH := aiU (hB.aD.trans (bX.mono ssz))
   have ZI := aiU (show ∀ l, kD (jc S) l → zf (mA P) R h gO l from fun l hl => ⟨hl.Fq, fun x => by rw [hl.mem, Ma, Km.out]⟩)
   clear hB Aw hall hX bX
   go_wp2_with (first | (go_at_call 73; refine HK.out.mono ?_; rintro e w' ⟨rfl, rfl⟩) | (go_at_call 40; refine Wp.out.mono ?_; rintro e W9 ⟨v, l, rfl, hi, hsk, hb9⟩))
   go_ret
   exact ⟨v, l, rfl, rD hi (by have := lH.out.size; omega), ZI.out l hsk, lH.out.trans (hb9.mono lH.out.size)⟩
end
section
open Go.RowKit
def gh (ord : List Nat) (pos : Nat → Nat) (es : List (Int × Int)) (h : Nat) : List Nat := (es.filter fun e => decide (e.1.toNat ∈ ord ∧ pos e.2.toNat ≤ pos e.1.toNat ∧ e.2.toNat = h)).map fun e => e.1.toNat
theorem uJ {ord : List Nat} {pos : Nat → Nat} {es : List (Int × Int)} {a b : Nat} (h : ¬ (a ∈ ord ∧ pos b ≤ pos a)) : gh ord pos (es ++ [((a : Int), (b : Int))]) = gh ord pos es := by
 funext k
 unfold gh
 rw [List.filter_append, List.map_append]
 simp only [List.filter_cons, List.filter_nil, Int.toNat_natCast]
 rw [if_neg (by simp only [decide_eq_true_eq]; exact fun hc => h ⟨hc.1, hc.2.1⟩)]
 simp
theorem G0 {ord : List Nat} {pos : Nat → Nat} {es : List (Int × Int)} {a b : Nat} (h1 : a ∈ ord) (h2 : pos b ≤ pos a) : gh ord pos (es ++ [((a : Int), (b : Int))]) = upd (gh ord pos es) b (gh ord pos es b ++ [a]) := by
 funext k
 unfold upd gh
 rw [List.filter_append, List.map_append]
 simp only [List.filter_cons, List.filter_nil, Int.toNat_natCast]
 by_cases hk : k = b
 ·subst hk
  rw [if_pos rfl, if_pos (by simp [h1, h2])]
  rfl
 ·rw [if_neg hk, if_neg (by simp only [decide_eq_true_eq]; exact fun hc => hk hc.2.2.symm)]
  simp
theorem GZ (ord : List Nat) (pos : Nat → Nat) : gh ord pos [] = fun _ => [] := rfl
theorem yf (ord : List Nat) (pos : Nat → Nat) (es : List (Int × Int)) (h : Nat) : (gh ord pos es h).length ≤ es.length := by
 unfold gh; rw [List.length_map]; exact List.length_filter_le _ _
open Classical in
noncomputable def ny (F : Nat → List Nat) (val : Nat → Value) : Int → Option Value := fun k => if 0 ≤ k ∧ F k.toNat ≠ [] then some (val k.toNat) else none
theorem D8 {F : Nat → List Nat} {val : Nat → Value} {h : Nat} (hf : F h ≠ []) : ny F val (h : Int) = some (val h) := by unfold ny; rw [if_pos ⟨by omega, by rw [Int.toNat_natCast]; exact hf⟩, Int.toNat_natCast]
theorem D9 {F : Nat → List Nat} {val : Nat → Value} {h : Nat} (hf : F h = []) : ny F val (h : Int) = none := by unfold ny; rw [if_neg]; rintro ⟨_, h2⟩; rw [Int.toNat_natCast] at h2; exact h2 hf
theorem GK (F : Nat → List Nat) (val : Nat → Value) (h a : Nat) (v : Value) : fZ (ny F val) (h : Int) v = ny (upd F h (F h ++ [a])) (upd val h v) := by
 funext k
 unfold fZ ny upd
 by_cases hk : k = (h : Int)
 ·subst hk
  rw [if_pos rfl, if_pos ⟨by omega, by rw [Int.toNat_natCast, if_pos rfl]; simp⟩, Int.toNat_natCast, if_pos rfl]
 ·rw [if_neg hk]
  by_cases h0 : 0 ≤ k
  ·have : k.toNat ≠ h := by omega
   rw [if_neg this, if_neg this]
  ·rw [if_neg (fun hc => h0 hc.1), if_neg (fun hc => h0 hc.1)]
theorem qN {F : Nat → List Nat} {val : Nat → Value} {x : Int} : ny F val x ≠ none ↔ 0 ≤ x ∧ F x.toNat ≠ [] := by
 unfold ny
 split
 ·rename_i h; simp [h]
 ·rename_i h; simp only [ne_eq, not_true_eq_false, false_iff]; exact h
structure GM (B : Nat) (wr : World) (mb : Nat) (F : Nat → List Nat) (val : Nat → Value) : Prop where
 im : Im wr mb (ny F val)
 own : ∀ k, wr.ownsRow B 3 1 (val k) (F k).length (dU (cm (F k)))
 qi : ∀ i j, i ≠ j → ∀ q, (val i).ownBlock = some q → (val j).ownBlock ≠ some q
 nl : ∀ k, F k = [] → val k = .slice none 0 0
section
variable {B mb : Nat} {wr w2 W' : World} {F : Nat → List Nat} {val : Nat → Value}
theorem GM.ne (h : GM B wr mb F val) (k : Nat) : some mb ≠ (val k).ownBlock := fun e => by
 obtain ⟨es, cl, h1, _⟩ := h.im
 rcases (h.own k).2 with ⟨h2, _⟩ | ⟨g, cap, cur, h2, _, hg, _⟩
 ·rw [h2] at e; cases e
 ·rw [h2] at e
  simp [Value.ownBlock] at e
  rw [← e, h1] at hg
  cases hg
theorem GM.below (h : GM B wr mb F val) (hb : Below wr.heap.size wr w2) : GM B w2 mb F val :=
 ⟨h.im.below hb h.im.lt, fun k => ak (h.own k) hb, h.qi, h.nl⟩
theorem GM.made (w : World) : GM B (w.alloc (.map #[] 0)) w.heap.size (fun _ => []) (fun _ => .slice none 0 0) := by
 refine ⟨?_, fun k => World.ownsRow_nil _ _ _ _, fun i j _ q hq => (by cases hq), fun _ _ => rfl⟩
 have := Im.made w
 rwa [show ny (fun _ => []) (fun _ => Value.slice none 0 0) = fun _ => none by funext k; unfold ny; rw [if_neg]; simp]
theorem GM.app (h : GM B wr mb F val) {i a : Nat} {v' : Value} {W2 : World} (hb : Below wr.heap.size wr w2) (hg : w2.grownBy W' (val i).ownBlock)
  (hown : W'.ownsRow B 3 1 v' ((F i).length + 1) (dU (cm (F i)) ++ [.int .i64 (a : Int)])) (j6 : v'.ownBlock = (val i).ownBlock ∨ v'.ownBlock = some w2.heap.size)
  (hm : Im W2 mb (fZ (ny F val) (i : Int) v')) (hs : W2.heap.size = W'.heap.size) (hk : ∀ q, q ≠ mb → W2.heap[q]? = W'.heap[q]?) (ho : W2.os = W'.os) (ht : W2.tape = W'.tape) (hp : W2.output = W'.output) :
  GM B W2 mb (upd F i (F i ++ [a])) (upd val i v') := by
 have G := grown_of hb hg
 have S : W'.grownBy W2 (some mb) := ⟨ho, ht, hp, by omega, fun k _ hne => hk k fun e => hne (by rw [e])⟩
 have nem : ∀ {v : Value} {n : Nat} {xs : List Value}, W'.ownsRow B 3 1 v n xs → v.ownBlock = none ∨ v.ownBlock ≠ some mb := fun {v n xs} hv => .inr fun e => by
  rcases hv.2 with ⟨h2, _⟩ | ⟨g, cap, cur, h2, _, hg2, _⟩
  ·rw [h2] at e; cases e
  ·rw [h2] at e
   simp [Value.ownBlock] at e
   obtain ⟨es, cl, h1, _⟩ := h.im
   have hlt := h.im.lt
   have h3 : W'.heap[mb]? = some (.map es cl) := (G.block mb hlt (h.ne i)).trans h1
   rw [← e, hg2] at h3
   cases h3
 have e : dU (cm (F i ++ [a])) = dU (cm (F i)) ++ [.int .i64 (a : Int)] := by simp [dU, cm]
 refine ⟨by rw [← GK]; exact hm, fun k => ?_, fun j c Fo q hq => ?_, fun k hk => ?_⟩
 ·unfold upd
  by_cases hki : k = i
  ·subst hki
   rw [if_pos rfl, if_pos rfl, show (F k ++ [a]).length = (F k).length + 1 by simp, e]
   exact hown.kept S (nem hown)
  ·rw [if_neg hki, if_neg hki]
   have h1 : W'.ownsRow B 3 1 (val k) (F k).length (dU (cm (F k))) := (h.own k).kept G (by
    cases hv : (val k).ownBlock with
    | none => exact .inl rfl
    | some q => exact .inr fun e' => h.qi i k (Ne.symm hki) q e'.symm hv)
   exact h1.kept S (nem h1)
 ·have new : ∀ j, j ≠ i → ∀ q, v'.ownBlock = some q → (val j).ownBlock ≠ some q := fun j hji q hq hq2 => by
   rcases j6 with h1 | h1
   ·rw [h1] at hq
    exact h.qi i j (Ne.symm hji) q hq hq2
   ·rw [h1] at hq
    cases hq
    have := ((h.own j).lt _ hq2).2
    have := hb.size
    omega
  unfold upd at hq ⊢
  by_cases e1 : j = i
  ·rw [if_pos e1] at hq
   rw [if_neg (fun e => Fo (e1.trans e.symm))]
   exact new c (fun e => Fo (e1.trans e.symm)) q hq
  ·rw [if_neg e1] at hq
   by_cases e2 : c = i
   ·rw [if_pos e2]
    exact fun hq2 => new j e1 q hq2 hq
   ·rw [if_neg e2]
    exact h.qi j c Fo q hq
 ·unfold upd at hk ⊢
  by_cases e1 : k = i
  ·rw [if_pos e1] at hk; simp at hk
  ·rw [if_neg e1] at hk; rw [if_neg e1]; exact h.nl k hk
end
theorem xE (w : World) : (zeroValue 38).run Tryz.prog w = .ok (.slice none 0 0) w := by kernel_rfl
theorem GM.look {B mb : Nat} {wr : World} {F : Nat → List Nat} {val : Nat → Value} (h : GM B wr mb F val) {i : Nat} (hi : i ≤ 1000000) : (Instr.lookup 107 (.map (some mb)) (.int .i64 (i : Int)) false).run Tryz.prog wr = .ok (val i) wr := by
 by_cases hf : F i = []
 ·have h1 := h.im.iw (P := Tryz.prog) (kt := 3) (t := 107) (e := 38) Tryz.underlying3 Tryz.underlying107 (xE wr) (eX (k := (i : Int)) ahU ahU) (D9 hf) false
  have h3 := h.nl i hf
  rw [h3]
  simpa using h1
 ·have h1 := h.im.gB (P := Tryz.prog) (kt := 3) (t := 107) (e := 38) Tryz.underlying3 Tryz.underlying107 (D8 hf) false
  simpa using h1
section
variable {V wr w2 : World} {mb : Nat} {r : Option Nat}
theorem fH (h : V.grownBy wr r) (hb : Below wr.heap.size wr w2) : V.grownBy w2 r :=
 ⟨hb.os.trans h.os, hb.tape.trans h.tape, hb.output.trans h.output, Nat.le_trans h.size hb.size, fun k hk hne => (hb.block k (by have := h.size; omega)).trans (h.block k hk hne)⟩
theorem sk {row : Option Nat} (h : V.grownBy wr r) (hg : wr.grownBy w2 row) (hr : ∀ k, row = some k → V.heap.size ≤ k) : V.grownBy w2 r :=
 ⟨hg.os.trans h.os, hg.tape.trans h.tape, hg.output.trans h.output, Nat.le_trans h.size hg.size, fun k hk hne => (hg.block k (by have := h.size; omega) (fun e => by have := hr k e.symm; omega)).trans (h.block k hk hne)⟩
theorem Pn (h : V.grownBy wr (some mb)) (ho : w2.os = wr.os) (ht : w2.tape = wr.tape) (hp : w2.output = wr.output) (hs : w2.heap.size = wr.heap.size) (hk : ∀ i, i ≠ mb → w2.heap[i]? = wr.heap[i]?) : V.grownBy w2 (some mb) :=
 ⟨ho.trans h.os, ht.trans h.tape, hp.trans h.output, by rw [hs]; exact h.size, fun k hk' hne => (hk k (fun e => hne (by rw [e]))).trans (h.block k hk' hne)⟩
def mX (w : World) (mb : Nat) : Prop := ∃ es cl, w.heap[mb]? = some (.map es cl)
theorem Im.Sg {f : Int → Option Value} (h : Im V mb f) : mX V mb := by obtain ⟨es, cl, h1, _⟩ := h; exact ⟨es, cl, h1⟩
theorem mX.cell (h : mX V mb) (hg : V.grownBy wr (some mb)) {b o : Nat} {v : Value} (hc : V.cell? ⟨b, o, none⟩ = some v) : wr.cell? ⟨b, o, none⟩ = some v := hg.cell hc fun e => by
 obtain ⟨es, cl, h1⟩ := h
 simp only [Option.some.injEq] at e
 subst e
 simp [World.cell?, h1] at hc
theorem mX.box (h : mX V mb) (hg : V.grownBy wr (some mb)) {q : Nat} {cs : Array Value} {t : TypeId} {fr : Nat × Nat} (hc : V.heap[q]? = some (.cells cs t fr)) : wr.heap[q]? = some (.cells cs t fr) := (hg.block q (Array.getElem?_eq_some_iff.1 hc).1 fun e => by
 obtain ⟨es, cl, h1⟩ := h
 simp only [Option.some.injEq] at e
 subst e
 rw [hc] at h1; cases h1).trans hc
theorem mX.ints (h : mX V mb) (hg : V.grownBy wr (some mb)) {v : Value} {l : List Int} (hi : Ints V v l) : Ints wr v l := by
 obtain ⟨A, cap, h1, h2, h3, h4⟩ := hi
 refine ⟨A, cap, h1, h2, h3, fun h0 => ?_⟩
 obtain ⟨b, off, e, hl, hc⟩ := h4 h0
 exact ⟨b, off, e, by have := hg.size; omega, fun k hk => h.cell hg (hc k hk)⟩
theorem mX.lls (h : mX V mb) (hg : V.grownBy wr (some mb)) {v : Value} {P : List (List Int)} (hi : mG V v P) : mG wr v P := by
 obtain ⟨A, cap, h1, h2, h3, h4⟩ := hi
 refine ⟨A, cap, h1, h2, h3, fun h0 => ?_⟩
 obtain ⟨b, off, e, hl, hc⟩ := h4 h0
 exact ⟨b, off, e, by have := hg.size; omega, fun k x hx => by
  obtain ⟨u, h5, h6⟩ := hc k x hx
  exact ⟨u, h.cell hg h5, h.ints hg h6⟩⟩
end
structure Qp where
 h : Int
 bv : Value
 lv : Value
 p : Int
def oO (q : Qp) : List Value := [.int .i64 q.h, q.bv, q.lv, .int .i64 q.p]
def kJ (Q : List Qp) : List Value := Q.flatMap oO
theorem rJ : ∀ (Q : List Qp) (k j : Nat) (q : Qp), Q[k]? = some q → j < 4 → (kJ Q)[k * 4 + j]? = (oO q)[j]?
 | y :: Q, 0, j, q, h, hj => by
  simp at h; subst h
  have e : kJ (y :: Q) = oO y ++ kJ Q := by simp [kJ]
  rw [e, Nat.zero_mul, Nat.zero_add, List.getElem?_append_left (by simpa [oO] using hj)]
 | y :: Q, k + 1, j, q, h, hj => by
  have h' : Q[k]? = some q := by simpa using h
  have e : kJ (y :: Q) = oO y ++ kJ Q := by simp [kJ]
  rw [e, List.getElem?_append_right (by simp [oO]; omega), show (k + 1) * 4 + j - (oO y).length = k * 4 + j by simp [oO]; omega]
  exact rJ Q k j q h' hj
theorem BR : ∀ (Q : List Qp) (k : Nat) (q : Qp) (x : Int), Q[k]? = some q → (kJ Q).set (k * 4 + 3) (.int .i64 x) = kJ (Q.set k { q with p := x })
 | y :: Q, 0, q, x, h => by simp at h; subst h; simp [kJ, oO]
 | y :: Q, k + 1, q, x, h => by
  have h' : Q[k]? = some q := by simpa using h
  have e : kJ (y :: Q) = oO y ++ kJ Q := by simp [kJ]
  have e2 : kJ ((y :: Q).set (k + 1) { q with p := x }) = oO y ++ kJ (Q.set k { q with p := x }) := by simp [kJ]
  rw [e, e2, List.set_append_right _ _ (by simp [oO]; omega), show (k + 1) * 4 + 3 - (oO y).length = k * 4 + 3 by simp [oO]; omega, BR Q k q x h']
structure LL (B : Nat) (wr : World) (v : Value) (Q : List Qp) (L : List Lp) : Prop where
 row : wr.ownsRow B 46 4 v Q.length (kJ Q)
 len : Q.length = L.length
 each : ∀ (k : Nat) (q : Qp) (x : Lp), Q[k]? = some q → L[k]? = some x → q.h = x.h ∧ wr.ownsRow B 3 1 q.bv x.bl.length (dU x.bl) ∧ wr.ownsRow B 3 1 q.lv x.la.length (dU x.la)
theorem LL.below {B : Nat} {wr w2 : World} {v : Value} {Q : List Qp} {L : List Lp} (h : LL B wr v Q L) (hb : Below wr.heap.size wr w2) : LL B w2 v Q L :=
 ⟨ak h.row hb, h.len, fun k q x hq hx => by
  obtain ⟨h1, h2, h3⟩ := h.each k q x hq hx
  exact ⟨h1, ak h2 hb, ak h3 hb⟩⟩
theorem LL.nil (B : Nat) (wr : World) : LL B wr (.slice none 0 0) [] [] := ⟨World.ownsRow_nil _ _ _ _, rfl, fun k q x hq => by simp at hq⟩
theorem LL.MN {B : Nat} {wr : World} {v : Value} {Q : List Qp} {L : List Lp} (h : LL B wr v Q L) : tv wr v L := by
 rcases h.row.2 with ⟨rfl, h0⟩ | ⟨g, cap, cur, rfl, h1, h2, h3, h4, _, _⟩
 ·exact ⟨none, 0, by rw [← h.len, h0], by have := h.len; omega, by unfold maxLen; omega, fun h9 => by have := h.len; omega⟩
 ·refine ⟨_, cap, by rw [← h.len], by have := h.len; omega, h4, fun _ => ⟨g, 0, rfl, (Array.getElem?_eq_some_iff.1 h2).1, fun k x hx => ?_⟩⟩
  have hk : k < Q.length := by rw [h.len]; exact (List.getElem?_eq_some_iff.1 hx).1
  have hq : Q[k]? = some Q[k] := List.getElem?_eq_getElem hk
  obtain ⟨e1, e2, e3⟩ := h.each k _ x hq hx
  have c : ∀ j, j < 4 → wr.cell? ⟨g, 0 + k * 4 + j, none⟩ = (oO Q[k])[j]? := fun j hj => by
   rw [Nat.zero_add, h.row.cellAt _ ahU, rJ Q k j _ hq hj]
  have c0 := c 0 ahU
  rw [Nat.add_zero] at c0
  exact ⟨by rw [c0, ← e1]; rfl, ⟨_, c 1 ahU, eL e2⟩, ⟨_, c 2 ahU, eL e3⟩, _, c 3 ahU⟩
end
section
open Go.RowKit
section
variable {B B' m n : Nat} {wr w2 W' : World} {mb : Nat} {F : Nat → List Nat} {val : Nat → Value} {v v' u : Value} {xs ys : List Value} {Q : List Qp} {L : List Lp}
theorem eH (hi : wr.ownsRow B 3 1 u m ys) (hr : wr.ownsRow B' 46 4 v n xs) (hg : wr.grownBy W' v.ownBlock) : W'.ownsRow B 3 1 u m ys := hi.kept hg (by
 cases hu : u.ownBlock with
 | none => exact .inl rfl
 | some q => exact .inr fun e => cV hi hr ahW q hu e.symm)
theorem GM.Sq (h : GM B wr mb F val) (hr : wr.ownsRow B' 46 4 v n xs) (hg : wr.grownBy W' v.ownBlock) : GM B W' mb F val :=
 ⟨h.im.keep (hg.block mb h.im.lt fun e => by
  obtain ⟨es, cl, h1, _⟩ := h.im
  rcases hr.2 with ⟨h2, _⟩ | ⟨g, cap, cur, h2, _, h3, _⟩
  ·rw [h2] at e; cases e
  ·rw [h2] at e
   simp [Value.ownBlock] at e
   rw [← e, h1] at h3
   cases h3), fun k => eH (h.own k) hr hg, h.qi, h.nl⟩
theorem LL.app {q : Qp} {x : Lp} (h : LL B wr v Q L) (hb : Below wr.heap.size wr w2) (hg : w2.grownBy W' v.ownBlock) (hown : W'.ownsRow B 46 4 v' (Q.length + 1) (kJ Q ++ oO q)) (hq : q.h = x.h ∧ wr.ownsRow B 3 1 q.bv x.bl.length (dU x.bl) ∧ wr.ownsRow B 3 1 q.lv x.la.length (dU x.la)) : LL B W' v' (Q ++ [q]) (L ++ [x]) := by
 have h2 := h.below hb
 refine ⟨?_, by simp [h.len], fun k q' x' hk hx => ?_⟩
 ·rw [show (Q ++ [q]).length = Q.length + 1 by simp, show kJ (Q ++ [q]) = kJ Q ++ oO q by simp [kJ]]
  exact hown
 ·by_cases hlt : k < Q.length
  ·rw [List.getElem?_append_left hlt] at hk
   rw [List.getElem?_append_left (by rw [← h.len]; exact hlt)] at hx
   obtain ⟨e1, e2, e3⟩ := h2.each k q' x' hk hx
   exact ⟨e1, eH e2 h2.row hg, eH e3 h2.row hg⟩
  ·have hkl := (List.getElem?_eq_some_iff.1 hk).1
   obtain rfl : k = Q.length := by simp at hkl; omega
   rw [List.getElem?_append_right (Nat.le_refl _)] at hk
   rw [List.getElem?_append_right (by rw [h.len]; exact Nat.le_refl _)] at hx
   simp [h.len] at hk hx
   subst hk hx
   exact ⟨hq.1, eH (ak hq.2.1 hb) h2.row hg, eH (ak hq.2.2 hb) h2.row hg⟩
theorem LL.Xn {g cap k : Nat} {q : Qp} (h : LL B wr (.slice (some ⟨g, 0, none⟩) m cap) Q L) (hk : Q[k]? = some q) (x : Int) : LL B (wr.setCell ⟨g, k * 4 + 3, none⟩ (.int .i64 x)) (.slice (some ⟨g, 0, none⟩) m cap) (Q.set k { q with p := x }) L := by
 have hm : m = Q.length := by
  rcases h.row.2 with ⟨e, _⟩ | ⟨_, _, _, e, _⟩
  ·cases e
  ·cases e; rfl
 subst hm
 have r := (h.row.stored (k * 4 + 3) (.int .i64 x)).1
 rw [BR Q k q x hk] at r
 have hg : wr.grownBy (wr.setCell ⟨g, k * 4 + 3, none⟩ (.int .i64 x)) (Value.slice (some ⟨g, 0, none⟩) Q.length cap).ownBlock := aQ wr g _ _
 refine ⟨by rw [List.length_set]; exact r, by rw [List.length_set]; exact h.len, fun j q' x' hj hx => ?_⟩
 by_cases e : k = j
 ·subst e
  have hkl := (List.getElem?_eq_some_iff.1 hk).1
  rw [List.getElem?_set, if_pos rfl, if_pos hkl] at hj
  cases hj
  obtain ⟨e1, e2, e3⟩ := h.each k q x' hk hx
  exact ⟨e1, eH e2 h.row hg, eH e3 h.row hg⟩
 ·rw [List.getElem?_set, if_neg e] at hj
  obtain ⟨e1, e2, e3⟩ := h.each j q' x' hj hx
  exact ⟨e1, eH e2 h.row hg, eH e3 h.row hg⟩
end
theorem iu {w : World} {B : Nat} {e : TypeId} {size n : Nat} {v : Value} {xs : List Value} (h : w.ownsRow B e size v n xs) : ∃ A cap, v = .slice A n cap := by
 rcases h.2 with ⟨h1, h2⟩ | ⟨g, cap, cur, h1, _⟩
 ·exact ⟨_, _, by rw [h1, h2]⟩
 ·exact ⟨_, _, h1⟩
theorem Bg {w : World} {b : Nat} {cs : Array Value} {t : TypeId} (h : w.heap[b]? = some (.cells cs t (0, 0))) (o : Nat) : w.frozen? ⟨b, o, none⟩ = false := by simp [World.frozen?, h]
theorem sL (w : World) (a b c d : Value) (t : TypeId) : ∀ j u, [a, b, c, d][j]? = some u → (w.alloc (.cells #[a, b, c, d] t)).cell? ((⟨w.heap.size, 0, none⟩ : Addr).add j) = some u := by
 intro j u h
 have e : (⟨w.heap.size, 0, none⟩ : Addr).add j = ⟨w.heap.size, j, none⟩ := by cases j <;> simp [Addr.add]
 rw [e]
 unfold World.cell?
 rw [heap_alloc_new]
 simpa using h
theorem KT {ord : List Nat} {pos : Nat → Nat} {es : List (Int × Int)} {h : Nat} : ∀ l ∈ gh ord pos es h, ∃ e ∈ es, e.1.toNat = l ∧ e.2.toNat = h ∧ l ∈ ord := fun l hl => by
 unfold gh at hl
 obtain ⟨e, he, rfl⟩ := List.mem_map.1 hl
 obtain ⟨h1, h2⟩ := List.mem_filter.1 he
 have h3 := of_decide_eq_true h2
 exact ⟨e, h1, rfl, h3.2.2, h3.1⟩
end
section
open Go.RowKit
def gu (ord : List Nat) (pos : Nat → Nat) (D : List Int) (es : List (Int × Int)) : Prop := ∀ e ∈ es, e.1.toNat ∈ ord → pos e.2.toNat ≤ pos e.1.toNat → bR D e.1.toNat e.2.toNat
theorem gu.snoc {ord : List Nat} {pos : Nat → Nat} {D : List Int} {es : List (Int × Int)} (h : gu ord pos D es) {a b : Nat} (k : a ∈ ord → pos b ≤ pos a → bR D a b) : gu ord pos D (es ++ [((a : Int), (b : Int))]) := fun e he => by
 rcases List.mem_append.1 he with he | he
 ·exact h e he
 ·obtain rfl : e = ((a : Int), (b : Int)) := by simpa using he
  simpa using k
structure fl (P : List (List Int)) (ord : List Nat) (pos : Nat → Nat) (es : List (Int × Int)) (D : List Int) (L : List Lp) : Prop where
 ok : gu ord pos D es
 Fq : (L.map (·.h)).Pairwise (· < ·)
 mem : ∀ x, x ∈ L.map (·.h) ↔ 0 ≤ x ∧ gh ord pos es x.toNat ≠ []
 each : ∀ x ∈ L, x.la = cm (gh ord pos es x.h.toNat) ∧ zf (mA P) (· ∈ ord) x.h.toNat (gh ord pos es x.h.toNat) x.bl
theorem wu {G : List aU} {P : List (List Int)} (HV : bQ G P) {e : Int × Int} (h : e ∈ jb G G.length []) : ∃ a b : Nat, e = ((a : Int), (b : Int)) ∧ a < G.length ∧ b < G.length ∧ b ∈ cM G a := by
 unfold jb at h
 simp only [List.map_nil, List.append_nil, List.mem_flatMap, List.mem_range, List.mem_map] at h
 obtain ⟨a, ha, t, ht, rfl⟩ := h
 obtain ⟨z, hz⟩ := HV.ok
 have hx : G[a]? = some G[a] := List.getElem?_eq_getElem ha
 obtain ⟨e, he⟩ := hz.each _ (List.mem_of_getElem? hx)
 rw [List.getD, hx] at ht
 have := he.nx t ht
 refine ⟨a, t.toNat, by rw [Int.toNat_of_nonneg this.1], ha, by omega, ?_⟩
 rw [vL hx]
 exact List.mem_map.2 ⟨t, ht, rfl⟩
theorem He : (Tryz.prog.info? 46).map (fun i => (i.zero, i.size, i.bytes)) = some (some (.agg #[.int .i64 0, .slice none 0 0, .slice none 0 0, .int .i64 0]), 4, 64) := by kernel_rfl
theorem Eb (bv pv : Value) (G : List aU) (P : List (List Int)) (w : World) (HG : fL w bv G) (HP : mG w pv P) (HV : bQ G P) (hn : G.length ≤ 5000) :
  Calls Tryz.prog 13 #[.agg #[bv, pv]] w fun e w' => (∃ D, eO G D ∧ ((∃ v L, e = .returned (.tuple #[v, .int .i64 (-1), .int .i64 0]) ∧ tv w' v L ∧ fl P (dK G.length (cM G)) (fO G.length (cM G)) (jb G G.length []) D L) ∨ (∃ tg : Int, e = .returned (.tuple #[.slice none 0 0, .int .i64 tg, .int .i64 16]) ∧ ¬ gu (dK G.length (cM G)) (fO G.length (cM G)) D (jb G G.length [])))) ∧ Below w.heap.size w w' := by
 have HB := aiU (GB.of HV hn)
 have hne : 0 < G.length := List.length_pos_iff.2 HV.ne
 obtain ⟨gr, JW⟩ := qg hne HB.out.lt
 have Jw := aiU HV
 have xe := aiU HV.len
 obtain ⟨A, cap, rfl, hc1, hc2⟩ := HG.slice
 obtain ⟨PA, aX, rfl, hp1, hp2⟩ := HP.slice
 obtain ⟨V0, gC⟩ : ∃ V0, w.alloc (.cells #[.slice A G.length cap, .slice PA P.length aX] 31) = V0 := ⟨_, rfl⟩
 obtain ⟨gq, J1⟩ : ∃ q, w.heap.size = q := ⟨_, rfl⟩
 have b0 : Below w.heap.size w V0 := gC ▸ (Below.refl _ _).alloc (Nat.le_refl _) _
 have k0 : V0.heap[gq]? = some (.cells #[.slice A G.length cap, .slice PA P.length aX] 31 (0, 0)) := by rw [← gC, ← J1]; exact heap_alloc_new _ _
 have y0 : V0.cell? ⟨gq, 0, none⟩ = some (.slice A G.length cap) := by simp [World.cell?, k0]
 have y1 : V0.cell? ⟨gq, 1, none⟩ = some (.slice PA P.length aX) := by simp [World.cell?, k0]
 have s0 : gq < V0.heap.size := (Array.getElem?_eq_some_iff.1 k0).1
 have jg := aiU (show Calls Tryz.prog 35 #[.agg #[.slice A G.length cap, .slice PA P.length aX]] V0 fun e w' => e = .returned (.bool true) ∧ Below V0.heap.size V0 w' from
  (jU _ _ G P V0 (HG.below b0) (HP.below b0) hn (fun x hx => by obtain ⟨i, hi⟩ := List.mem_iff_getElem?.1 hx; exact HB.out.two i x hi)).mono fun e w' h => by
   obtain ⟨⟨r, rfl, hr⟩, hb⟩ := h
   rw [hr.2 HV]
   exact ⟨rfl, hb⟩)
 have ZY := aiU (HG.below b0)
 have Uz := aiU (HP.below b0)
 obtain ⟨ord, ho⟩ : ∃ o, dK G.length (cM G) = o := ⟨_, rfl⟩
 obtain ⟨pos, zk⟩ : ∃ o, fO G.length (cM G) = o := ⟨_, rfl⟩
 obtain ⟨EL, hel⟩ : ∃ l, jb G G.length [] = l := ⟨_, rfl⟩
 rw [ho, zk, hel]
 have HO := aiU ho
 have Kh := aiU zk
 have WM := aiU hel
 rw [ho, zk] at gr
 rw [ho] at JW
 have nQ := aiU gr
 have B0 := aiU b0
 have hol : ord.length ≤ G.length := fy JW gr.lt
 clear HG HP HV b0 k0 hc1 hc2 hp1 gr ho zk JW hel
 obtain ⟨m, hm⟩ : ∃ m, ord.length = m := ⟨_, rfl⟩
 rw [hm] at hol
 have HM := aiU hm
 obtain ⟨iI, p9, qd, oy, ox⟩ := info_parts ow
 clear hm
 go_enter Tryz.func13, Tryz.ntmps13
 go_upto_region 3 with (go_at_call 35; refine jg.out.mono ?_; rintro e W1 ⟨rfl, hb1⟩)
 have B1 := aiU (B0.out.trans (hb1.mono B0.out.size))
 have BV1 := aiU hb1
 have u0 : W1.cell? ⟨gq, 0, none⟩ = some (.slice A G.length cap) := (hb1.cell (p := ⟨gq, 0, none⟩) s0).trans y0
 have sg1 : gq < W1.heap.size := by have := hb1.size; omega
 obtain ⟨U1, lm, dQ, gr1⟩ := run_make_full (P := Tryz.prog) W1 V0.heap.size 38 3 iI (.int .i64 0) 1 Tryz.underlying38 p9 qd oy .i64 .i64 G.length aiQ ahY BV1.out.size
 rw [Nat.mul_one, show (Value.int .i64 0).cells = #[Value.int .i64 0] from rfl, toList_madeCells_one] at dQ
 obtain ⟨pb, hpb⟩ : ∃ q, W1.heap.size = q := ⟨_, rfl⟩
 rw [hpb] at lm
 have r0 : dU (List.replicate G.length 0) = List.replicate G.length (Value.int .i64 0) := by simp [dU]
 have zu := aiU (show U1.ownsRow V0.heap.size 3 1 (.slice (some ⟨pb, 0, none⟩) G.length G.length) G.length (dU (jL G.length 0)) by rw [oX, r0, ← hpb]; exact dQ)
 have zb := aiU gr1
 have hBU : Below V0.heap.size V0 U1 := BV1.out.grown gr1 BV1.out.size (fun k hk => by cases hk)
 have Ro := aiU hBU
 clear dQ gr1 hpb hb1 r0 p9 qd oy ox iI hBU jg gC
 go_upto_region 5 with fail
 clear lm u0
 go_loopw [29] (fun a29 wr => ∃ k : Nat, k ≤ G.length ∧ a29 = .int .i64 (k : Int) ∧ wr.ownsRow V0.heap.size 3 1 (.slice (some ⟨pb, 0, none⟩) G.length G.length) G.length (dU (jL G.length k)) ∧ Below V0.heap.size V0 wr) (fun a29 _ => G.length - (intOf a29).toNat)
 case atStart => exact ⟨0, Nat.zero_le _, rfl, zu.out, Ro.out⟩
 case round =>
  obtain ⟨k, hk, rfl, hr, hg⟩ := hrel
  have Ri := aiU hg
  have HR := aiU hr
  by_cases hlt : k < G.length
  ·have dl : decide ((k : Int) < (G.length : Int)) = true := decide_eq_true ahU
   have i1 : (k : Int) < (G.length : Int) := by omega
   have x1 := fM hr (by simp [jL]) hlt
   have x2 := hr.frozenAt k
   have r1 := (hr.stored k (.int .i64 (-1))).1
   rw [j5, uF] at r1
   have R1 := aiU r1
   have G1 := aiU (hg.setCell (p := ⟨pb, k, none⟩) (hr.lt pb rfl).1 (.int .i64 (-1)))
   have RM := (hr.lt pb rfl).2
   clear hr hg r1 zu Ro zb
   go_wp2_with fail
   go_roundw
   case rel => exact ⟨k + 1, by omega, by go_num, R1.out, G1.out⟩
   case measure => simp [intOf]; omega
  ·obtain rfl : k = G.length := by omega
   have dl : decide ((G.length : Int) < (G.length : Int)) = false := by simp
   obtain ⟨w2, hw2⟩ : ∃ w2 : World, w2 = wr := ⟨_, rfl⟩
   subst hw2
   have Fe := aiU (uC _ _ G P w2 (ZY.out.below hg) (Uz.out.below hg) Jw.out hn)
   have g0 : w2.cell? ⟨gq, 0, none⟩ = some (.slice A G.length cap) := (hg.cell (p := ⟨gq, 0, none⟩) s0).trans y0
   have g1 : w2.cell? ⟨gq, 1, none⟩ = some (.slice PA P.length aX) := (hg.cell (p := ⟨gq, 1, none⟩) s0).trans y1
   have sg2 : gq < w2.heap.size := by have := hg.size; omega
   rw [xV, ← uz G.length ord pos] at hr
   have wR := aiU hr
   rw [HO.out, HM.out] at Fe
   clear hr hg zu Ro zb HR dl
   go_upto_region 10 with (go_at_call 36; refine Fe.out.mono ?_; rintro e W3 ⟨⟨og, rP, rfl, Nb, hog⟩, hb3⟩)
   have N2 := aiU Nb
   have N6 := aiU (Ri.out.trans (hb3.mono Ri.out.size))
   have oK := aiU (ak wR.out hb3)
   have Qw := aiU hb3
   have SQ : og ≠ pb := by have := (wR.out.lt pb rfl).2; omega
   have adQ : pb < W3.heap.size := (oK.out.lt pb rfl).2
   clear Nb hb3 g0 g1 sg2 hog
   go_loopw [39] (fun a39 wr => ∃ i : Nat, i ≤ m ∧ a39 = .int .i64 (i : Int) ∧ wr.ownsRow V0.heap.size 3 1 (.slice (some ⟨pb, 0, none⟩) G.length G.length) G.length (dU (jy G.length ord pos i)) ∧ Below V0.heap.size V0 wr ∧ W3.grownBy wr (some pb)) (fun a39 _ => m - (intOf a39).toNat)
   case atStart => exact ⟨0, Nat.zero_le _, rfl, oK.out, N6.out, ⟨rfl, rfl, rfl, Nat.le_refl _, fun _ _ _ => rfl⟩⟩
   case round =>
    obtain ⟨i, hi, rfl, hr, hg, hg3⟩ := hrel
    have Qo := aiU hg
    have ZZ := aiU hg3
    by_cases hlt : i < m
    ·have dl : decide ((i : Int) < (m : Int)) = true := decide_eq_true ahU
     obtain ⟨b, hb⟩ : ∃ b, ord[i]? = some b := ⟨_, List.getElem?_eq_getElem ait⟩
     have lu := nQ.out.lt b (List.mem_of_getElem? hb)
     obtain ⟨-, sog, h2⟩ := oD N2.out (k := i) (by rw [cm, List.length_map, HM.out]; exact hlt)
     rw [vM hb] at h2
     have oc : wr.cell? ⟨og, i, none⟩ = some (.int .i64 (b : Int)) := hg3.cell h2 (fun e => SQ (by injection e))
     have sow : og < wr.heap.size := by have := hg3.size; omega
     have i1 : (b : Int) < (G.length : Int) := by omega
     have x1 := fM hr (xT _ _ _ _) lu
     have x2 := hr.frozenAt b
     have r1 := (hr.stored b (.int .i64 (i : Int))).1
     rw [j5, uA nQ.out hb] at r1
     have R1 := aiU r1
     have G1 := aiU (hg.setCell (p := ⟨pb, b, none⟩) (hr.lt pb rfl).1 (.int .i64 (i : Int)))
     have G3 := aiU (show W3.grownBy (wr.setCell ⟨pb, b, none⟩ (.int .i64 (i : Int))) (some pb) from ⟨hg3.os, hg3.tape, hg3.output, by have := hg3.size; simpa using this, fun k hk SU => by
      have hkp : k ≠ pb := fun e => SU (by rw [e])
      rw [Below.heap_setCell _ _ _ _ hkp]; exact hg3.block k hk SU⟩)
     have RM := (hr.lt pb rfl).2
     clear hr hg hg3 r1 h2 oK N6 hb
     go_wp2_with fail
     go_roundw
     case rel => exact ⟨i + 1, by omega, by go_num, R1.out, G1.out, G3.out⟩
     case measure => simp [intOf]; omega
    ·obtain rfl : m = i := by omega
     have dl : decide ((m : Int) < (m : Int)) = false := by simp
     obtain ⟨w4, hw4⟩ : ∃ w4 : World, w4 = wr := ⟨_, rfl⟩
     subst hw4
     have NT := aiU (xy _ _ G P w4 (ZY.out.below hg) (Uz.out.below hg) Jw.out hn)
     have g0 : w4.cell? ⟨gq, 0, none⟩ = some (.slice A G.length cap) := (hg.cell (p := ⟨gq, 0, none⟩) s0).trans y0
     have g1 : w4.cell? ⟨gq, 1, none⟩ = some (.slice PA P.length aX) := (hg.cell (p := ⟨gq, 1, none⟩) s0).trans y1
     have sg2 : gq < w4.heap.size := by have := hg.size; omega
     have zw := aiU hr
     clear hr hg hg3 oK N6 Qw dl N2 SQ
     go_upto_region 15 with (go_at_call 37; refine NT.out.mono ?_; rintro e W5 ⟨⟨dv, D, rfl, H6, Hl⟩, hb5⟩)
     have HDI := aiU H6
     have Qd := aiU Hl
     have WE := aiU (show gD G.length (cM G) ord pos D by have := Hl; unfold eO at this; rwa [HO.out, Kh.out] at this)
     have FE := aiU (Qo.out.trans (hb5.mono Qo.out.size))
     have HR5 := aiU (ak zw.out hb5)
     have hs5 := FE.out.size
     have hmm := @run_makeMap Tryz.prog
     obtain ⟨mb, hmb⟩ : ∃ q, W5.heap.size = q := ⟨_, rfl⟩
     obtain ⟨W6, Tj⟩ : ∃ V, W5.alloc (.map #[] 0) = V := ⟨_, rfl⟩
     have b6 : Below W5.heap.size W5 W6 := Tj ▸ (Below.refl _ _).alloc (Nat.le_refl _) _
     have WY := aiU (show GM W6.heap.size W6 mb (fun _ => []) (fun _ => .slice none 0 0) by rw [← hmb]; have := GM.made (B := W6.heap.size) W5; rw [Tj] at this; exact this)
     have B6 := aiU (FE.out.trans (b6.mono FE.out.size))
     have Mx := aiU (show w.heap.size ≤ mb by have := B0.out.size; omega)
     have DI6 := aiU (HDI.out.below b6)
     have R6 := aiU (ak HR5.out b6)
     have g2 : W6.cell? ⟨gq, 0, none⟩ = some (.slice A G.length cap) := (B6.out.cell (p := ⟨gq, 0, none⟩) s0).trans y0
     have g3 : W6.cell? ⟨gq, 1, none⟩ = some (.slice PA P.length aX) := (B6.out.cell (p := ⟨gq, 1, none⟩) s0).trans y1
     have sg6 : gq < W6.heap.size := by have := B6.out.size; omega
     clear H6 Hl hb5 g0 g1 sg2 b6 zw NT Qo ZZ HDI HR5
     go_upto_region 16 with fail
     have tN := aiU (EE _ (.slice PA P.length aX) G W6 (ZY.out.below B6.out) hn (fun x hx => by obtain ⟨i, hi⟩ := List.mem_iff_getElem?.1 hx; exact HB.out.two i x hi))
     rw [WM.out] at tN
     clear hmm Tj hmb
     go_upto_region 17 with (go_at_call 38; refine tN.out.mono ?_; rintro e V ⟨⟨ev, rfl, hev⟩, Cj⟩; obtain ⟨EA, dS, rfl, he1, he2, -⟩ := id hev)
     obtain ⟨ne, Lj⟩ : ∃ n, EL.length = n := ⟨_, rfl⟩
     rw [Lj] at he1 ⊢
     have CQ := aiU Lj
     have Rj := aiU hev
     have vt := aiU (B6.out.trans (Cj.mono B6.out.size))
     have Fc := aiU (show ∀ k, k < G.length → V.cell? ⟨pb, k, none⟩ = some (.int .i64 ((jy G.length ord pos ord.length).getD k (-1))) from fun k hk => by
      have := fM (ak R6.out Cj) (xT _ _ _ _) hk
      rwa [← HM.out] at this)
     have spV : pb < V.heap.size := ((ak R6.out Cj).lt pb rfl).2
     have HDV := aiU (DI6.out.below Cj)
     have JB := aiU (show mX V mb from (WY.out.im.below Cj WY.out.im.lt).Sg)
     have JH := aiU (show GM V.heap.size V mb (gh ord pos (EL.take 0)) (fun _ => .slice none 0 0) from ⟨by rw [List.take_zero, GZ]; exact WY.out.im.below Cj WY.out.im.lt, fun k => World.ownsRow_nil _ _ _ _, fun i j _ q hq => (by cases hq), fun _ _ => rfl⟩)
     have sgV : gq < V.heap.size := by have := vt.out.size; omega
     have kgV := vt.out.cell (p := ⟨gq, 0, none⟩) s0
     have Sn := vt.out.cell (p := ⟨gq, 1, none⟩) s0
     rw [y0] at kgV
     rw [y1] at Sn
     have aeM : ne ≤ 30000000 := by
      have := Cp G (fun x hx => by obtain ⟨i, hi⟩ := List.mem_iff_getElem?.1 hx; exact HB.out.two i x hi) G.length (Nat.le_refl _) []
      rw [WM.out, Lj] at this
      simp at this
      omega
     clear Lj hev Cj g2 g3 sg6 hs5
     go_loopw [55] (fun a55 wr => ∃ (k : Nat) (val : Nat → Value), k ≤ ne ∧ a55 = .int .i64 (k : Int) ∧ V.grownBy wr (some mb) ∧ GM V.heap.size wr mb (gh ord pos (EL.take k)) val ∧ gu ord pos D (EL.take k)) (fun a55 _ => ne - (intOf a55).toNat)
     case atStart => exact ⟨0, _, Nat.zero_le _, rfl, ⟨rfl, rfl, rfl, Nat.le_refl _, fun _ _ _ => rfl⟩, JH.out, fun e he => by simp at he⟩
     case round =>
      clear JH
      obtain ⟨k, val, hk, rfl, hg, wZ, hok⟩ := hrel
      have HG := aiU hg
      have JH := aiU wZ
      have pQ := aiU hok
      have wY := hg.size
      clear hok
      by_cases hlt : k < ne
      ·have dl : decide ((k : Int) < (ne : Int)) = true := decide_eq_true ahU
       have i1 : (k : Int) < (ne : Int) := by omega
       obtain ⟨e, he⟩ : ∃ e, EL[k]? = some e := ⟨_, List.getElem?_eq_getElem (by rw [CQ.out]; exact hlt)⟩
       obtain ⟨a, b, rfl, han, lu, fc⟩ := wu Jw.out (e := e) (by rw [WM.out]; exact List.mem_of_getElem? he)
       have jC := aiU (show EL.take (k + 1) = EL.take k ++ [((a : Int), (b : Int))] by rw [List.take_add_one, he]; rfl)
       obtain ⟨eb, eo, hEA, seb, ec0, ec1⟩ : ∃ eb eo, EA = some ⟨eb, eo, none⟩ ∧ eb < V.heap.size ∧ V.cell? ⟨eb, eo + k * 2, none⟩ = some (.int .i64 (a : Int)) ∧ V.cell? ⟨eb, eo + k * 2 + 1, none⟩ = some (.int .i64 (b : Int)) := by
        obtain ⟨_, _, e1, _, _, e4⟩ := Rj.out
        cases e1
        obtain ⟨eb, eo, e5, e6, e7⟩ := e4 (by rw [CQ.out]; omega)
        exact ⟨eb, eo, e5, e6, (e7 k _ he).1, (e7 k _ he).2⟩
       subst hEA
       have ec2 := JB.out.cell hg ec0
       have ec3 := JB.out.cell hg ec1
       have sew : eb < wr.heap.size := by omega
       have pa := JB.out.cell hg (Fc.out a han)
       have Xp := JB.out.cell hg (Fc.out b lu)
       rw [nS nQ.out han] at pa
       rw [nS nQ.out lu] at Xp
       have RL : pb < wr.heap.size := by omega
       have ian : (a : Int) < (G.length : Int) := by omega
       have ibn : (b : Int) < (G.length : Int) := by omega
       have mY := aiU fc
       clear ec0 ec1 he fc wZ hg
       go_upto_region 19 with fail
       obtain ⟨q12, OT⟩ : ∃ q, wr.heap.size = q := ⟨_, rfl⟩
       obtain ⟨X, hX⟩ : ∃ X, wr.alloc (.cells #[.int .i64 (a : Int), .int .i64 (b : Int)] 109) = X := ⟨_, rfl⟩
       rw [hX, OT]
       have bX : Below wr.heap.size wr X := hX ▸ (Below.refl _ _).alloc (Nat.le_refl _) _
       have kX : X.heap[q12]? = some (.cells #[.int .i64 (a : Int), .int .i64 (b : Int)] 109 (0, 0)) := by rw [← OT, ← hX]; exact heap_alloc_new _ _
       have z0 : X.cell? ⟨q12, 0, none⟩ = some (.int .i64 (a : Int)) := by simp [World.cell?, kX]
       have z1 : X.cell? ⟨q12, 1, none⟩ = some (.int .i64 (b : Int)) := by simp [World.cell?, kX]
       have szq : q12 < X.heap.size := (Array.getElem?_eq_some_iff.1 kX).1
       have xa := (bX.cell (p := ⟨pb, a, none⟩) RL).trans pa
       have xb := (bX.cell (p := ⟨pb, b, none⟩) RL).trans Xp
       have spX : pb < X.heap.size := by have := bX.size; omega
       have BX := aiU bX
       clear hX OT bX kX ec2 ec3 pa Xp sew
       refine aj ahV ahV ?_
       repeat (go_big_quiet_step (fail))
       refine wpQuiet_nil ?_
       rintro _ ⟨y, rfl⟩
       by_cases hao : a ∈ ord
       ·have Nh : b ∈ ord := nQ.out.closed a hao b mY.out
        rw [if_pos hao] at xa
        rw [if_pos Nh] at xb
        obtain ⟨qa, En⟩ : ∃ q, pos a = q := ⟨_, rfl⟩
        obtain ⟨qb, Aq⟩ : ∃ q, pos b = q := ⟨_, rfl⟩
        rw [En] at xa
        rw [Aq] at xb
        have d0 : decide ((qa : Int) < 0) = false := decide_eq_false ahU
        by_cases hgt : qa < qb
        ·have mZ := aiU (show ¬ (a ∈ ord ∧ pos b ≤ pos a) from fun h => by have := h.2; omega)
         have d1 : decide ((qa : Int) < (qb : Int)) = true := decide_eq_true ahU
         have d2 : decide (qa < qb) = true := decide_eq_true hgt
         clear En Aq hgt hao Nh
         go_upto_region 20 with fail
         refine iJ (x := y) ahV ahV ?_
         repeat (go_big_quiet_step (fail))
         refine wpQuiet_nil ?_
         rintro _ ⟨y2, rfl⟩
         have HY := aiU (BX.out.trans (y2.h.mono BX.out.size))
         clear xa xb z0 z1
         go_wp2_with fail
         go_roundw
         case rel => exact ⟨k + 1, val, by omega, by go_num, fH HG.out HY.out, by rw [jC.out, uJ mZ.out]; exact JH.out.below HY.out, by rw [jC.out]; exact pQ.out.snoc fun h1 h2 => absurd ⟨h1, h2⟩ mZ.out⟩
         case measure => simp [intOf]; omega
        ·have tG := aiU (show a ∈ ord ∧ pos b ≤ pos a from ⟨hao, by omega⟩)
         have d1 : decide ((qa : Int) < (qb : Int)) = false := decide_eq_false ahU
         have d2 : decide (qa < qb) = false := decide_eq_false hgt
         clear En Aq hgt Nh
         go_upto_region 20 with fail
         refine iJ (x := y) ahV ahV ?_
         repeat (go_big_quiet_step (fail))
         refine wpQuiet_nil ?_
         rintro _ ⟨y2, rfl⟩
         have HY := aiU (BX.out.trans (y2.h.mono BX.out.size))
         clear xa xb z0 z1
         have U6 := aiU (tZ nQ.out WE.out (by rw [HM.out]; exact hol) hn _ b a y2.w ((JB.out.ints HG.out HDV.out).below HY.out) lu hao)
         clear hao
         by_cases Et : bR D a b
         ·have U8 := aiU (U6.out.mono fun e w' (h : (∃ r : Bool, e = .returned (.bool r) ∧ (r = true ↔ bR D a b)) ∧ Below y2.w.heap.size y2.w w') => (show e = .returned (.bool true) ∧ Below y2.w.heap.size y2.w w' from by
           obtain ⟨⟨r, rfl, hr⟩, hb⟩ := h
           rw [hr.2 Et]
           exact ⟨rfl, hb⟩))
          have Jz := aiU (show gu ord pos D (EL.take (k + 1)) by rw [jC.out]; exact pQ.out.snoc fun _ _ => Et)
          clear Et
          go_upto_region 23 with (go_at_call 39; refine U8.out.mono ?_; rintro e W7 ⟨rfl, hb7⟩)
          have b7 := HY.out.trans (hb7.mono HY.out.size)
          have Rv := aiU (JH.out.below b7)
          have G7 := aiU (fH HG.out b7)
          have hl := Rv.out.look (i := b) ahU
          have hown := Rv.out.own b
          have OX := Rv.out.ne b
          obtain ⟨FL, Nj⟩ : ∃ l, gh ord pos (EL.take k) b = l := ⟨_, rfl⟩
          have hFn : FL.length ≤ ne := by
           have := yf ord pos (EL.take k) b
           rw [Nj] at this
           have h2 : (EL.take k).length ≤ k := by simp; omega
           omega
          rw [Nj] at hown
          obtain ⟨vA, dI, El⟩ : ∃ vA dI, val b = .slice vA FL.length dI := by
           rcases hown.2 with ⟨h, h'⟩ | ⟨g, cap', cur, h, _⟩
           ·exact ⟨_, _, by rw [h, h']⟩
           ·exact ⟨_, _, h⟩
          rw [El] at hl hown OX
          have Wl := aiU El
          have Qs := aiU Nj
          have za := aiU hown
          have ZG := aiU OX
          have smb := Rv.out.im.lt
          have sV7 := G7.out.size
          obtain ⟨iI, p9, qd, oy, ox⟩ := info_parts ow
          obtain ⟨Wc, hW7⟩ : ∃ W : World, W = W7 := ⟨_, rfl⟩
          subst hW7
          clear El Nj hown OX b7 hb7
          go_wp2_with (first | (at_builtin; refine wpList_append_own_at _ rfl (.tmp 89) (.tmp 91) 38 rfl V.heap.size 3 iI (.int .i64 0) 1 8 Tryz.underlying38 p9 qd oy ox rfl ahW (.slice vA FL.length dI) _ _ rfl (za.out.alloc _) ⟨Wc.heap.size, 0, none⟩ 1 1 [.int .i64 (a : Int)] rfl rfl (cell_one_new _ _ _) ahX ahY ahU ah6 ?_; intro v' W' hown' hgrow _ j6; obtain ⟨g', cap', rfl⟩ := ownsRow_succ hown'; obtain ⟨W8, hput, hm8, o1, o2, o3, o4, o5⟩ := (Rv.out.im.keep ((hgrow.block mb ah3 ZG.out).trans (heap_alloc_old _ _ smb))).put (P := Tryz.prog) (kt := 3) (t := 107) (e := 38) Tryz.underlying3 Tryz.underlying107 (k := (b : Int)) (eX ahU ahU) (.slice (some ⟨g', 0, none⟩) (FL.length + 1) cap'); simp only [kv] at hput))
          go_roundw
          case rel =>
           have bA : Below Wc.heap.size Wc (Wc.alloc (.cells #[.int .i64 (a : Int)] 3)) := (Below.refl _ _).alloc (Nat.le_refl _) _
           refine ⟨k + 1, upd val b (.slice (some ⟨g', 0, none⟩) (FL.length + 1) cap'), by omega, by go_num, ?_, ?_, Jz.out⟩
           ·exact Pn (sk (fH G7.out bA) hgrow (fun q hq => (za.out.lt q hq).1)) o1 o2 o3 o4 o5
           ·rw [jC.out, G0 tG.out.1 tG.out.2]
            exact Rv.out.app bA (by rw [Wl.out]; exact hgrow) (by rw [Qs.out]; exact hown') (by rw [Wl.out]; exact j6) hm8 o4 o5 o1 o2 o3
          case measure => simp [intOf]; omega
         ·have U8 := aiU (U6.out.mono fun e w' (h : (∃ r : Bool, e = .returned (.bool r) ∧ (r = true ↔ bR D a b)) ∧ Below y2.w.heap.size y2.w w') => (show e = .returned (.bool false) ∧ Below y2.w.heap.size y2.w w' from by
           obtain ⟨⟨r, rfl, hr⟩, hb⟩ := h
           have : r = false := by
            cases r with
            | false => rfl
            | true => exact absurd (hr.1 rfl) Et
           rw [this]
           exact ⟨rfl, hb⟩))
          have aac := aiU (show ¬ gu ord pos D EL from fun h => Et (by
           have := h ((a : Int), (b : Int)) (List.mem_of_mem_take (i := k + 1) (by rw [jC.out]; simp))
           simpa using this tG.out.1 tG.out.2))
          clear Et
          go_wp2_with (go_at_call 39; refine U8.out.mono ?_; rintro e W7 ⟨rfl, hb7⟩)
          refine bodyPost_ret (results_tmp3 rfl _ _ _) rfl ⟨⟨D, Qd.out, .inr ⟨_, rfl, aac.out⟩⟩, ?_⟩
          exact (((B0.out.trans (vt.out.mono B0.out.size)).grown (fH HG.out HY.out) (by have := B0.out.size; have := vt.out.size; omega) (fun k hk => by cases hk; exact Mx.out)).trans (hb7.mono (by have := B0.out.size; have := vt.out.size; have := (fH HG.out HY.out).size; omega)))
       ·have mZ := aiU (show ¬ (a ∈ ord ∧ pos b ≤ pos a) from fun h => hao h.1)
        rw [if_neg hao] at xa
        have d0 : decide ((-1 : Int) < 0) = true := by decide
        clear hao
        go_upto_region 20 with fail
        refine iJ (x := y) ahV ahV ?_
        repeat (go_big_quiet_step (fail))
        refine wpQuiet_nil ?_
        rintro _ ⟨y2, rfl⟩
        have HY := aiU (BX.out.trans (y2.h.mono BX.out.size))
        clear xa xb z0 z1
        go_wp2_with fail
        go_roundw
        case rel => exact ⟨k + 1, val, by omega, by go_num, fH HG.out HY.out, by rw [jC.out, uJ mZ.out]; exact JH.out.below HY.out, by rw [jC.out]; exact pQ.out.snoc fun h1 h2 => absurd ⟨h1, h2⟩ mZ.out⟩
        case measure => simp [intOf]; omega
      ·obtain rfl : ne = k := by omega
       have dl : decide ((ne : Int) < (ne : Int)) = false := by simp
       have lf : EL.take ne = EL := List.take_of_length_le (by rw [CQ.out]; exact Nat.le_refl _)
       rw [lf] at wZ
       obtain ⟨F, hF⟩ : ∃ f, gh ord pos EL = f := ⟨_, rfl⟩
       rw [hF] at wZ
       have HF := aiU hF
       have HGF := aiU wZ
       have Jz := aiU (show gu ord pos D EL by have := pQ.out; rwa [lf] at this)
       have Kj := aiU (show ∀ h, ∀ l ∈ F h, l < G.length ∧ l ∈ ord ∧ h < G.length ∧ h ∈ ord from fun h l hl => by
        rw [← hF] at hl
        obtain ⟨e, h1, h2, h3, h4⟩ := KT l hl
        obtain ⟨a, b, rfl, h5, h6, h7⟩ := wu Jw.out (e := e) (by rw [WM.out]; exact h1)
        simp only [Int.toNat_natCast] at h2 h3
        subst h2 h3
        exact ⟨h5, h4, h6, nQ.out.closed _ h4 _ h7⟩)
       have ZE := aiU (show ∀ h, F h ≠ [] → h < G.length ∧ h ∈ ord from fun h hh => by
        obtain ⟨l, hl⟩ := List.exists_mem_of_ne_nil _ hh
        exact (Kj.out h l hl).2.2)
       obtain ⟨X, hX⟩ : ∃ X, wr.alloc (.cells #[.map (some mb)] 107) = X := ⟨_, rfl⟩
       have bX : Below wr.heap.size wr X := hX ▸ (Below.refl _ _).alloc (Nat.le_refl _) _
       have HK := aiU (show Calls Tryz.prog 41 #[.map (some mb)] wr fun e w' => e = .returned (.func (.func 71) #[] #[.pointer (some ⟨wr.heap.size, 0, none⟩)]) ∧ X = w' from (Ee (some mb) wr).mono fun e w' ⟨h1, h2⟩ => ⟨h1, by rw [h2, hX]⟩)
       have Wp := aiU (xC mb wr.heap.size G.length (ny F val) X (wZ.im.below bX wZ.im.lt) (fun k v hk => by
        have := qN.1 (show ny F val k ≠ none by rw [hk]; simp)
        have := (ZE.out _ this.2).1
        omega) ahU (by rw [← hX]; simp) (by
        have k : X.heap[wr.heap.size]? = some (.cells #[.map (some mb)] 107 (0, 0)) := hX ▸ heap_alloc_new _ _
        simp [World.cell?, k]))
       have BX := aiU bX
       clear wZ hg lf hF hX bX pQ CQ dl he1 he2
       go_upto_region 27 with (first | (go_at_call 41; refine HK.out.mono ?_; rintro e w' ⟨rfl, rfl⟩) | (go_at_call 40; refine Wp.out.mono ?_; rintro e W9 ⟨hv, hs, rfl, Hr, hsk, hb9⟩; obtain ⟨hA, hcap, rfl⟩ := iu Hr))
       have b9 := BX.out.trans (hb9.mono BX.out.size)
       have G9 := aiU (fH HG.out b9)
       have GM9 := aiU (HGF.out.below b9)
       have sVX : V.heap.size ≤ X.heap.size := by have := HG.out.size; have := BX.out.size; omega
       have Zm := aiU (rD Hr sVX)
       have Zk := aiU hsk
       obtain ⟨hn9, QM⟩ : ∃ n, hs.length = n := ⟨_, rfl⟩
       rw [QM] at Zm ⊢
       have UX := aiU QM
       have aeI : hn9 ≤ 5000 := by
        have := rS (n := G.length) (l := hs) (hsk.Fq.imp fun {a b} h => by omega) (fun x hx => by
         have := qN.1 ((hsk.mem x).1 hx)
         have := (ZE.out _ this.2).1
         omega)
        omega
       obtain ⟨iL, r9, J4, LD, hL2⟩ := info_parts He
       clear Hr hsk hb9 b9 QM JH HG HGF BX HK Wp sVX
       go_loopw [15, 98] (fun a15 a98 wr => ∃ (j : Nat) (Xr : Value) (Q : List Qp) (L : List Lp), j ≤ hn9 ∧ a98 = .int .i64 (j : Int) ∧ a15 = Xr ∧ V.grownBy wr (some mb) ∧ GM V.heap.size wr mb F val ∧ wr.ownsRow V.heap.size 3 1 (.slice hA hn9 hcap) hn9 (dU hs) ∧ LL V.heap.size wr Xr Q L ∧ L.map (·.h) = hs.take j ∧ ∀ x ∈ L, x.la = cm (F x.h.toNat) ∧ zf (mA P) (· ∈ ord) x.h.toNat (F x.h.toNat) x.bl) (fun _ a98 _ => hn9 - (intOf a98).toNat)
       case atStart => exact ⟨0, _, [], [], Nat.zero_le _, rfl, rfl, G9.out, GM9.out, Zm.out, LL.nil _ _, by simp, by simp⟩
       case round =>
        clear G9 GM9 Zm
        obtain ⟨j, Xr, Q, L, hj, rfl, rfl, hg, wZ, zj, tV, QX, VV⟩ := hrel
        obtain ⟨lA, GY, rfl⟩ := iu tV.row
        have HG := aiU hg
        have JH := aiU wZ
        have HRS := aiU zj
        have Ki := aiU tV
        have UN := aiU QX
        have JF := aiU VV
        have sVw := hg.size
        have QV : Q.length = j ∧ L.length = j := by
         have h1 := congrArg List.length QX
         have h2 := tV.len
         have h3 := UX.out
         simp at h1
         omega
        have Wu := aiU QV
        by_cases hlt : j < hn9
        ·have dl : decide ((j : Int) < (hn9 : Int)) = true := decide_eq_true ahU
         obtain ⟨hx, hhx⟩ : ∃ x, hs[j]? = some x := ⟨_, List.getElem?_eq_getElem (by rw [UX.out]; exact hlt)⟩
         have hxs := qN.1 ((Zk.out.mem hx).1 (List.mem_of_getElem? hhx))
         obtain ⟨h, rfl⟩ : ∃ h : Nat, hx = (h : Int) := ⟨hx.toNat, by omega⟩
         rw [Int.toNat_natCast] at hxs
         obtain ⟨QM, Yf⟩ := ZE.out h hxs.2
         obtain ⟨hb, hbe, hbl, hc⟩ : ∃ hb, hA = some ⟨hb, 0, none⟩ ∧ hb < wr.heap.size ∧ wr.cell? ⟨hb, j, none⟩ = some (.int .i64 (h : Int)) := by
          rcases zj.2 with ⟨e, h0⟩ | ⟨g, cap', cur, e, _⟩
          ·omega
          ·cases e
           refine ⟨g, rfl, (zj.lt g rfl).2, ?_⟩
           rw [wA zj UX.out hlt]
           simp [List.getD, hhx]
         subst hbe
         have jC := aiU (show hs.take (j + 1) = hs.take j ++ [(h : Int)] by rw [List.take_add_one, hhx]; rfl)
         have hl := wZ.look (i := h) ahU
         have hown := wZ.own h
         obtain ⟨vA, dI, El⟩ : ∃ vA dI, val h = .slice vA (F h).length dI := by
          rcases hown.2 with ⟨h1, h'⟩ | ⟨g, cap', cur, h1, _⟩
          ·exact ⟨_, _, by rw [h1, h']⟩
          ·exact ⟨_, _, h1⟩
         obtain ⟨FL, Nj⟩ : ∃ l, F h = l := ⟨_, rfl⟩
         rw [Nj] at El hown
         rw [El] at hl hown
         obtain ⟨fn, hfn⟩ : ∃ n, FL.length = n := ⟨_, rfl⟩
         have Qr := aiU hfn
         have za := aiU hown
         have Qs := aiU Nj
         rw [hfn] at hl El
         have Wl := aiU El
         clear hhx hxs hg wZ zj tV QX VV QV El hfn hown Nj
         go_upto_region 30 with fail
         obtain ⟨q18, Hq⟩ : ∃ q, wr.heap.size = q := ⟨_, rfl⟩
         obtain ⟨X1, LC⟩ : ∃ X, wr.alloc (.cells #[.int .i64 (h : Int), .slice none 0 0, .slice vA fn dI, .int .i64 (-1)] 46) = X := ⟨_, rfl⟩
         rw [LC, Hq]
         have b1 : Below wr.heap.size wr X1 := LC ▸ (Below.refl _ _).alloc (Nat.le_refl _) _
         have k1 : X1.heap[q18]? = some (.cells #[.int .i64 (h : Int), .slice none 0 0, .slice vA fn dI, .int .i64 (-1)] 46 (0, 0)) := by rw [← Hq, ← LC]; exact heap_alloc_new _ _
         have GX := fH HG.out b1
         have HP1 := aiU (JB.out.lls GX (Uz.out.below vt.out))
         have g0 := JB.out.cell GX kgV
         have g1 := JB.out.cell GX Sn
         have sgx : gq < X1.heap.size := by have := GX.size; omega
         have Zt := aiU (show Jq X1 pb 0 G.length (· ∈ ord) from ⟨by have := GX.size; omega, fun k hk => by
          have h1 := JB.out.cell GX (Fc.out k hk)
          rw [nS nQ.out hk] at h1
          refine ⟨_, by rw [Nat.zero_add]; exact h1, ?_⟩
          by_cases VH : k ∈ ord
          ·rw [if_pos VH]; simp [VH]
          ·rw [if_neg VH]; simp [VH]⟩)
         have Qk := aiU (show Ints X1 (.slice vA fn dI) (cm FL) from eL (by
          have := ak za.out b1
          rw [Qr.out] at this
          rw [show (cm FL).length = fn by rw [cm, List.length_map, Qr.out]]
          exact this))
         have hl1 := (JH.out.below b1).look (i := h) ahU
         rw [Wl.out] at hl1
         have Ye := Yf
         have N5 := aiU (Jg Jw.out hn (fun x hx => nQ.out.lt x hx) X1 pb 0 G.length h (.slice A G.length cap) (.slice PA P.length aX) (.slice vA fn dI) FL HP1.out Zt.out Qk.out QM Yf (fun l hl => (Kj.out h l (by rw [Qs.out]; exact hl)).1))
         have B1X := aiU b1
         have K1X := aiU k1
         have sx1 : X1.heap.size = q18 + 1 := by rw [← LC, World.size_alloc, Hq]
         have Zq := aiU Hq
         have bx := cK k1
         have bx4 := bx.2.2.2.2
         clear LC Hq b1 k1 GX Yf Ye hl bx
         go_upto_region 31 with (go_at_call 42; refine N5.out.mono ?_; rintro e W2 ⟨bv2, bl, rfl, Nh, hbd, hb2⟩; obtain ⟨bA, jd, rfl⟩ := iu Nh; have k2 := (hb2.block q18 bx4).trans K1X.out; have k2c := (cK k2).2.1; have k2f := Bg k2 1; have k2s := (cK k2).2.2.2.2)
         obtain ⟨X2, Ti⟩ : ∃ X, W2.setCell ⟨q18, 1, none⟩ (.slice bA bl.length jd) = X := ⟨_, rfl⟩
         rw [Ti]
         have k18 : X2.heap[q18]? = some (.cells #[.int .i64 (h : Int), .slice bA bl.length jd, .slice vA fn dI, .int .i64 (-1)] 46 (0, 0)) := Ti ▸ heap_setCell_same W2 q18 1 _ _ _ k2
         obtain ⟨c0, c1, c2, c3, c4⟩ := cK k18
         have hwq := Zq.out
         have TR : Below wr.heap.size wr X2 := Ti ▸ (B1X.out.trans (hb2.mono B1X.out.size)).setCell (p := ⟨q18, 1, none⟩) (by show wr.heap.size ≤ q18; omega) _
         have qF := aiU (show X2.ownsRow V.heap.size 3 1 (.slice bA bl.length jd) bl.length (dU bl) from Ti ▸ (rD Nh ahU).kept (aQ W2 q18 1 _) (by
          cases hu : (Value.slice bA bl.length jd).ownBlock with
          | none => exact .inl rfl
          | some q => exact .inr fun e => by have := (Nh.lt q hu).1; cases e; omega))
         have UM := aiU (show X2.ownsRow V.heap.size 3 1 (.slice vA fn dI) (cm FL).length (dU (cm FL)) by
          have := ak za.out TR
          rw [Qr.out] at this
          rw [show (cm FL).length = fn by rw [cm, List.length_map, Qr.out]]
          exact this)
         have JD := aiU (Ki.out.below TR)
         have hrow := JD.out.row
         have hQ : Q.length ≤ 5000 := by have := Wu.out.1; omega
         have Qe := aiU hrow
         have Xf := aiU TR
         have Km := aiU hbd
         have adX : V.heap.size ≤ X2.heap.size := by have := TR.size; omega
         clear hwq Ti k18 TR hrow Nh hbd hb2 k2 k2c k2f k2s N5 hl1 hc g0 g1
         go_wp2_with (at_builtin; refine wpList_append_own_at _ rfl (.tmp 115) (.tmp 117) 35 rfl V.heap.size 46 iL _ 4 64 Tryz.underlying35 r9 J4 LD hL2 rfl ahW (.slice lA Q.length GY) _ _ rfl (Qe.out.alloc _) ⟨X2.heap.size, 0, none⟩ 1 1 [.int .i64 (h : Int), .slice bA bl.length jd, .slice vA fn dI, .int .i64 (-1)] rfl rfl (sL _ _ _ _ _ _) ahX ahY ahU ah6 ?_; intro v' W' hown' hgrow _ j6; obtain ⟨g', cap', rfl⟩ := ownsRow_succ hown')
         go_roundw
         case rel =>
          have bA2 : Below X2.heap.size X2 (X2.alloc (.cells #[.int .i64 (h : Int), .slice bA bl.length jd, .slice vA fn dI, .int .i64 (-1)] 46)) := (Below.refl _ _).alloc (Nat.le_refl _) _
          have bW := Xf.out.trans (bA2.mono Xf.out.size)
          have hrA := Qe.out.alloc (.cells #[.int .i64 (h : Int), .slice bA bl.length jd, .slice vA fn dI, .int .i64 (-1)] 46)
          refine ⟨j + 1, _, Q ++ [⟨(h : Int), .slice bA bl.length jd, .slice vA fn dI, -1⟩], L ++ [⟨(h : Int), bl, cm FL⟩], by omega, by go_num, rfl, ?_, (JH.out.below bW).Sq hrA hgrow, eH (ak HRS.out bW) hrA hgrow, JD.out.app (q := ⟨(h : Int), .slice bA bl.length jd, .slice vA fn dI, -1⟩) (x := ⟨(h : Int), bl, cm FL⟩) bA2 hgrow hown' ⟨rfl, qF.out, UM.out⟩, ?_, fun x hx => ?_⟩
          ·exact sk (fH HG.out bW) hgrow (fun q hq => (Qe.out.lt q hq).1)
          ·rw [List.map_append, UN.out, jC.out]; rfl
          ·rcases List.mem_append.1 hx with hx | hx
           ·exact JF.out x hx
           ·obtain rfl : x = ⟨(h : Int), bl, cm FL⟩ := by simpa using hx
            simp only [Int.toNat_natCast]
            rw [Qs.out]
            exact ⟨rfl, Km.out⟩
         case measure => simp [intOf]; omega
        ·obtain rfl : hn9 = j := by omega
         have dl : decide ((hn9 : Int) < (hn9 : Int)) = false := by simp
         have HLR := aiU (show fl P ord pos EL D L from ⟨Jz.out, by rw [QX, List.take_of_length_le (by rw [UX.out]; exact Nat.le_refl _)]; exact Zk.out.Fq, fun x => by rw [QX, List.take_of_length_le (by rw [UX.out]; exact Nat.le_refl _), Zk.out.mem, qN, HF.out], fun x hx => by rw [HF.out]; exact VV x hx⟩)
         have hQ := QV.1
         have hL9 : L.length ≤ 1000000 := by have := QV.2; omega
         have HL9 := aiU QV.2
         have HLQ := aiU (show LL V.heap.size wr (.slice lA hn9 GY) Q L by have := tV; rwa [hQ] at this)
         rw [hQ]
         clear hg wZ zj tV QX VV QV HRS JH hQ Ki
         go_upto_region 34 with fail
         go_loopw [122] (fun PY wr => ∃ (i : Nat) (Q : List Qp), i ≤ hn9 ∧ PY = .int .i64 (i : Int) ∧ V.grownBy wr (some mb) ∧ LL V.heap.size wr (.slice lA hn9 GY) Q L) (fun PY _ => hn9 - (intOf PY).toNat)
         case atStart => exact ⟨0, Q, Nat.zero_le _, rfl, HG.out, HLQ.out⟩
         case round =>
          clear HLQ HG
          obtain ⟨i, Q5, hi, rfl, hg, tV⟩ := hrel
          have HG := aiU hg
          have Ki := aiU tV
          have sVw := hg.size
          by_cases hlt : i < hn9
          ·have dl : decide ((i : Int) < (hn9 : Int)) = true := decide_eq_true ahU
           have i1 : (i : Int) < (hn9 : Int) := by omega
           obtain ⟨g, hge, Nc, Yg⟩ : ∃ g, lA = some ⟨g, 0, none⟩ ∧ V.heap.size ≤ g ∧ g < wr.heap.size := by
            rcases tV.row.2 with ⟨e, _⟩ | ⟨g, cap', cur, e, _⟩
            ·cases e; omega
            ·cases e; exact ⟨g, rfl, tV.row.lt g rfl⟩
           subst hge
           have VO : Q5.length = hn9 := by rw [tV.len, HL9.out]
           obtain ⟨q, hq⟩ : ∃ q, Q5[i]? = some q := ⟨_, List.getElem?_eq_getElem (by rw [VO]; exact hlt)⟩
           have HQI := aiU hq
           have HQN := aiU VO
           have Zv := aiU (Aa _ L i wr tV.MN (by rw [HL9.out]; exact hlt) hL9)
           have Ve := aiU (show ∀ W3, Below wr.heap.size wr W3 → W3.cell? ⟨g, i * 4 + 3, none⟩ = some (.int .i64 q.p) ∧ W3.frozen? ⟨g, i * 4 + 3, none⟩ = false ∧ g < W3.heap.size from fun W3 hb => by
            have h3 := tV.below hb
            have hr := h3.row
            rw [VO] at hr
            refine ⟨?_, hr.frozenAt _, by have := hb.size; omega⟩
            rw [hr.cellAt _ ahU, rJ Q5 i 3 q hq ahU]
            rfl)
           clear hg tV hq VO
           go_wp2_with (go_at_call 43; refine Zv.out.mono ?_; rintro e W3 ⟨⟨r, rfl⟩, hb3⟩; obtain ⟨cc1, cc2, cc3⟩ := Ve.out W3 hb3)
           go_roundw
           case rel => exact ⟨i + 1, _, by omega, by go_num, sk (fH HG.out hb3) (aQ W3 g _ _) (fun k hk => by cases hk; exact Nc), (Ki.out.below hb3).Xn HQI.out r⟩
           case measure => simp [intOf]; omega
          ·obtain rfl : hn9 = i := by omega
           have dl : decide ((hn9 : Int) < (hn9 : Int)) = false := by simp
           clear hg tV
           go_wp2_with fail
           refine bodyPost_ret (results_tmp3 rfl _ _ _) rfl ⟨⟨D, Qd.out, .inl ⟨_, L, rfl, Ki.out.MN, HLR.out⟩⟩, ?_⟩
           exact (B0.out.trans (vt.out.mono B0.out.size)).grown HG.out (by have := B0.out.size; have := vt.out.size; omega) (fun k hk => by cases hk; exact Mx.out)
end
section
open Go.RowKit
theorem BI {P : Program} {w : World} {ops : Array Oper} {rest : List Oper} {o : Oper} {a : Act} {Q : Exit → Act → World → Prop} (hgd : o.guard = none) (s x : Operand) (t : TypeId)
  (ho : o.op = .call { callee := .builtin .append, args := #[s, x], argTypes := #[t, t] })
  (base : Nat) (e : TypeId) (i : TypeInfo) (z : Value) (size bytes : Nat) (ht : P.underlying t = some (.slice e)) (hi : P.info? e = some i) (hz : i.zero = some z)
  (hsize : i.size = size) (hby : i.bytes = bytes) (hzs : z.cells.size = size) (hsz : 0 < size)
  (v : Value) (n : Nat) (xs : List Value) (hs : a.eval s = v) (hown : w.ownsRow base e size v n xs)
  (base' : Nat) (u : Value) (m : Nat) (news : List Value) (hx : a.eval x = u) (hsrc : w.ownsRow base' e size u m news) (h1 : ∀ u ∈ news, u.oneCell' = true)
  (h63 : n + m ≤ maxLen) (hbytes : (n + m) * bytes ≤ 140737488355328) (hbase : base ≤ w.heap.size)
  (h : ∀ v' w', w'.ownsRow base e size v' (n + m) (xs ++ news) → w.grownBy w' v.ownBlock → (v'.ownBlock = v.ownBlock ∨ v'.ownBlock = some w.heap.size) → wpList P ops Q rest (a.put o.dst v') w') :
  wpList P ops Q (o :: rest) a w := by
 rcases hsrc.2 with ⟨rfl, rfl⟩ | ⟨g, cap, cur, rfl, _, hg, hn, _, hcs, lf⟩
 ·have hn : news = [] := List.length_eq_zero_iff.1 (by simpa using hsrc.1)
  subst hn
  refine wpList_append_own_none hgd s x t ho base e i size ht hi v n xs hs hown hx ?_
  exact h v w (by simpa using hown) (World.grownBy.refl w _) (.inl rfl)
 ·refine wpList_append_own_at w hgd s x t ho base e i z size bytes ht hi hz hsize hby hzs hsz v n xs hs hown ⟨g, 0, none⟩ m cap news hx hsrc.1 (fun j y hy => ?_) h1 h63 hbytes hbase (fun v' w' h2 h3 _ h5 => h v' w' h2 h3 h5)
  have hjl := (List.getElem?_eq_some_iff.1 hy).1
  have ea : (⟨g, 0, none⟩ : Addr).add j = ⟨g, j, none⟩ := by cases j <;> simp [Addr.add]
  have key := congrArg (fun x => x[j]?) lf
  rw [hsrc.1] at hjl
  simp only [List.getElem?_take, hjl, if_true] at key
  rw [ea]
  have := key.trans hy
  simpa [World.cell?, hg] using this
end
end Go.Proofs.YtlmgkipmfgijiaaGreatDoor
