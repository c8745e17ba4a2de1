/-
  What is proved here: what the reference's Valid returns, if its Prev returns what it should.
-/
import Derived.Test.YtfceodpdipniaaaDoorCgSame
namespace Go.Proofs.YtfceodpdipniaaaDoor
open Go.RowKit
set_option linter.unusedVariables false
set_option linter.unusedSimpArgs false

theorem okL_last {n : Nat} : ∀ {l : List Blk} {a e : Int}, okL n a l e → (l = [] ∧ e = a) ∨ ∃ m y, l = m ++ [y] ∧ e = y.hi
  | [], a, e, h => .inl ⟨rfl, h.symm⟩
  | x :: l, a, e, ⟨h1, h2⟩ => by
    rcases okL_last h2 with ⟨rfl, rfl⟩ | ⟨m, y, rfl, rfl⟩
    · exact .inr ⟨[], x, rfl, rfl⟩
    · exact .inr ⟨x :: m, y, rfl, rfl⟩
theorem okL_le {n : Nat} : ∀ {l : List Blk} {a e : Int}, okL n a l e → a ≤ e
  | [], a, e, h => by cases h; exact Int.le_refl _
  | x :: l, a, e, ⟨h1, h2⟩ => by have := okL_le h2; have := h1.lo; have := h1.hi; omega
theorem okL_all {n : Nat} : ∀ {l : List Blk} {a e : Int}, okL n a l e → ∀ x ∈ l, ∀ t ∈ x.nx, 0 ≤ t ∧ t < (n : Int)
  | [], a, e, h, x, hx => by cases hx
  | y :: l, a, e, ⟨h1, h2⟩, x, hx => by
    rcases List.mem_cons.1 hx with rfl | hx
    · exact h1.nx
    · exact okL_all h2 x hx
/-- The end of the block before. -/
theorem okL_prev {n : Nat} {G : List Blk} {k : Nat} {e : Int} (hk : k ≤ G.length) (h : okL n 0 (G.take k) e) : (k = 0 ∧ e = 0) ∨ (0 < k ∧ ∃ y, G[k - 1]? = some y ∧ e = y.hi) := by
  rcases okL_last h with ⟨h1, h2⟩ | ⟨m, y, h1, h2⟩
  · left
    have := congrArg List.length h1
    simp at this
    have h3 : k = 0 := by
      rcases this with h | h
      · exact h
      · rw [h] at hk; simpa using hk
    exact ⟨h3, h2⟩
  · right
    have hl := congrArg List.length h1
    rw [List.length_take, List.length_append, List.length_singleton, Nat.min_eq_left hk] at hl
    refine ⟨by omega, y, ?_, h2⟩
    have : (G.take k)[k - 1]? = some y := by
      rw [h1, List.getElem?_append_right (by omega), show k - 1 - m.length = 0 by omega]
      rfl
    rw [List.getElem?_take, if_pos (by omega)] at this
    exact this

set_option maxHeartbeats 4000000 in
set_option maxRecDepth 20000 in
theorem rvalid_any (v pv : Value) (G : List Blk) (P : List (List Int)) (w : World) (HG : Blks w v G) (HP : Lls w pv P) (hn : G.length ≤ 5000) (hnx : ∀ x ∈ G, x.nx.length ≤ 5000)
    (HPV : ∀ (W : World), Blks W v G → (∀ x ∈ G, ∀ t ∈ x.nx, 0 ≤ t ∧ t < (G.length : Int)) → Calls Tryd.prog 46 #[v] W fun e w' => (∃ pv, e = .returned pv ∧ Lls w' pv ((List.range G.length).map (prvAt G G.length []))) ∧ Below W.heap.size W w') :
    Calls Tryd.prog 20 #[v, pv] w fun e w' => (∃ r : Bool, e = .returned (.bool r) ∧ (r = true ↔ ValidG G P)) ∧ Below w.heap.size w w' := by
  obtain ⟨A, cap, rfl, hc1, hc2⟩ := HG.slice
  obtain ⟨PA, pcap, rfl, hp1, hp2⟩ := HP.slice
  have HGH := Lib.hid HG
  have HPH := Lib.hid HP
  have HNX := Lib.hid hnx
  have HPR := Lib.hid HPV
  clear HG HP hnx HPV
  go_enter Tryd.func20, Tryd.ntmps20
  by_cases q1 : G.length = 0
  · have d1 : ((G.length : Int) == 0) = true := beq_iff_eq.2 (by omega)
    have HQ := Lib.hid q1
    clear q1
    go_wp2_with fail
    go_ret
    exact ⟨⟨false, rfl, by simp; intro h; exact h.ne (List.length_eq_zero_iff.1 HQ.out)⟩, Below.refl _ _⟩
  have d1 : ((G.length : Int) == 0) = false := beq_eq_false_iff_ne.2 (by omega)
  by_cases q2 : P.length = G.length
  case neg =>
    have d2 : ((P.length : Int) != (G.length : Int)) = true := by simp; omega
    have HQ := Lib.hid q2
    clear q2
    go_wp2_with fail
    go_ret
    exact ⟨⟨false, rfl, by simp; intro h; exact HQ.out h.len⟩, Below.refl _ _⟩
  have d2 : ((P.length : Int) != (G.length : Int)) = false := by simp; omega
  have HQ1 := Lib.hid q1
  have HQ2 := Lib.hid q2
  clear q1 q2
  go_upto_region 4 with fail
  clear d1 d2
  go_loopw [5, 6] (fun a5 a6 wr => ∃ (k : Nat) (e : Int), k ≤ G.length ∧ a5 = .int .i64 (k : Int) ∧ okL G.length 0 (G.take k) e ∧ Below w.heap.size w wr) (fun a5 _ _ => G.length - (intOf a5).toNat)
  case atStart => exact ⟨0, 0, Nat.zero_le _, rfl, rfl, Below.refl _ _⟩
  case round =>
    obtain ⟨k, e, hk, rfl, hok, hb⟩ := hrel
    have HOK := Lib.hid hok
    have BW := Lib.hid hb
    have sB := hb.size
    clear hok hb
    by_cases hlt : k < G.length
    · obtain ⟨x, nv, b, off, hx, rfl, hbl, c0, c1, c2, hI⟩ := HGH.out.at_ BW.out hlt
      obtain ⟨NA, ncap, rfl, hn1, hn2⟩ := hI.slice
      have HI := Lib.hid hI
      have HX := Lib.hid hx
      have HXM := Lib.hid (List.mem_of_getElem? hx)
      have hxl := HNX.out x HXM.out
      have HNO := Lib.hid (show ¬ OkB G.length e x → ∀ z, ¬ okL G.length 0 G z from fun h => okL.no hx HOK.out h)
      have FALSE := Lib.hid (show ¬ OkB G.length e x → ¬ ValidG G P from fun h1 h2 => by obtain ⟨z, hz⟩ := h2.ok; exact HNO.out h1 z hz)
      have dl : decide ((k : Int) < (G.length : Int)) = true := decide_eq_true (by omega)
      have he0 := okL_le HOK.out
      have hbw : b < wr.heap.size := by omega
      clear hx hI HNO
      have hpv := okL_prev hk HOK.out
      by_cases q3 : x.lo < 0
      · have d3 : decide (x.lo < 0) = true := decide_eq_true q3
        have HQ := Lib.hid (FALSE.out (fun h => by have := h.lo; omega))
        clear q3 hpv
        go_upto_region 6 with fail
        refine wp_region_ext (by kernel_rfl) (by kernel_rfl) ?_
        repeat (go_big_quiet_step (fail))
        refine wpQuiet_nil ?_
        rintro _ ⟨y, rfl⟩
        go_wp2_with fail
        go_ret
        exact ⟨⟨false, rfl, by simp; exact HQ.out⟩, Ext.below BW.out sB y⟩
      have d3 : decide (x.lo < 0) = false := decide_eq_false q3
      by_cases q4 : x.hi ≤ x.lo
      · have d4 : decide (x.hi ≤ x.lo) = true := decide_eq_true q4
        have HQ := Lib.hid (FALSE.out (fun h => by have := h.hi; omega))
        clear q3 q4 hpv
        go_upto_region 6 with fail
        refine wp_region_ext (by kernel_rfl) (by kernel_rfl) ?_
        repeat (go_big_quiet_step (fail))
        refine wpQuiet_nil ?_
        rintro _ ⟨y, rfl⟩
        go_wp2_with fail
        go_ret
        exact ⟨⟨false, rfl, by simp; exact HQ.out⟩, Ext.below BW.out sB y⟩
      have d4 : decide (x.hi ≤ x.lo) = false := decide_eq_false q4
      have CUT := Lib.hid (show (k = 0 ∧ e = 0) ∨ (0 < k ∧ ∃ y, (G[k - 1]? = some y ∧ e = y.hi) ∧ wr.cell? ⟨b, off + (k - 1) * 3 + 1, none⟩ = some (.int .i64 y.hi)) from by
        rcases hpv with h | ⟨h1, y, h2, h3⟩
        · exact .inl h
        · refine .inr ⟨h1, y, ⟨h2, h3⟩, ?_⟩
          obtain ⟨x', nv', b', off', hx', hA', hbl', c0', c1', c2', hI'⟩ := HGH.out.at_ BW.out (j := k - 1) (by omega)
          cases hA'
          rw [h2] at hx'
          cases hx'
          exact c1')
      clear hpv
      go_upto_region 6 with fail
      by_cases q6 : e ≤ x.lo
      case neg =>
        have HQ := Lib.hid (FALSE.out (fun h => q6 h.lo))
        rcases CUT.out with ⟨h1, h2⟩ | ⟨h1, y', ⟨h2, h3⟩, h4⟩
        · omega
        have d5 : decide (0 < (k : Int)) = true := decide_eq_true (by omega)
        have d5' : decide (0 < k) = true := decide_eq_true (by omega)
        have wk : IntKind.i64.wrap ((k : Int) - 1) = ((k - 1 : Nat) : Int) := by rw [IntWalk.i64_in _ (by omega)]; omega
        have d6 : decide (x.lo < y'.hi) = true := decide_eq_true (by omega)
        have i6 : k - 1 < G.length := by omega
        clear q6 h2 h3 q3 q4
        refine wp_region_ext (by kernel_rfl) (by kernel_rfl) ?_
        repeat (go_big_quiet_step (fail))
        refine wpQuiet_nil ?_
        rintro _ ⟨y, rfl⟩
        go_wp2_with fail
        go_ret
        exact ⟨⟨false, rfl, by simp; exact HQ.out⟩, Ext.below BW.out sB y⟩
      by_cases q5 : x.nx.length ≤ 2
      case neg =>
        have d7 : decide ((2 : Int) < (x.nx.length : Int)) = true := decide_eq_true (by omega)
        have HQ := Lib.hid (FALSE.out (fun h => q5 h.two))
        rcases CUT.out with ⟨h1, h2⟩ | ⟨h1, y', ⟨h2, h3⟩, h4⟩
        · have d5 : decide (0 < (k : Int)) = false := decide_eq_false (by omega)
          have d5' : decide (0 < k) = false := decide_eq_false (by omega)
          have HK := Lib.hid (And.intro h1 h2)
          clear q6 h1 h2 q3 q4 q5
          refine wp_region_ext (by kernel_rfl) (by kernel_rfl) ?_
          repeat (go_big_quiet_step (fail))
          refine wpQuiet_nil ?_
          rintro _ ⟨y, rfl⟩
          go_wp2_with fail
          go_ret
          exact ⟨⟨false, rfl, by simp; exact HQ.out⟩, Ext.below BW.out sB y⟩
        · have d5 : decide (0 < (k : Int)) = true := decide_eq_true (by omega)
          have d5' : decide (0 < k) = true := decide_eq_true (by omega)
          have wk : IntKind.i64.wrap ((k : Int) - 1) = ((k - 1 : Nat) : Int) := by rw [IntWalk.i64_in _ (by omega)]; omega
          have d6 : decide (x.lo < y'.hi) = false := decide_eq_false (by omega)
          have i6 : k - 1 < G.length := by omega
          clear q6 h2 h3 q3 q4 q5
          refine wp_region_ext (by kernel_rfl) (by kernel_rfl) ?_
          repeat (go_big_quiet_step (fail))
          refine wpQuiet_nil ?_
          rintro _ ⟨y, rfl⟩
          go_wp2_with fail
          go_ret
          exact ⟨⟨false, rfl, by simp; exact HQ.out⟩, Ext.below BW.out sB y⟩
      have d7 : decide ((2 : Int) < (x.nx.length : Int)) = false := decide_eq_false (by omega)
      have HQ345 := Lib.hid (show e ≤ x.lo ∧ x.lo < x.hi ∧ x.nx.length ≤ 2 from ⟨q6, by omega, q5⟩)
      go_cut [70] from 25 to 69 (fun a70 wx => a70 = .bool false ∧ Below w.heap.size w wx)
      case first =>
        rcases CUT.out with ⟨h1, h2⟩ | ⟨h1, y', ⟨h2, h3⟩, h4⟩
        · have d5 : decide (0 < (k : Int)) = false := decide_eq_false (by omega)
          have d5' : decide (0 < k) = false := decide_eq_false (by omega)
          have HK := Lib.hid (And.intro h1 h2)
          clear q6 h1 h2 q3 q4 q5
          refine wp_region_ext (by kernel_rfl) (by kernel_rfl) ?_
          repeat (go_big_quiet_step (fail))
          refine wpQuiet_nil ?_
          rintro _ ⟨y, rfl⟩
          go_wp2_with fail
          go_meet
          case rel => exact ⟨rfl, Ext.below BW.out sB y⟩
        · have d5 : decide (0 < (k : Int)) = true := decide_eq_true (by omega)
          have d5' : decide (0 < k) = true := decide_eq_true (by omega)
          have wk : IntKind.i64.wrap ((k : Int) - 1) = ((k - 1 : Nat) : Int) := by rw [IntWalk.i64_in _ (by omega)]; omega
          have d6 : decide (x.lo < y'.hi) = false := decide_eq_false (by omega)
          have i6 : k - 1 < G.length := by omega
          clear q6 h2 h3 q3 q4 q5
          refine wp_region_ext (by kernel_rfl) (by kernel_rfl) ?_
          repeat (go_big_quiet_step (fail))
          refine wpQuiet_nil ?_
          rintro _ ⟨y, rfl⟩
          go_wp2_with fail
          go_meet
          case rel => exact ⟨rfl, Ext.below BW.out sB y⟩
      case rest =>
        obtain ⟨rfl, hBc⟩ := hcut
        have HBc := Lib.hid hBc
        have cw : w.cell? ⟨b, off + k * 3 + 2, none⟩ = some (.slice NA x.nx.length ncap) := by rw [← BW.out.cell (p := ⟨b, off + k * 3 + 2, none⟩) hbl]; exact c2
        have CW := Lib.hid cw
        clear hBc cw c0 c1 c2 d3 d4 d7 q3 q4 q6 CUT BW hbw sB
        go_upto_region 9 with fail
        go_loopw [6] (fun a6 wr => ∃ j : Nat, j ≤ x.nx.length ∧ a6 = .int .i64 (j : Int) ∧ (∀ t ∈ x.nx.take j, 0 ≤ t ∧ t < (G.length : Int)) ∧ (∀ i, 0 < i → i < j → x.nx.getD i 0 ≠ x.nx.getD 0 0) ∧ Below w.heap.size w wr) (fun a6 _ => x.nx.length - (intOf a6).toNat)
        case atStart => exact ⟨0, Nat.zero_le _, rfl, by simp, fun i h1 h2 => by omega, HBc.out⟩
        case round =>
          obtain ⟨j, hj, rfl, hin, hdi, hb⟩ := hrel
          have HIN := Lib.hid hin
          have HDI := Lib.hid hdi
          have BX := Lib.hid hb
          have sX := hb.size
          have c2 : wr.cell? ⟨b, off + k * 3 + 2, none⟩ = some (.slice NA x.nx.length ncap) := by rw [hb.cell (p := ⟨b, off + k * 3 + 2, none⟩) hbl]; exact CW.out
          have hbx : b < wr.heap.size := by omega
          clear hin hdi hb dl HBc
          by_cases hjl : j < x.nx.length
          · obtain ⟨s, nb, noff, hs, rfl, hnb, x1⟩ := HI.out.at_ BX.out hjl
            obtain ⟨z, nb', noff', hz, hA', _, x0⟩ := HI.out.at_ BX.out (j := 0) (by omega)
            cases hA'
            rw [Nat.add_zero] at x0
            have hnx' : nb < wr.heap.size := by omega
            have HS := Lib.hid (take_snoc hs)
            have HSM := Lib.hid (List.mem_of_getElem? hs)
            have HSJ := Lib.hid (show x.nx.getD j 0 = s by simp [List.getD, hs])
            have HSZ := Lib.hid (show x.nx.getD 0 0 = z by simp [List.getD, hz])
            have dl2 : decide ((j : Int) < (x.nx.length : Int)) = true := decide_eq_true (by omega)
            have i0 : (0 : Int) < (x.nx.length : Int) := by omega
            clear hs hz
            by_cases r1 : s < 0
            · have e1 : decide (s < 0) = true := decide_eq_true r1
              have HQ := Lib.hid (FALSE.out (fun h => by have := (h.nx s HSM.out).1; omega))
              clear r1
              go_upto_region 11 with fail
              refine wp_region_ext (by kernel_rfl) (by kernel_rfl) ?_
              repeat (go_big_quiet_step (fail))
              refine wpQuiet_nil ?_
              rintro _ ⟨y, rfl⟩
              go_wp2_with fail
              go_ret
              exact ⟨⟨false, rfl, by simp; exact HQ.out⟩, Ext.below BX.out sX y⟩
            have e1 : decide (s < 0) = false := decide_eq_false r1
            by_cases r2 : (G.length : Int) ≤ s
            · have e2 : decide ((G.length : Int) ≤ s) = true := decide_eq_true r2
              have HQ := Lib.hid (FALSE.out (fun h => by have := (h.nx s HSM.out).2; omega))
              clear r1 r2
              go_upto_region 11 with fail
              refine wp_region_ext (by kernel_rfl) (by kernel_rfl) ?_
              repeat (go_big_quiet_step (fail))
              refine wpQuiet_nil ?_
              rintro _ ⟨y, rfl⟩
              go_wp2_with fail
              go_ret
              exact ⟨⟨false, rfl, by simp; exact HQ.out⟩, Ext.below BX.out sX y⟩
            have e2 : decide ((G.length : Int) ≤ s) = false := decide_eq_false r2
            have HSR := Lib.hid (show 0 ≤ s ∧ s < (G.length : Int) from ⟨by omega, by omega⟩)
            clear r1 r2
            by_cases r3 : 0 < j
            · have e3 : decide (0 < (j : Int)) = true := decide_eq_true (by omega)
              have e3' : decide (0 < j) = true := decide_eq_true r3
              by_cases r4 : s = z
              · have e4 : (s == z) = true := by simp [r4]
                have HQ := Lib.hid (FALSE.out (fun h => h.ne ⟨by omega, by
                  have hj1 : j = 1 := by omega
                  rw [HSZ.out, ← r4, ← HSJ.out, hj1]⟩))
                clear r4
                go_upto_region 11 with fail
                refine wp_region_ext (by kernel_rfl) (by kernel_rfl) ?_
                repeat (go_big_quiet_step (fail))
                refine wpQuiet_nil ?_
                rintro _ ⟨y, rfl⟩
                go_wp2_with fail
                go_ret
                exact ⟨⟨false, rfl, by simp; exact HQ.out⟩, Ext.below BX.out sX y⟩
              · have e4 : (s == z) = false := by simp [r4]
                have HNE := Lib.hid (show 0 < j → x.nx.getD j 0 ≠ x.nx.getD 0 0 from fun _ => by rw [HSJ.out, HSZ.out]; exact r4)
                clear r4
                go_upto_region 11 with fail
                refine wp_region_ext (by kernel_rfl) (by kernel_rfl) ?_
                repeat (go_big_quiet_step (fail))
                refine wpQuiet_nil ?_
                rintro _ ⟨y, rfl⟩
                go_wp2_with fail
                go_roundw
                case rel =>
                  refine ⟨j + 1, by omega, by go_num, fun t ht => ?_, fun i hi1 hi2 => ?_, Ext.below BX.out sX y⟩
                  · rw [HS.out] at ht
                    rcases List.mem_append.1 ht with h | h
                    · exact HIN.out t h
                    · simp at h; rw [h]; exact HSR.out
                  · by_cases e' : i = j
                    · rw [e']; exact HNE.out (by omega)
                    · exact HDI.out i hi1 (by omega)
                case measure => simp [intOf]; omega
            · have e3 : decide (0 < (j : Int)) = false := decide_eq_false (by omega)
              have e3' : decide (0 < j) = false := decide_eq_false r3
              have HNE := Lib.hid (show 0 < j → x.nx.getD j 0 ≠ x.nx.getD 0 0 from fun h => absurd h r3)
              have HJ0 := Lib.hid r3
              clear r3
              go_upto_region 11 with fail
              refine wp_region_ext (by kernel_rfl) (by kernel_rfl) ?_
              repeat (go_big_quiet_step (fail))
              refine wpQuiet_nil ?_
              rintro _ ⟨y, rfl⟩
              go_wp2_with fail
              go_roundw
              case rel =>
                refine ⟨j + 1, by omega, by go_num, fun t ht => ?_, fun i hi1 hi2 => ?_, Ext.below BX.out sX y⟩
                · rw [HS.out] at ht
                  rcases List.mem_append.1 ht with h | h
                  · exact HIN.out t h
                  · simp at h; rw [h]; exact HSR.out
                · by_cases e' : i = j
                  · rw [e']; exact HNE.out (by omega)
                  · exact HDI.out i hi1 (by omega)
              case measure => simp [intOf]; omega
          · obtain rfl : j = x.nx.length := by omega
            have dl2 : decide ((x.nx.length : Int) < (x.nx.length : Int)) = false := by simp
            rw [List.take_length] at HIN
            have HOKB := Lib.hid (show OkB G.length e x from ⟨HQ345.out.1, HQ345.out.2.1, HQ345.out.2.2, HIN.out, fun h => HDI.out 1 (by omega) (by omega) h.2.symm⟩)
            go_wp2_with fail
            go_roundw
            case rel => exact ⟨k + 1, x.hi, by omega, by go_num, by rw [take_snoc HX.out]; exact HOK.out.snoc HOKB.out, BX.out⟩
            case measure => simp [intOf]; omega
    · obtain rfl : k = G.length := by omega
      have dl : decide ((G.length : Int) < (G.length : Int)) = false := by simp
      rw [List.take_length] at HOK
      have HPC := Lib.hid (HPR.out wr (HGH.out.below BW.out) (okL_all HOK.out))
      obtain ⟨Pw, hPw⟩ : ∃ Pw, (List.range G.length).map (prvAt G G.length []) = Pw := ⟨_, rfl⟩
      have hPl : Pw.length = G.length := by rw [← hPw]; simp
      rw [hPw] at HPC
      have HPW := Lib.hid hPw
      have HPL := Lib.hid hPl
      clear hPw hPl
      go_upto_region 15 with (go_at_call 46; refine HPC.out.mono ?_; rintro e' W5 ⟨⟨wv, rfl, hwv⟩, hb5⟩)
      obtain ⟨WA, wcap, rfl, hw1, hw2⟩ := hwv.slice
      have HWV := Lib.hid hwv
      have B5 := Lib.hid (BW.out.trans (hb5.mono sB))
      have s5 := B5.out.size
      clear hwv hb5 dl
      go_loopw [8] (fun a8 wr => ∃ j : Nat, j ≤ G.length ∧ a8 = .int .i64 (j : Int) ∧ P.take j = Pw.take j ∧ Below W5.heap.size W5 wr) (fun a8 _ => G.length - (intOf a8).toNat)
      case atStart => exact ⟨0, Nat.zero_le _, rfl, by simp, Below.refl _ _⟩
      case round =>
        obtain ⟨j, hj, rfl, htk, hb⟩ := hrel
        have HTK := Lib.hid htk
        have BX := Lib.hid hb
        have BV := Lib.hid (B5.out.trans (hb.mono s5))
        have sX := hb.size
        clear htk hb
        by_cases hjl : j < G.length
        · have hjP : j < P.length := by have := HQ2.out; omega
          have hjW : j < Pw.length := by have := HPL.out; omega
          obtain ⟨l1, n1, b1, o1, g1, rfl, hb1, x1, hI1⟩ := HPH.out.at_ BV.out hjP
          obtain ⟨l2, n2, b2, o2, g2, rfl, hb2, x2, hI2⟩ := HWV.out.at_ BX.out hjW
          have HG1 := Lib.hid g1
          have HG2 := Lib.hid g2
          have dl : decide ((j : Int) < (G.length : Int)) = true := decide_eq_true (by omega)
          have hb1' : b1 < wr.heap.size := by omega
          have hb2' : b2 < wr.heap.size := by omega
          have HSM := Lib.hid (show ∀ y : Ext wr, Calls Tryd.prog 52 #[n1, n2] y.w fun e w' => e = .returned (.bool (decide (l1 = l2))) ∧ Below y.w.heap.size y.w w' from fun y => same_any n1 n2 l1 l2 y.w (hI1.below y.h) (hI2.below y.h))
          have j1 : j < P.length := hjP
          have j2 : j < Pw.length := hjW
          clear g1 g2 hI1 hI2
          by_cases q : l1 = l2
          · rw [decide_eq_true q] at HSM
            have HQ := Lib.hid q
            clear q
            go_upto_region 17 with fail
            refine wp_region_ext (by kernel_rfl) (by kernel_rfl) ?_
            repeat (go_big_quiet_step ((go_at_call 52; exact Calls.extq (HSM.out _))))
            refine wpQuiet_nil ?_
            rintro _ ⟨y, rfl⟩
            go_wp2_with fail
            go_roundw
            case rel => exact ⟨j + 1, by omega, by go_num, by rw [take_snoc HG1.out, take_snoc HG2.out, HTK.out, HQ.out], Ext.below BX.out sX y⟩
            case measure => simp [intOf]; omega
          · rw [decide_eq_false q] at HSM
            have HQ := Lib.hid q
            clear q
            go_upto_region 17 with fail
            refine wp_region_ext (by kernel_rfl) (by kernel_rfl) ?_
            repeat (go_big_quiet_step ((go_at_call 52; exact Calls.extq (HSM.out _))))
            refine wpQuiet_nil ?_
            rintro _ ⟨y, rfl⟩
            go_wp2_with fail
            go_ret
            refine ⟨⟨false, rfl, by
              simp
              intro h
              have hp := h.prev
              rw [HPW.out] at hp
              rw [hp] at HG2
              have h1 := HG1.out
              rw [HG2.out] at h1
              exact HQ.out (Option.some.inj h1).symm⟩, Ext.below BV.out BV.out.size y⟩
        · obtain rfl : j = G.length := by omega
          have dl : decide ((G.length : Int) < (G.length : Int)) = false := by simp
          have hPP : Pw = P := by
            have h := HTK.out
            rw [List.take_of_length_le (by have := HQ2.out; omega), List.take_of_length_le (by have := HPL.out; omega)] at h
            exact h.symm
          have HPP := Lib.hid hPP
          clear hPP
          go_wp2_with fail
          go_ret
          exact ⟨⟨true, rfl, by simp; exact ⟨fun e => HQ1.out (by rw [e]; rfl), HQ2.out, ⟨_, HOK.out⟩, by rw [HPW.out]; exact HPP.out⟩⟩, BV.out⟩

end Go.Proofs.YtfceodpdipniaaaDoor
