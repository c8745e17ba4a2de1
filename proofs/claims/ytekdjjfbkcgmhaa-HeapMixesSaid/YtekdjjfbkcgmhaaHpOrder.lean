/-
  What is proved here: what (*Heap).order does (instance Item): the items in a heap's order.
-/
import Derived.Test.YtekdjjfbkcgmhaaHpState
import Derived.Test.YtekdjjfbkcgmhaaHpSift
namespace Go.Proofs.Ytekdjjfbkcgmhaa
open Go.RowKit Hp
set_option linter.unusedVariables false
set_option linter.unusedSimpArgs false

/-- What lies in memory while order runs. -/
structure Oi (w wx : World) (B hb g cap : Nat) (fid : FuncId) (M : List It) (nx : Int) (xb : Nat) (x : It) : Prop where
  hp : HpAt wx B hb fid (.slice (some ⟨g, 0, none⟩) M.length cap) M nx
  bx : wx.heap[xb]? = some (.cells #[.int .i64 x.key, .int .i64 x.name, .int .i64 x.ord] 67 (0, 0))
  ne : xb ≠ g
  tch : Touch hb (some g) w wx
section
variable {w wx W : World} {B hb g cap : Nat} {fid : FuncId} {M : List It} {nx : Int} {xb : Nat} {x : It}
theorem Oi.later (P : Oi w wx B hb g cap fid M nx xb x) (h : Below wx.heap.size wx W) : Oi w W B hb g cap fid M nx xb x :=
  ⟨P.hp.ext ⟨W, h⟩, ext_block ⟨W, h⟩ P.bx, P.ne, P.tch.trans (Touch.of_below (hb := hb) (some g) h) (Same_or_new.refl _ _)⟩
theorem Oi.put (P : Oi w wx B hb g cap fid M nx xb x) (i : Nat) (y : It) : Oi w (put3 wx g i y) B hb g cap fid (M.set i y) nx xb x := by
  obtain ⟨h1, h2⟩ := P.hp.put i y
  refine ⟨by rw [List.length_set]; exact h1, ?_, P.ne, P.tch.trans (Touch.of_grown h2) (Same_or_new.refl _ _)⟩
  rw [h2.block _ (lt_of_block P.bx) (fun e => P.ne (by simpa using e))]
  exact P.bx
theorem Oi.at (P : Oi w wx B hb g cap fid M nx xb x) (i : Nat) (hi : i < M.length) :
    wx.cell? ⟨g, i * 3, none⟩ = some (.int .i64 (at_ M i).key) ∧ wx.cell? ⟨g, i * 3 + 1, none⟩ = some (.int .i64 (at_ M i).name) ∧ wx.cell? ⟨g, i * 3 + 2, none⟩ = some (.int .i64 (at_ M i).ord) ∧
    wx.frozen? ⟨g, i * 3, none⟩ = false ∧ wx.frozen? ⟨g, i * 3 + 1, none⟩ = false ∧ wx.frozen? ⟨g, i * 3 + 2, none⟩ = false ∧ g < wx.heap.size := by
  obtain ⟨g', cap', hv, _, hs, _, _, ⟨cur, hc, _⟩, hat⟩ := own_items P.hp.row (by omega)
  simp only [Value.slice.injEq, Option.some.injEq, Addr.mk.injEq, true_and, and_true] at hv
  obtain ⟨rfl, rfl⟩ := hv
  obtain ⟨a1, a2, a3⟩ := hat i hi
  refine ⟨a1, a2, a3, ?_, ?_, ?_, hs⟩ <;> simp [World.frozen?, hc]
theorem Oi.cells (P : Oi w wx B hb g cap fid M nx xb x) :
    wx.cell? ⟨xb, 0, none⟩ = some (.int .i64 x.key) ∧ wx.cell? ⟨xb, 1, none⟩ = some (.int .i64 x.name) ∧ wx.cell? ⟨xb, 2, none⟩ = some (.int .i64 x.ord) ∧ xb < wx.heap.size := by
  refine ⟨?_, ?_, ?_, lt_of_block P.bx⟩ <;> simp [World.cell?, P.bx]
end

def RetOrder (ls : Int → Int → Int → Int → Bool) (L : List It) (nx : Int) (B hb : Nat) (fid : FuncId) (v : Value) (w : World) (e : Ending) (w' : World) : Prop :=
  e = .returned (.tuple #[]) ∧ ∃ L', HpAt w' B hb fid v L' nx ∧ L'.Perm L ∧ Hp.Heap (bfr ls) L' ∧ Touch hb v.ownBlock w w'
set_option maxRecDepth 100000 in
set_option maxHeartbeats 4000000 in
theorem order_any (hb : Nat) (fid : FuncId) (ls : Int → Int → Int → Int → Bool) (HL : Less fid ls) (o : Hp.Ord (bfr ls)) (L : List It) (hlen : L.length ≤ 1000000) (B : Nat) (v : Value) (nx : Int) (w : World) (H : HpAt w B hb fid v L nx) :
    Calls Try.prog 47 #[.pointer (some ⟨hb, 0, none⟩)] w (RetOrder ls L nx B hb fid v w) := by
  obtain ⟨h1, h2, h3, h4, h5, h6⟩ := H.cells
  obtain ⟨av, cap, rfl⟩ := own_len H.row
  have HH := Lib.hid H
  have HOR := Lib.hid o
  clear H o
  obtain ⟨n, hn⟩ : ∃ n, L.length = n := ⟨_, rfl⟩
  have HN := Lib.hid hn
  rw [hn] at h2 hlen
  obtain ⟨q, hq⟩ : ∃ q, n / 2 = q := ⟨_, rfl⟩
  have hq' : (n : Int) / 2 = (q : Int) := by omega
  have hqn : q ≤ 1000000 := by omega
  have HQ := Lib.hid hq
  have HQ' := Lib.hid hq'
  clear hn hq hq'
  go_enter Try.func47, Try.ntmps47
  go_wp2_with fail
  rw [HQ'.out]
  go_loopg [2, 3, 4, 5] q (fun gk tp a3 a4 a5 wr => ∃ M : List It, tp = .int .i64 ((gk : Int) - 1) ∧ gk ≤ q ∧ M.Perm L ∧ HeapFrom (bfr ls) gk M ∧ HpAt wr B hb fid (.slice av n cap) M nx ∧ Touch hb (Value.ownBlock (.slice av n cap)) w wr)
  case atStart => exact ⟨L, rfl, Nat.le_refl _, .refl _, by rw [← HQ.out, ← HN.out]; exact heapFrom_half L, by rw [← HN.out]; exact HH.out, Touch.refl _ _ _⟩
  case round =>
    clear h1 h2 h3 h4 h5
    obtain ⟨M, rfl, hgk, hperm, hfrom, hp, ht⟩ := hrel
    have hM := hperm.length_eq
    rw [HN.out] at hM
    have HPe := Lib.hid hperm
    have HFr := Lib.hid hfrom
    have HP := Lib.hid hp
    have HT := Lib.hid ht
    have HM := Lib.hid hM
    clear hperm hfrom hp ht hM
    by_cases h0 : gk = 0
    · subst h0
      go_wp2_with fail
      go_end0
      exact ⟨rfl, M, by rw [HN.out]; exact HP.out, HPe.out, heapFrom_zero HFr.out, by rw [HN.out]; exact HT.out⟩
    · obtain ⟨t, ht⟩ : ∃ t, gk = t + 1 := ⟨gk - 1, by omega⟩
      subst ht
      have e1 : ((t + 1 : Nat) : Int) - 1 = (t : Int) := by omega
      rw [e1]
      clear e1 h0
      have htn : t < n := by have := HQ.out; omega
      obtain ⟨h1, h2, h3, h4, h5, h6'⟩ := HP.out.cells
      rw [← HM.out] at HP
      obtain ⟨g, cap', hv, _, hgs, _, _, _, hcs⟩ := own_items HP.out.row (by rw [HM.out]; omega)
      simp only [Value.slice.injEq, true_and] at hv
      obtain ⟨rfl, rfl⟩ := hv
      obtain ⟨f1, f2, f3⟩ := hcs t (by rw [HM.out]; exact htn)
      clear hcs
      obtain ⟨x, hx⟩ : ∃ x, at_ M t = x := ⟨_, rfl⟩
      rw [hx] at f1 f2 f3
      have HX := Lib.hid hx
      clear hx
      obtain ⟨wo, rfl⟩ : ∃ wo : World, wo = wr := ⟨_, rfl⟩
      have OI : Oi w (wo.alloc (Obj.cells #[.int .i64 x.key, .int .i64 x.name, .int .i64 x.ord] 67)) B hb g cap fid M nx wo.heap.size x :=
        ⟨HP.out.alloc _, alloc_new _ _, by omega, HT.out.trans (Touch.of_below (hb := hb) (some g) ((Below.refl _ _).alloc (Nat.le_refl _) _)) (Same_or_new.refl _ _)⟩
      have HOI := Lib.hid OI
      clear OI
      go_upto_block 2 with fail
      clear h1 h2 h3 h4 h5 f1 f2 f3
      go_cut [4] from 13 to 95 (fun a wx => ∃ k : Nat, EndsT (bfr ls) M t k ∧ a = .int .i64 (dt (bfr ls) M t k) ∧ Oi w wx B hb g cap fid (shT (bfr ls) M t k) nx wo.heap.size x)
      case first =>
        go_wp2_with fail
        go_loopg [4, 5] n (fun gi a d wi => ∃ k : Nat, gi + k = n ∧ SinksT (bfr ls) M t k ∧ a = .int .i64 (dt (bfr ls) M t k) ∧ Oi w wi B hb g cap fid (shT (bfr ls) M t k) nx wo.heap.size x)
        case atStart => exact ⟨0, rfl, fun i hi => by omega, rfl, HOI.out⟩
        case round =>
          obtain ⟨k, hgi, hS, rfl, P⟩ := hrel
          have hbd := dt_bound hS (by rw [HM.out]; exact htn) k (Nat.le_refl _)
          have hkn := sinksT_le hS (by rw [HM.out]; exact htn)
          rw [HM.out] at hbd hkn
          have HS := Lib.hid hS
          have HPi := Lib.hid P
          obtain ⟨x1, x2, x3, x4⟩ := P.cells
          obtain ⟨h1, h2, h3, h4, h5, h6''⟩ := P.hp.cells
          rw [shT_length, HM.out] at h2
          have CH := Lib.hid (cho_cases (bfr ls) M n (dt (bfr ls) M t k))
          have DS := Lib.hid (show dt (bfr ls) M t (k + 1) = cho (bfr ls) M n (dt (bfr ls) M t k) from by rw [← HM.out]; rfl)
          have AT := Lib.hid (show ∀ c, dt (bfr ls) M t k < c → c < n → wr.cell? ⟨g, c * 3, none⟩ = some (.int .i64 (at_ M c).key) ∧ wr.cell? ⟨g, c * 3 + 1, none⟩ = some (.int .i64 (at_ M c).name) ∧ wr.cell? ⟨g, c * 3 + 2, none⟩ = some (.int .i64 (at_ M c).ord) from fun c h1 h2 => by
            obtain ⟨a1, a2, a3, _⟩ := HPi.out.at c (by rw [shT_length, HM.out]; exact h2)
            rw [shT_below k c h1] at a1 a2 a3
            exact ⟨a1, a2, a3⟩)
          obtain ⟨f1, f2, f3, f4, f5, f6, hgw⟩ := P.at (dt (bfr ls) M t k) (by rw [shT_length, HM.out]; exact hbd)
          clear P hS h3 h4 h5
          obtain ⟨a, ha⟩ : ∃ a, dt (bfr ls) M t k = a := ⟨_, rfl⟩
          rw [ha] at hbd CH DS AT f1 f2 f3 f4 f5 f6 ⊢
          have HA := Lib.hid ha
          clear ha
          by_cases c0 : n ≤ 2 * a + 1
          · have d0 : (n : Int) ≤ 2 * (a : Int) + 1 := by omega
            have d0' := decide_eq_true d0
            go_wp2_with fail
            go_meet
            exact ⟨k, ⟨HS.out, .inl (by rw [HA.out, HM.out]; exact c0)⟩, by rw [HA.out], HPi.out⟩
          · have d0 : ¬ (n : Int) ≤ 2 * (a : Int) + 1 := by omega
            obtain ⟨p1, p2, p3⟩ := AT.out (2 * a + 1) (by omega) (by omega)
            by_cases c1 : 2 * a + 2 < n
            · have d1 : decide (2 * (a : Int) + 1 + 1 < (n : Int)) = true := by simp; omega
              obtain ⟨q1, q2, q3⟩ := AT.out (2 * a + 1 + 1) (by omega) (by omega)
              cases ct : bfr ls (at_ M (2 * a + 1 + 1)) (at_ M (2 * a + 1))
              · have hd : cho (bfr ls) M n a = 2 * a + 1 := by rcases CH.out with h | h; exact h.1; rw [h.2.2] at ct; cases ct
                have DE := Lib.hid (DS.out.trans hd)
                have CT := Lib.hid ct
                clear ct
                clear CH DS hd AT
                cases cb : bfr ls (at_ M (2 * a + 1)) x
                · have CB := Lib.hid cb
                  clear cb
                  go_wp2_with fail
                  refine wp_region_ext (by kernel_rfl) (by kernel_rfl) ?_
                  repeat (go_big_quiet_step ((go_at_call 38; exact Calls.extq (lit_of (before_any hb fid ls HL (at_ M (2 * a + 1 + 1)) (at_ M (2 * a + 1)) _ (by simp [go_sem, *]) (by simp [go_sem, *])) CT.out))))
                  refine wpQuiet_nil ?_
                  rintro _ ⟨y0, rfl⟩
                  go_wp2_with fail
                  refine wp_region_extq (by kernel_rfl) (by kernel_rfl) ?_
                  repeat (go_big_quiet_step ((go_at_call 38; exact Calls.extq (lit_of (before_any hb fid ls HL (at_ M (2 * a + 1)) x _ (by simp [go_sem, *]) (by simp [go_sem, *])) CB.out))))
                  refine wpQuiet_nil ?_
                  rintro _ ⟨y, rfl⟩
                  go_wp2_with fail
                  go_meet
                  exact ⟨k, ⟨HS.out, .inr (by rw [DE.out, HX.out]; exact CB.out)⟩, by rw [HA.out], HPi.out.later y.h⟩
                · have CB := Lib.hid cb
                  clear cb
                  go_wp2_with fail
                  refine wp_region_ext (by kernel_rfl) (by kernel_rfl) ?_
                  repeat (go_big_quiet_step ((go_at_call 38; exact Calls.extq (lit_of (before_any hb fid ls HL (at_ M (2 * a + 1 + 1)) (at_ M (2 * a + 1)) _ (by simp [go_sem, *]) (by simp [go_sem, *])) CT.out))))
                  refine wpQuiet_nil ?_
                  rintro _ ⟨y0, rfl⟩
                  go_wp2_with fail
                  refine wp_region_extq (by kernel_rfl) (by kernel_rfl) ?_
                  repeat (go_big_quiet_step ((go_at_call 38; exact Calls.extq (lit_of (before_any hb fid ls HL (at_ M (2 * a + 1)) x _ (by simp [go_sem, *]) (by simp [go_sem, *])) CB.out))))
                  refine wpQuiet_nil ?_
                  rintro _ ⟨y, rfl⟩
                  obtain ⟨V, hV⟩ : ∃ V, y.w = V := ⟨_, rfl⟩
                  have hyb := y.h
                  rw [hV] at hyb ⊢
                  have PV := HPi.out.later hyb
                  clear hV h1 h2 x1 x2 x3 x4 f1 f2 f3 f4 f5 f6 p1 p2 p3 q1 q2 q3
                  obtain ⟨h1, h2, _, _, _, h7⟩ := PV.hp.cells
                  rw [shT_length, HM.out] at h2
                  obtain ⟨p1, p2, p3, _⟩ := PV.at (2 * a + 1) (by rw [shT_length, HM.out]; omega)
                  rw [shT_below k _ (by rw [HA.out]; omega)] at p1 p2 p3
                  obtain ⟨f1, f2, f3, f4, f5, f6, _⟩ := PV.at a (by rw [shT_length, HM.out]; omega)
                  have HPV := Lib.hid PV
                  clear PV
                  have ca : a < n := by omega
                  have cb : 2 * a + 1 < n := by omega
                  go_wp2_with fail
                  refine wp_region_ext_tail 13 (by kernel_rfl) (by kernel_rfl) ?_
                  simp only [List.take_succ_cons, List.take_zero, List.drop_succ_cons, List.drop_zero]
                  repeat (go_big_quiet_step (fail))
                  refine wpQuiet_nil ?_
                  rintro _ ⟨y1, rfl⟩
                  go_wp2_with fail
                  go_roundg (gk - 1)
                  case measure => omega
                  case rel =>
                    have hsu : shT (bfr ls) M t (k + 1) = (shT (bfr ls) M t k).set a (at_ M (2 * a + 1)) := by rw [← DE.out, ← HA.out]; rfl
                    refine ⟨k + 1, by omega, fun i hi => ?_, by rw [DE.out]; go_num, by rw [hsu]; exact (HPV.out.later y1.h).put a (at_ M (2 * a + 1))⟩
                    by_cases e : i = k
                    · subst e; rw [DE.out, HX.out, HM.out]; exact ⟨by omega, CB.out⟩
                    · exact HS.out i (by omega)
              · have hd : cho (bfr ls) M n a = 2 * a + 1 + 1 := by rcases CH.out with h | h; rw [h.2 c1] at ct; cases ct; exact h.1
                have DE := Lib.hid (DS.out.trans hd)
                have CT := Lib.hid ct
                clear ct
                clear CH DS hd AT
                cases cb : bfr ls (at_ M (2 * a + 1 + 1)) x
                · have CB := Lib.hid cb
                  clear cb
                  go_wp2_with fail
                  refine wp_region_ext (by kernel_rfl) (by kernel_rfl) ?_
                  repeat (go_big_quiet_step ((go_at_call 38; exact Calls.extq (lit_of (before_any hb fid ls HL (at_ M (2 * a + 1 + 1)) (at_ M (2 * a + 1)) _ (by simp [go_sem, *]) (by simp [go_sem, *])) CT.out))))
                  refine wpQuiet_nil ?_
                  rintro _ ⟨y0, rfl⟩
                  go_wp2_with fail
                  refine wp_region_extq (by kernel_rfl) (by kernel_rfl) ?_
                  repeat (go_big_quiet_step ((go_at_call 38; exact Calls.extq (lit_of (before_any hb fid ls HL (at_ M (2 * a + 1 + 1)) x _ (by simp [go_sem, *]) (by simp [go_sem, *])) CB.out))))
                  refine wpQuiet_nil ?_
                  rintro _ ⟨y, rfl⟩
                  go_wp2_with fail
                  go_meet
                  exact ⟨k, ⟨HS.out, .inr (by rw [DE.out, HX.out]; exact CB.out)⟩, by rw [HA.out], HPi.out.later y.h⟩
                · have CB := Lib.hid cb
                  clear cb
                  go_wp2_with fail
                  refine wp_region_ext (by kernel_rfl) (by kernel_rfl) ?_
                  repeat (go_big_quiet_step ((go_at_call 38; exact Calls.extq (lit_of (before_any hb fid ls HL (at_ M (2 * a + 1 + 1)) (at_ M (2 * a + 1)) _ (by simp [go_sem, *]) (by simp [go_sem, *])) CT.out))))
                  refine wpQuiet_nil ?_
                  rintro _ ⟨y0, rfl⟩
                  go_wp2_with fail
                  refine wp_region_extq (by kernel_rfl) (by kernel_rfl) ?_
                  repeat (go_big_quiet_step ((go_at_call 38; exact Calls.extq (lit_of (before_any hb fid ls HL (at_ M (2 * a + 1 + 1)) x _ (by simp [go_sem, *]) (by simp [go_sem, *])) CB.out))))
                  refine wpQuiet_nil ?_
                  rintro _ ⟨y, rfl⟩
                  obtain ⟨V, hV⟩ : ∃ V, y.w = V := ⟨_, rfl⟩
                  have hyb := y.h
                  rw [hV] at hyb ⊢
                  have PV := HPi.out.later hyb
                  clear hV h1 h2 x1 x2 x3 x4 f1 f2 f3 f4 f5 f6 p1 p2 p3 q1 q2 q3
                  obtain ⟨h1, h2, _, _, _, h7⟩ := PV.hp.cells
                  rw [shT_length, HM.out] at h2
                  obtain ⟨p1, p2, p3, _⟩ := PV.at (2 * a + 1 + 1) (by rw [shT_length, HM.out]; omega)
                  rw [shT_below k _ (by rw [HA.out]; omega)] at p1 p2 p3
                  obtain ⟨f1, f2, f3, f4, f5, f6, _⟩ := PV.at a (by rw [shT_length, HM.out]; omega)
                  have HPV := Lib.hid PV
                  clear PV
                  have ca : a < n := by omega
                  have cb : 2 * a + 1 + 1 < n := by omega
                  go_wp2_with fail
                  refine wp_region_ext_tail 13 (by kernel_rfl) (by kernel_rfl) ?_
                  simp only [List.take_succ_cons, List.take_zero, List.drop_succ_cons, List.drop_zero]
                  repeat (go_big_quiet_step (fail))
                  refine wpQuiet_nil ?_
                  rintro _ ⟨y1, rfl⟩
                  go_wp2_with fail
                  go_roundg (gk - 1)
                  case measure => omega
                  case rel =>
                    have hsu : shT (bfr ls) M t (k + 1) = (shT (bfr ls) M t k).set a (at_ M (2 * a + 1 + 1)) := by rw [← DE.out, ← HA.out]; rfl
                    refine ⟨k + 1, by omega, fun i hi => ?_, by rw [DE.out]; go_num, by rw [hsu]; exact (HPV.out.later y1.h).put a (at_ M (2 * a + 1 + 1))⟩
                    by_cases e : i = k
                    · subst e; rw [DE.out, HX.out, HM.out]; exact ⟨by omega, CB.out⟩
                    · exact HS.out i (by omega)
            · have d1 : decide (2 * (a : Int) + 1 + 1 < (n : Int)) = false := by simp; omega
              have hd : cho (bfr ls) M n a = 2 * a + 1 := by rcases CH.out with h | h <;> omega
              have DE := Lib.hid (DS.out.trans hd)
              clear CH DS hd AT
              cases cb : bfr ls (at_ M (2 * a + 1)) x
              · have CB := Lib.hid cb
                clear cb
                go_wp2_with fail
                refine wp_region_ext (by kernel_rfl) (by kernel_rfl) ?_
                repeat (go_big_quiet_step (fail))
                refine wpQuiet_nil ?_
                rintro _ ⟨y0, rfl⟩
                go_wp2_with fail
                refine wp_region_extq (by kernel_rfl) (by kernel_rfl) ?_
                repeat (go_big_quiet_step ((go_at_call 38; exact Calls.extq (lit_of (before_any hb fid ls HL (at_ M (2 * a + 1)) x _ (by simp [go_sem, *]) (by simp [go_sem, *])) CB.out))))
                refine wpQuiet_nil ?_
                rintro _ ⟨y, rfl⟩
                go_wp2_with fail
                go_meet
                exact ⟨k, ⟨HS.out, .inr (by rw [DE.out, HX.out]; exact CB.out)⟩, by rw [HA.out], HPi.out.later y.h⟩
              · have CB := Lib.hid cb
                clear cb
                go_wp2_with fail
                refine wp_region_ext (by kernel_rfl) (by kernel_rfl) ?_
                repeat (go_big_quiet_step (fail))
                refine wpQuiet_nil ?_
                rintro _ ⟨y0, rfl⟩
                go_wp2_with fail
                refine wp_region_extq (by kernel_rfl) (by kernel_rfl) ?_
                repeat (go_big_quiet_step ((go_at_call 38; exact Calls.extq (lit_of (before_any hb fid ls HL (at_ M (2 * a + 1)) x _ (by simp [go_sem, *]) (by simp [go_sem, *])) CB.out))))
                refine wpQuiet_nil ?_
                rintro _ ⟨y, rfl⟩
                obtain ⟨V, hV⟩ : ∃ V, y.w = V := ⟨_, rfl⟩
                have hyb := y.h
                rw [hV] at hyb ⊢
                have PV := HPi.out.later hyb
                clear hV h1 h2 x1 x2 x3 x4 f1 f2 f3 f4 f5 f6 p1 p2 p3
                obtain ⟨h1, h2, _, _, _, h7⟩ := PV.hp.cells
                rw [shT_length, HM.out] at h2
                obtain ⟨p1, p2, p3, _⟩ := PV.at (2 * a + 1) (by rw [shT_length, HM.out]; omega)
                rw [shT_below k _ (by rw [HA.out]; omega)] at p1 p2 p3
                obtain ⟨f1, f2, f3, f4, f5, f6, _⟩ := PV.at a (by rw [shT_length, HM.out]; omega)
                have HPV := Lib.hid PV
                clear PV
                have ca : a < n := by omega
                have cb : 2 * a + 1 < n := by omega
                go_wp2_with fail
                refine wp_region_ext_tail 13 (by kernel_rfl) (by kernel_rfl) ?_
                simp only [List.take_succ_cons, List.take_zero, List.drop_succ_cons, List.drop_zero]
                repeat (go_big_quiet_step (fail))
                refine wpQuiet_nil ?_
                rintro _ ⟨y1, rfl⟩
                go_wp2_with fail
                go_roundg (gk - 1)
                case measure => omega
                case rel =>
                  have hsu : shT (bfr ls) M t (k + 1) = (shT (bfr ls) M t k).set a (at_ M (2 * a + 1)) := by rw [← DE.out, ← HA.out]; rfl
                  refine ⟨k + 1, by omega, fun i hi => ?_, by rw [DE.out]; go_num, by rw [hsu]; exact (HPV.out.later y1.h).put a (at_ M (2 * a + 1))⟩
                  by_cases e : i = k
                  · subst e; rw [DE.out, HX.out, HM.out]; exact ⟨by omega, CB.out⟩
                  · exact HS.out i (by omega)
      case rest =>
        obtain ⟨k, hE, rfl, P⟩ := hcut
        have HE := Lib.hid hE
        have HPk := Lib.hid P
        have hbd := dt_bound hE.1 (by rw [HM.out]; exact htn) k (Nat.le_refl _)
        rw [HM.out] at hbd
        obtain ⟨x1, x2, x3, x4⟩ := P.cells
        obtain ⟨h1, h2, h3, h4, h5, h6''⟩ := P.hp.cells
        rw [shT_length, HM.out] at h2
        obtain ⟨f1, f2, f3, f4, f5, f6, hgw⟩ := P.at (dt (bfr ls) M t k) (by rw [shT_length, HM.out]; exact hbd)
        clear P hE
        obtain ⟨a, ha⟩ : ∃ a, dt (bfr ls) M t k = a := ⟨_, rfl⟩
        rw [ha] at hbd f1 f2 f3 f4 f5 f6 ⊢
        have HA := Lib.hid ha
        clear ha
        go_wp2_with fail
        refine wp_region_ext_tail 7 (by kernel_rfl) (by kernel_rfl) ?_
        simp only [List.take_succ_cons, List.take_zero, List.drop_succ_cons, List.drop_zero]
        repeat (go_big_quiet_step (fail))
        refine wpQuiet_nil ?_
        rintro _ ⟨y0, rfl⟩
        go_wp2_with fail
        go_roundg t
        case measure => omega
        case rel =>
          have hsk : siftK (bfr ls) M t k = (shT (bfr ls) M t k).set a x := by rw [← HA.out, ← HX.out]; rfl
          have PP := (HPk.out.later y0.h).put a x
          have hl : ((shT (bfr ls) M t k).set a x).length = n := by rw [List.length_set, shT_length, HM.out]
          refine ⟨siftK (bfr ls) M t k, rfl, by omega, (siftK_perm (by rw [HM.out]; exact htn) HE.out.1).trans HPe.out, siftK_heap HOR.out (by rw [HM.out]; exact htn) HFr.out HE.out, ?_, PP.tch⟩
          rw [hsk, ← hl]
          exact PP.hp

end Go.Proofs.Ytekdjjfbkcgmhaa
