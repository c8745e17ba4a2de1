/-
  What is proved here: the law HeapOrders returns true for every input.
-/
import Derived.Test.YtekdjjfbkcgmhaaLawSorts
namespace Go.Proofs.Ytekdjjfbkcgmhaa
open Go.ChangeShapes Go.WideShapes Go.ChangeAt Go.RowKit Hp
set_option linter.unusedVariables false
set_option linter.unusedSimpArgs false

def neg_ (k : Int) : Int := -k
set_option maxHeartbeats 400000 in
theorem more_any (a b c d : Int) (w : World) :
    Calls Try.prog 15 #[.agg #[.int .i64 a, .int .i64 b], .agg #[.int .i64 c, .int .i64 d]] w fun e w' => e = .returned (.bool (lsOf neg_ a b c d)) ∧ Below w.heap.size w w' := by
  have HE := Lib.hid (show decide (c < a) = lsOf neg_ a b c d by unfold lsOf neg_; rw [Bool.eq_iff_iff]; simp)
  go_enter Try.func15, Try.ntmps15
  go_wp2
  all_goals
    go_ret
    refine ⟨ret_bool HE.out, ?_⟩
    (repeat (first | exact Below.refl _ _ | refine Below.setCell ?_ ?_ _ | refine Ext.below ?_ ?_ _ | refine Below.alloc ?_ ?_ _)) <;> (first | (simp; done) | (simp; omega) | omega)
theorem more_less : Less 15 (lsOf neg_) := ⟨fun _ _ => by kernel_rfl, more_any⟩

theorem keyed_mem' {f : Int → Int} {l : List Int} {z : It} (h : z ∈ srt f (tag (keyed l))) : ∃ m : Nat, m < l.length ∧ (keyed l)[m]? = some (z.key, z.name) ∧ z.ord = (m : Int) ∧ z.name = (m : Int) := by
  obtain ⟨m, h1, h2, h3⟩ := tag_mem ((srt_perm f _).mem_iff.1 h)
  rw [keyed_length] at h1
  have := keyed_get l m h1
  rw [this] at h2
  simp only [Option.some.injEq, Prod.mk.injEq] at h2
  exact ⟨m, h1, by rw [this, h2.1, h2.2], h3, h2.2.symm⟩
/-- What is popped, by its place. -/
theorem orders_at (f : Int → Int) (l : List Int) (i : Nat) (h : i < l.length) : ∃ (x : Int) (m : Nat), ((srt f (tag (keyed l))).map It.kn)[i]? = some (x, (m : Int)) ∧ m < l.length ∧ (keyed l)[m]? = some (x, (m : Int)) := by
  have hl : (srt f (tag (keyed l))).length = l.length := by rw [srt_length, tag_length, keyed_length]
  obtain ⟨z, hz⟩ : ∃ z, (srt f (tag (keyed l)))[i]? = some z := ⟨_, List.getElem?_eq_getElem (by omega)⟩
  obtain ⟨m, h1, h2, h3, h4⟩ := keyed_mem' (List.mem_of_getElem? hz)
  rw [h4] at h2
  exact ⟨z.key, m, by rw [List.getElem?_map, hz]; simp [It.kn, h4], h1, h2⟩
theorem orders_next (f : Int → Int) (l : List Int) (i : Nat) (h : i + 1 < l.length) {x y : Int} {m n : Nat} (h1 : ((srt f (tag (keyed l))).map It.kn)[i]? = some (x, (m : Int))) (h2 : ((srt f (tag (keyed l))).map It.kn)[i + 1]? = some (y, (n : Int))) : f x < f y ∨ (f x = f y ∧ m < n) := by
  have hl : (srt f (tag (keyed l))).length = l.length := by rw [srt_length, tag_length, keyed_length]
  have hs : Srt f (srt f (tag (keyed l))) := srt_srt (tag_rise _)
  have hp := List.pairwise_iff_getElem.1 hs i (i + 1) (by omega) (by omega) (by omega)
  have ord : ∀ z ∈ srt f (tag (keyed l)), z.ord = z.name := by
    intro z hz
    obtain ⟨m, _, _, h3, h4⟩ := keyed_mem' hz
    rw [h3, h4]
  have o1 := ord _ (List.getElem_mem (show i < (srt f (tag (keyed l))).length by omega))
  have o2 := ord _ (List.getElem_mem (show i + 1 < (srt f (tag (keyed l))).length by omega))
  rw [List.getElem?_map, List.getElem?_eq_getElem (by omega)] at h1 h2
  simp only [Option.map_some, Option.some.injEq, It.kn, Prod.mk.injEq] at h1 h2
  rw [lt_iff, o1, o2, h1.1, h1.2, h2.1, h2.2] at hp
  omega

set_option maxRecDepth 100000 in
set_option maxHeartbeats 4000000 in
theorem orders_in (v : Value) (l : List (Int × Int)) (hlen : l.length ≤ 300) (w : World) (H : Reads2 w w.heap.size v l) :
    Calls Try.prog 4 #[v] w fun e w' => e = .returned (.bool true) ∧ Below w.heap.size w w' := by
  obtain ⟨A, cap, rfl, hA⟩ := H
  have HA := Lib.hid hA
  clear hA
  obtain ⟨kl, hkl⟩ : ∃ kl, l.map Prod.fst = kl := ⟨_, rfl⟩
  have hkn : kl.length = l.length := by rw [← hkl, List.length_map]
  have HKL := Lib.hid hkl
  have HKN := Lib.hid hkn
  clear hkl hkn
  go_enter Try.func4, Try.ntmps4
  go_wp2_with (first | (go_at_call 11; refine (awake_any _).mono ?_; rintro e W ⟨rfl, hW⟩) | (go_at_call 14; refine (new_s W.heap.size 15 neg_ W).mono ?_; rintro e W1 ⟨rfl, hS, hB1⟩))
  have HW := Lib.hid hW
  have HS0 := Lib.hid hS
  have HB1 := Lib.hid hB1
  clear hW hS hB1
  go_loopw [4, 5, 16] (fun a b i wr => ∃ (k : Nat) (ov : Option Nat), k ≤ l.length ∧ i = .int .i64 (k : Int) ∧ HpS wr W.heap.size W.heap.size 15 neg_ (srt neg_ (tag ((keyed kl).take k))) k ov ∧ Below W.heap.size W wr) (fun _ _ i _ => l.length - (intOf i).toNat)
  case atStart => exact ⟨0, none, Nat.zero_le _, rfl, HS0.out, HB1.out⟩
  case round =>
    obtain ⟨k, ov, hk, rfl, hS, hB⟩ := hrel
    have HS := Lib.hid hS
    have HB := Lib.hid hB
    clear hS hB HS0 HB1
    have hsz := HB.out.size
    have hsw := HW.out.size
    by_cases hlt : k < l.length
    · obtain ⟨b, off, rfl, hb, hx⟩ := HA.out (by omega)
      obtain ⟨⟨x1, x2⟩, hx0⟩ : ∃ x, l[k]? = some x := ⟨_, List.getElem?_eq_getElem hlt⟩
      obtain ⟨c1, c2⟩ := hx k _ hx0
      simp only at c1 c2
      have hbw : b < W.heap.size := by omega
      rw [← HW.out.cell (p := ⟨b, off + k * 2, none⟩) hb, ← HB.out.cell (p := ⟨b, off + k * 2, none⟩) hbw] at c1
      rw [← HW.out.cell (p := ⟨b, off + k * 2 + 1, none⟩) hb, ← HB.out.cell (p := ⟨b, off + k * 2 + 1, none⟩) hbw] at c2
      have hbr : b < wr.heap.size := by omega
      have hkx : kl.getD k 0 = x1 := by rw [← HKL.out]; simp [List.getD, hx0]
      have HX := Lib.hid hkx
      clear hx hx0 hkx
      go_wp2_with (go_at_call 16; refine (push_s W.heap.size 15 neg_ more_less _ (by rw [srt_length, tag_length]; simp; have := keyed_length kl; have := HKN.out; omega) W.heap.size ⟨x1, k, k⟩ (by simp) (by simp; omega) ov _ (by simp; omega) (HS.out.alloc _)).mono ?_; rintro e W' ⟨rfl, ov', hS', hT, hn⟩)
      have hb' : Below W.heap.size W W' := ((HB.out.alloc (by omega) _).trans (hT.below (Nat.le_refl _) (by simp; omega) HS.out.ov_ge))
      go_roundw
      case rel => exact ⟨k + 1, ov', by omega, by go_num, by rw [tag_take (keyed kl) k (by rw [keyed_length, HKN.out]; omega) _ (keyed_get kl k (by rw [HKN.out]; omega)), srt_snoc, HX.out]; exact hS', hb'⟩
      case measure => simp [intOf]; omega
    · obtain rfl : k = l.length := by omega
      obtain ⟨wo, rfl⟩ : ∃ wo : World, wo = wr := ⟨_, rfl⟩
      rw [List.take_of_length_le (by rw [keyed_length, HKN.out]; omega)] at HS
      go_wp2_with (go_at_call 12; refine (popped_s _ _ neg_ more_less _ (by rw [srt_length, tag_length, keyed_length, HKN.out]; omega) _ _ ov _ HS.out).mono ?_; rintro e W2 ⟨p, rfl, hown, hS2, hT⟩; obtain ⟨pa, pc, rfl⟩ := own_len hown; rw [srt_length, tag_length, keyed_length, HKN.out] at hown ⊢)
      have hB2 : Below W.heap.size W W2 := HB.out.trans (hT.below (Nat.le_refl _) hsz HS.out.ov_ge)
      obtain ⟨O, hO⟩ : ∃ O, (srt neg_ (tag (keyed kl))).map It.kn = O := ⟨_, rfl⟩
      have hOl : O.length = l.length := by rw [← hO, List.length_map, srt_length, tag_length, keyed_length, HKN.out]
      rw [hO] at hown
      have R6 : Reads2 W2 W2.heap.size (.slice pa l.length pc) O := Reads2.of_own (by rw [hOl]; exact hown)
      obtain ⟨A6, c6, e6, h6⟩ := R6
      simp only [Value.slice.injEq] at e6
      obtain ⟨rfl, e6', rfl⟩ := e6
      clear e6'
      have HB2 := Lib.hid hB2
      have H6 := Lib.hid h6
      have HO := Lib.hid hO
      have HOl := Lib.hid hOl
      have hwr2 := hB2.size
      clear hB2 h6 hO hOl hown hS2 hT
      go_loopw [7] (fun i wq => ∃ k : Nat, 1 ≤ k ∧ (k ≤ l.length ∨ k = 1) ∧ i = .int .i64 (k : Int) ∧ Below W2.heap.size W2 wq) (fun i _ => l.length - (intOf i).toNat)
      case atStart => exact ⟨1, by omega, .inr rfl, rfl, Below.refl _ _⟩
      case round =>
        obtain ⟨k, hk1, hk, rfl, hq⟩ := hrel
        have HQ := Lib.hid hq
        clear hq
        by_cases hlt : k < l.length
        · obtain ⟨x, m, hx, hml, _⟩ := orders_at neg_ kl k (by rw [HKN.out]; exact hlt)
          rw [HO.out] at hx
          obtain ⟨b, off, rfl, hb, hc⟩ := H6.out (by rw [HOl.out]; omega)
          obtain ⟨c1, c2⟩ := hc k _ hx
          simp only at c1 c2
          have hs := HQ.out.size
          rw [← HQ.out.cell (p := ⟨b, off + k * 2, none⟩) hb] at c1
          rw [← HQ.out.cell (p := ⟨b, off + k * 2 + 1, none⟩) hb] at c2
          have hb1 : b < wr.heap.size := by omega
          obtain ⟨j, hj⟩ : ∃ j, k = j + 1 := ⟨k - 1, by omega⟩
          obtain ⟨x', m', hx', hml', _⟩ := orders_at neg_ kl j (by rw [HKN.out]; omega)
          rw [HO.out] at hx'
          obtain ⟨c1', c2'⟩ := hc j _ hx'
          simp only at c1' c2'
          rw [← HQ.out.cell (p := ⟨b, off + j * 2, none⟩) hb] at c1'
          rw [← HQ.out.cell (p := ⟨b, off + j * 2 + 1, none⟩) hb] at c2'
          have hn := orders_next neg_ kl j (by rw [HKN.out]; omega) (by rw [HO.out]; exact hx') (by rw [HO.out, ← hj]; exact hx)
          unfold neg_ at hn
          have g4 : decide (x' < x) = false := by simp; omega
          have wk : IntKind.i64.wrap ((k : Int) - 1) = (j : Int) := by rw [IntWalk.i64_in _ (by omega)]; omega
          have jl : j < l.length := by omega
          by_cases hxx : x = x'
          · have g6 : (x == x') = true := by simp [hxx]
            have g7 : decide (m < m') = false := by simp; omega
            clear hn hj hx' hc hxx hx
            go_wp2_with fail
            refine wp_region_ext (by kernel_rfl) (by kernel_rfl) ?_
            repeat (go_big_quiet_step (fail))
            refine wpQuiet_nil ?_
            rintro _ ⟨y2, rfl⟩
            go_wp2_with fail
            go_roundw
            case rel => exact ⟨k + 1, by omega, .inl (by omega), by go_num, Ext.below HQ.out hs y2⟩
            case measure => simp [intOf]; omega
          · have g6 : (x == x') = false := by simp [hxx]
            clear hn hj hx' hc hxx hx
            go_wp2_with fail
            refine wp_region_ext (by kernel_rfl) (by kernel_rfl) ?_
            repeat (go_big_quiet_step (fail))
            refine wpQuiet_nil ?_
            rintro _ ⟨y2, rfl⟩
            go_wp2_with fail
            go_roundw
            case rel => exact ⟨k + 1, by omega, .inl (by omega), by go_num, Ext.below HQ.out hs y2⟩
            case measure => simp [intOf]; omega
        · go_wp2_with fail
          go_ret
          exact ⟨by simp, HW.out.trans (HB2.out.mono hsw |>.trans (HQ.out.mono (by omega)))⟩

set_option maxHeartbeats 400000 in
theorem orders_out (v : Value) (l : List (Int × Int)) (hlen : 300 < l.length) (w : World) (H : ReadsAs w w.heap.size v l.length 2 (fun i cs => cs = [.int .i64 (l.getD i (0, 0)).1, .int .i64 (l.getD i (0, 0)).2])) :
    Calls Try.prog 4 #[v] w fun e w' => e = .returned (.bool true) ∧ Below w.heap.size w w' := by
  obtain ⟨A, cap, rfl, hc1, hc2, hA⟩ := H
  unfold maxLen at hc2
  clear hA
  go_enter Try.func4, Try.ntmps4
  go_wp2_with (go_at_call 11; refine (awake_any _).mono ?_; rintro e W ⟨rfl, hW⟩)
  go_ret
  exact ⟨rfl, hW⟩
theorem orders_any (v : Value) (l : List (Int × Int)) (w : World) (H : ReadsAs w w.heap.size v l.length 2 (fun i cs => cs = [.int .i64 (l.getD i (0, 0)).1, .int .i64 (l.getD i (0, 0)).2])) :
    Calls Try.prog 4 #[v] w fun e w' => e = .returned (.bool true) ∧ Below w.heap.size w w' := by
  by_cases h : l.length ≤ 300
  · exact orders_in v l h w (Reads2.of_as H)
  · exact orders_out v l (by omega) w H

set_option maxRecDepth 100000 in
theorem heapOrders_lifted (os : Os) (started : os.Started) (H : Type) (enc : TypeId × Value → H) :
    ReturnsInHanded {} Try.checked os 4 .any (Rows.heapOrdersSpec.pre6 enc Try.prog Try.f4 Rows.heapOrdersRow.domain false) (Rows.heapOrdersSpec.post enc Try.prog Try.f4 false true false false) := by
  refine returnsInHanded_of_change (C := Try.checked) own started (by kernel_rfl) Try.func4
    (ChangeSpec.witness6 (enc := enc) (C := Try.checked) false ⟨#[], #[.slice none 0 0], []⟩ 8 (by kernel_rfl) (by kernel_rfl) (by kernel_rfl) (by kernel_rfl)) ?_
  intro W base args ds gs before hval0 hW hcnd _
  have hval : ∀ (j : Nat) t v, Try.f4.params[j]? = some t → args[j]? = some v → Value.okWide Try.prog W .any base t v := hval0
  have hW' := hW
  obtain ⟨p, q, hA0, hV, rfl, hfz, hnd⟩ := hW
  have hA : DataW.TrodAll enc Try.prog W 0 (fun _ => true) true Try.f4.params.toList args.toList ds p := hA0
  rw [Try.params4] at hA hval
  obtain ⟨v0, vs0, d0, ds0, p0, q0, hargs, rfl, rfl, h0, r0⟩ := trodAll_cons hA
  obtain ⟨rfl, rfl, rfl⟩ := trodAll_nil r0
  obtain rfl : args = #[v0] := by cases args; simp_all
  obtain ⟨rfl, rfl⟩ := trodVars_none hV
  have k0 := h0
  have lt0 : ∀ x ∈ p0, x.block < W.heap.size := by obtain ⟨m, hm⟩ := k0; exact DataW.trod_lt m _ _ _ hm
  have ok0 := hval 0 24 v0 rfl rfl
  obtain ⟨l0, R0, wf0⟩ := open_pairs_as Try.underlying24 Try.underlying26 Try.underlying3 Try.underlying3 (by kernel_rfl) (by kernel_rfl) rfl rfl (by kernel_rfl) ok0 h0
  clear hA0 hval0
  refine (orders_any v0 l0 W R0).mono fun e W' ⟨he, bel⟩ => ?_
  subst he
  exact ⟨_, rfl, _, _, _, [], _, [], hW', trodAll_mk1 (shut_bool Try.underlying4 _), (trodAll_cons_mk (Below.trod laidOut (by kernel_rfl) (of_decide_eq_true (by kernel_rfl)) k0 bel lt0) trodAll_mk0), rfl, bel.frame _, fun h => by cases h⟩

/-- The statement. -/
theorem heapOrders_holds : Rows.HeapOrdersSaid :=
  OpenClaim.holds_of_wide 4 Try.f4 rfl rfl rfl rfl rfl rfl rfl ⟨rfl, rfl, rfl, rfl, rfl⟩ rfl rfl rfl rfl rfl (by kernel_rfl) Try.func4 (by kernel_rfl)
    (of_decide_eq_true (by kernel_rfl)) (by unfold Func.isWrapper; first | (rw [if_pos (by decide +kernel)]; kernel_rfl) | (rw [if_neg (by decide +kernel)]; exact ⟨rfl, rfl⟩))
    (fun os started H enc _ => heapOrders_lifted os started H enc)


end Go.Proofs.Ytekdjjfbkcgmhaa
