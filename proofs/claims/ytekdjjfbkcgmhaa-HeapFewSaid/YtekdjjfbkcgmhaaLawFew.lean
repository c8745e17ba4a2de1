/-
  What is proved here: the law HeapFew returns true for every input.
-/
import Derived.Test.YtekdjjfbkcgmhaaHfPop
import Derived.Test.YtekdjjfbkcgmhaaLawSorts
namespace Go.Proofs.Ytekdjjfbkcgmhaa
open Go.ChangeShapes Go.WideShapes Go.ChangeAt Go.RowKit Hp
set_option linter.unusedVariables false
set_option linter.unusedSimpArgs false

/-- The number of binary digits. -/
def bitsN (k : Nat) : Nat := if k = 0 then 0 else Nat.log2 k + 1
theorem bitsN_half (k : Nat) (h : 0 < k) : bitsN k = bitsN (k / 2) + 1 := by
  unfold bitsN
  rw [if_neg (by omega)]
  by_cases h1 : k = 1
  · subst h1; decide
  · rw [if_neg (by omega), Nat.log2_def k, if_pos (by omega)]
theorem bitsN_lt (k : Nat) : k < 2 ^ bitsN k := by
  unfold bitsN
  split
  · subst_vars; decide
  · exact Nat.lt_log2_self
theorem bitsN_le (k : Nat) : bitsN k ≤ k := by
  induction k using Nat.strongRecOn with
  | _ k ih =>
    by_cases h : k = 0
    · subst h; decide
    · rw [bitsN_half k (by omega)]
      have := ih (k / 2) (by omega)
      omega
theorem pow_lt_bits {d k : Nat} (h : 2 ^ d ≤ k) : d < bitsN k := by
  have := Nat.lt_of_le_of_lt h (bitsN_lt k)
  exact (Nat.pow_lt_pow_iff_right (by omega)).1 this

set_option maxHeartbeats 400000 in
theorem bits_any (k : Nat) (hk : k ≤ 1000) (w : World) : Calls Try.prog 19 #[.int .i64 (k : Int)] w fun e w' => e = .returned (.int .i64 (bitsN k : Nat)) ∧ w = w' := by
  have hbl := bitsN_le k
  go_enter Try.func19, Try.ntmps19
  go_wp2_with fail
  go_loop [0, 3] (fun a b => ∃ (m j : Nat), a = .int .i64 (m : Int) ∧ b = .int .i64 (j : Int) ∧ m ≤ k ∧ j + bitsN m = bitsN k) (fun a _ => (intOf a).toNat)
  case atStart => exact ⟨k, 0, rfl, rfl, Nat.le_refl _, by omega⟩
  case round =>
    obtain ⟨m, j, rfl, rfl, hm, hj⟩ := hrel
    by_cases h0 : m = 0
    · subst h0
      have e : bitsN k = j := by rw [← hj]; rfl
      have HE := Lib.hid e
      clear hj e
      go_wp2_with fail
      go_ret
      exact ⟨by rw [HE.out]; rfl, rfl⟩
    · have hh := bitsN_half m (by omega)
      have HJ := Lib.hid (show (j + 1) + bitsN (m / 2) = bitsN k by omega)
      have hjl : j ≤ 1000 := by omega
      have hq : (m : Int) / 2 = ((m / 2 : Nat) : Int) := by omega
      have HQ := Lib.hid hq
      clear hj hh hq
      go_wp2_with fail
      go_round
      case rel => exact ⟨m / 2, j + 1, by rw [HQ.out], by go_num, by omega, HJ.out⟩
      case measure => simp [intOf]; omega

theorem eql_cfn (kb : Nat) (w : World) : (binOp .eql 39 (.func (.func 18) #[] #[.pointer (some ⟨kb, 0, none⟩)]) .nilFunc).run Try.prog w = .ok (.bool false) w := by kernel_rfl
set_option maxHeartbeats 400000 in
theorem new_u (kb : Nat) (c : Int) (w : World) (hc : w.heap[kb]? = some (.cells #[.int .i64 c] 3 (0, 0))) (B : Nat) (hB : B ≤ kb) :
    Calls Try.prog 17 #[.func (.func 18) #[] #[.pointer (some ⟨kb, 0, none⟩)]] w fun e w' => e = .returned (.pointer (some ⟨w.heap.size, 0, none⟩)) ∧ HpU w' B w.heap.size kb (.slice none 0 0) [] 0 c ∧ Below w.heap.size w w' := by
  have hn := eql_cfn kb
  have HC := Lib.hid hc
  clear hc
  go_enter Try.func17, Try.ntmps17
  go_wp2
  go_ret
  exact ⟨rfl, ⟨alloc_new _ _, ⟨rfl, .inl ⟨rfl, rfl⟩⟩, alloc_block _ HC.out, by have := lt_of_block HC.out; omega, hB⟩, (Below.refl _ _).alloc (Nat.le_refl _) _⟩
set_option maxHeartbeats 400000 in
theorem len_u (hb kb : Nat) (L : List Iu) (hlen : L.length ≤ 1000) (B : Nat) (v : Value) (nx c : Int) (w : World) (H : HpU w B hb kb v L nx c) :
    Calls Try.prog 21 #[.pointer (some ⟨hb, 0, none⟩)] w fun e w' => e = .returned (.int .i64 L.length) ∧ w = w' := by
  obtain ⟨h1, h2, h3, h4, h5, h6, k1, k2, k3⟩ := H.cells
  obtain ⟨av, cap, rfl⟩ := own_len H.row
  clear H
  go_enter Try.func21, Try.ntmps21
  go_wp2
  all_goals
    go_ret
    exact ⟨rfl, rfl⟩
theorem HpU.zero {w : World} {B hb kb : Nat} {v : Value} {L : List Iu} {nx c : Int} (h : HpU w B hb kb v L nx c) : HpU (w.setCell ⟨kb, 0, none⟩ (.int .i64 0)) B hb kb v L nx 0 := by
  refine h.step ⟨rfl, rfl, rfl, by simp, fun k hk hn => heap_setCell_other w ⟨kb, 0, none⟩ k _ (by simpa using hn), ?_⟩
  have := heap_setCell_same w kb 0 _ _ (.int .i64 0) h.cnt
  simpa using this

set_option maxRecDepth 100000 in
set_option maxHeartbeats 4000000 in
theorem few_in (v : Value) (l : List Int) (hlen : l.length ≤ 500) (w : World) (H : ReadsAs w w.heap.size v l.length 1 (fun i cs => cs = [.int .u16 (l.getD i 0)])) :
    Calls Try.prog 5 #[v] w fun e w' => e = .returned (.bool true) ∧ Below w.heap.size w w' := by
  have hmf : ∀ (fn : Fn) (first cap : Array Value) (w : World), (Instr.makeFunc fn first cap).run Try.prog w = .ok (.func fn first cap) w := fun _ _ _ _ => rfl
  have he : ∀ (args : Array Value) (w : World), (callFunc 19 args).run Try.prog w = .ok (.enter 19 args) w := fun _ _ => by kernel_rfl
  obtain ⟨A, cap, rfl, _, _, hA⟩ := H
  have HA := Lib.hid hA
  clear hA
  go_enter Try.func5, Try.ntmps5
  go_upto_region 8 with (first | (go_at_call 11; refine (awake_any _).mono ?_; rintro e W ⟨rfl, hW⟩) | (go_at_call 17; refine (new_u W.heap.size 0 _ (alloc_new W _) W.heap.size (Nat.le_refl _)).mono ?_; rintro e W1 ⟨rfl, hU, hB1'⟩))
  rw [World.size_alloc] at hU
  have hB1 : Below W.heap.size W W1 := ((Below.refl _ _).alloc (Nat.le_refl _) _).trans (hB1'.mono (by simp))
  have HW := Lib.hid hW
  have HU := Lib.hid hU
  have HB1 := Lib.hid hB1
  have zW := hW.size
  clear hW hU hB1 hB1'
  go_wp2_with fail
  go_loopw [7, 20] (fun a i wr => ∃ (k : Nat) (v : Value) (L : List Iu) (c : Nat), k ≤ l.length ∧ i = .int .i64 (k : Int) ∧ L.length = k ∧ c ≤ 1000 ∧ HpU wr W.heap.size (W.heap.size + 1) W.heap.size v L k c ∧ Below W.heap.size W wr) (fun _ i _ => l.length - (intOf i).toNat)
  case atStart => exact ⟨0, _, [], 0, Nat.zero_le _, rfl, rfl, by omega, HU.out, HB1.out⟩
  case round =>
    clear HU HB1
    obtain ⟨k, vv, L, c, hk, rfl, hL, hc, hU, hB⟩ := hrel
    have HU := Lib.hid hU
    have HB := Lib.hid hB
    have HLl := Lib.hid hL
    have zr := hB.size
    obtain ⟨h1, h2, h3, h4, h5, h6, k1, k2, k3⟩ := hU.cells
    clear hU hB hL
    by_cases hlt : k < l.length
    · obtain ⟨b, off, rfl, hb, hx⟩ := HA.out (by omega)
      obtain ⟨cs, rfl, _, hcc⟩ := hx k hlt
      have c1 := hcc 0 (by omega)
      simp only [Nat.mul_one, Nat.add_zero, List.getElem?_cons_zero] at c1
      have hbw := Nat.lt_of_lt_of_le hb zW
      rw [← HW.out.cell (p := ⟨b, off + k, none⟩) hb, ← HB.out.cell (p := ⟨b, off + k, none⟩) hbw] at c1
      obtain ⟨x, hxx⟩ : ∃ x, l.getD k 0 = x := ⟨_, rfl⟩
      rw [hxx] at c1
      clear hx hcc hxx
      have hbr : b < wr.heap.size := by omega
      go_upto_region 12 with fail
      have hU0 := HU.out.zero
      have hB0 : Below W.heap.size W (wr.setCell ⟨W.heap.size, 0, none⟩ (.int .i64 0)) := HB.out.setCell (Nat.le_refl _) _
      obtain ⟨W2, hW2⟩ : ∃ W2, wr.setCell ⟨W.heap.size, 0, none⟩ (.int .i64 0) = W2 := ⟨_, rfl⟩
      rw [hW2] at hU0 hB0 ⊢
      have HU0 := Lib.hid hU0
      have HB0 := Lib.hid hB0
      have z2 := hB0.size
      clear hW2 hU0 hB0 h1 h2 h3 h4 h5 k1 k2 k3 c1
      go_upto_region 13 with (go_at_call 20; refine (push_u (W.heap.size + 1) W.heap.size L (by rw [HLl.out]; omega) W.heap.size vv ⟨x, k⟩ (by simp) (by simp; omega) 0 (by omega) (by omega) W2 z2 HU0.out).mono ?_; rintro e W3 ⟨rfl, v3, L3, d, hL3, hU3, hd, hB3⟩)
      rw [HLl.out] at hL3 hd
      have hdb := pow_lt_bits hd
      have hbb := bitsN_le (k + 1)
      have hU3' : HpU W3 W.heap.size (W.heap.size + 1) W.heap.size v3 L3 ((k : Int) + 1) (d : Nat) := by simpa using hU3
      obtain ⟨h1, h2, h3, h4, h5, h6', k1, k2, k3⟩ := hU3'.cells
      have HU3 := Lib.hid hU3'
      have HL3 := Lib.hid hL3
      have HB3 := Lib.hid (show Below W.heap.size W W3 from HB0.out.trans hB3)
      have z3 := HB3.out.size
      clear hU3 hU3' hL3 hd hB3
      obtain ⟨K, hK⟩ : ∃ K, k + 1 = K := ⟨_, rfl⟩
      rw [hK] at hdb hbb HL3
      have hlx : ∀ y : Ext W3, Calls Try.prog 21 #[.pointer (some ⟨W.heap.size + 1, 0, none⟩)] y.w fun e w' => e = .returned (.int .i64 (K : Int)) ∧ y.w = w' := fun y => by
        have := len_u (W.heap.size + 1) W.heap.size L3 (by rw [HL3.out]; omega) W.heap.size v3 _ _ _ (HU3.out.later y.h)
        rw [HL3.out] at this
        exact this
      have hbx : ∀ y : Ext W3, Calls Try.prog 19 #[.int .i64 (K : Int)] y.w fun e w' => e = .returned (.int .i64 (bitsN K : Nat)) ∧ y.w = w' := fun y => bits_any K (by omega) y.w
      have HLX := Lib.hid hlx
      obtain ⟨b', hb'⟩ : ∃ b', bitsN K = b' := ⟨_, rfl⟩
      rw [hb'] at hdb hbb hbx
      have HBX := Lib.hid hbx
      have HKk := Lib.hid hK
      clear hb' hlx hbx hK
      have hKl : K ≤ 1000 := by have := HKk.out; omega
      have hw1 : IntKind.i64.wrap (1 + (b' : Int)) = 1 + (b' : Int) := IntWalk.i64_in _ (by omega)
      have hw2 : IntKind.i64.wrap (4 * (1 + (b' : Int))) = 4 * (1 + (b' : Int)) := IntWalk.i64_in _ (by omega)
      have g1 : decide (4 * (1 + (b' : Int)) < (d : Int)) = false := by simp; omega
      refine wp_region_ext (by kernel_rfl) (by kernel_rfl) ?_
      repeat (go_big_quiet_step (first | (go_at_call 21; exact Calls.extq_same (HLX.out _)) | (go_at_call 19; exact Calls.extq_same (HBX.out _))))
      refine wpQuiet_nil ?_
      rintro _ ⟨y, rfl⟩
      clear hw1 hw2
      go_wp2_with fail
      go_roundw
      case rel => exact ⟨k + 1, v3, L3, d, by omega, by go_num, by rw [HL3.out]; exact HKk.out.symm, by omega, by rw [show (((k + 1 : Nat)) : Int) = (k : Int) + 1 by omega]; exact HU3.out.later y.h, Ext.below HB3.out z3 y⟩
      case measure => simp [intOf]; omega
    · obtain rfl : k = l.length := by omega
      obtain ⟨wo, rfl⟩ : ∃ wo : World, wo = wr := ⟨_, rfl⟩
      clear h1 h2 h3 h4 h5 h6 k1 k2 k3
      go_wp2_with fail
      go_loopw [8, 9, 10, 38] (fun a8 a9 a10 i wr => ∃ (k : Nat) (v : Value) (L : List Iu) (c : Nat), k ≤ l.length ∧ i = .int .i64 (k : Int) ∧ L.length + k = l.length ∧ c ≤ 1000 ∧ HpU wr W.heap.size (W.heap.size + 1) W.heap.size v L l.length c ∧ Below W.heap.size W wr) (fun _ _ _ i _ => l.length - (intOf i).toNat)
      case atStart => exact ⟨0, vv, L, c, Nat.zero_le _, rfl, by rw [HLl.out]; omega, hc, HU.out, HB.out⟩
      case round =>
        clear HU HB HLl hc
        obtain ⟨k, vw, M, c2, hk2, rfl, hL2, hc2, hU, hB⟩ := hrel
        have HU := Lib.hid hU
        have HB := Lib.hid hB
        have HLl := Lib.hid hL2
        have zr2 := hB.size
        obtain ⟨h1, h2, h3, h4, h5, h6, k1, k2, k3⟩ := hU.cells
        clear hU hB
        by_cases hlt : k < l.length
        · obtain ⟨n, hn⟩ : ∃ n, M.length = n + 1 := ⟨M.length - 1, by omega⟩
          have hnl : n + 1 + k = l.length := by omega
          have HNn := Lib.hid hn
          clear hL2 hn
          go_upto_region 19 with fail
          have hU0 := HU.out.zero
          have hB0 : Below W.heap.size W (wr.setCell ⟨W.heap.size, 0, none⟩ (.int .i64 0)) := HB.out.setCell (Nat.le_refl _) _
          obtain ⟨W2, hW2⟩ : ∃ W2, wr.setCell ⟨W.heap.size, 0, none⟩ (.int .i64 0) = W2 := ⟨_, rfl⟩
          rw [hW2] at hU0 hB0 ⊢
          have HU0 := Lib.hid hU0
          have HB0 := Lib.hid hB0
          have z2 := hB0.size
          clear hW2 hU0 hB0 h1 h2 h3 h4 h5 k1 k2 k3
          obtain ⟨K, hK⟩ : ∃ K, n + 1 = K := ⟨_, rfl⟩
          have hlx : Calls Try.prog 21 #[.pointer (some ⟨W.heap.size + 1, 0, none⟩)] W2 fun e w' => e = .returned (.int .i64 (K : Int)) ∧ W2 = w' := by
            have := len_u (W.heap.size + 1) W.heap.size M (by rw [HNn.out]; omega) W.heap.size vw _ _ _ HU0.out
            rw [HNn.out, hK] at this
            exact this
          have hbx := bits_any K (by omega) W2
          have hbb := bitsN_le K
          have hbp : ∀ d, 2 ^ d ≤ n + 1 → d < bitsN K := fun d hd => by rw [← hK]; exact pow_lt_bits hd
          obtain ⟨b', hb'⟩ : ∃ b', bitsN K = b' := ⟨_, rfl⟩
          rw [hb'] at hbx hbb hbp
          have HLX := Lib.hid hlx
          have HBX := Lib.hid hbx
          have HBP := Lib.hid hbp
          have hKl : K ≤ 500 := by omega
          clear hlx hbx hbp hb' hK
          go_upto_region 20 with (first | (go_at_call 21; refine HLX.out.mono ?_; rintro e _ ⟨rfl, rfl⟩) | (go_at_call 19; refine HBX.out.mono ?_; rintro e _ ⟨rfl, rfl⟩))
          go_upto_region 21 with (go_at_call 22; refine (pop_u (W.heap.size + 1) W.heap.size M n HNn.out (by omega) W.heap.size vw _ 0 (by omega) (by omega) W2 z2 HU0.out).mono ?_; rintro e W3 ⟨yv, v3, L3, d, d', rfl, hL3, hU3, hd, hdd, hB3⟩)
          have hdb := HBP.out d hd
          have hU3' : HpU W3 W.heap.size (W.heap.size + 1) W.heap.size v3 L3 (l.length : Nat) (d' : Nat) := by simpa using hU3
          obtain ⟨h1, h2, h3, h4, h5, h6', k1, k2, k3⟩ := hU3'.cells
          have HU3 := Lib.hid hU3'
          have HL3 := Lib.hid hL3
          have HB3 := Lib.hid (show Below W.heap.size W W3 from HB0.out.trans hB3)
          have g1 : decide (4 * (1 + (b' : Int)) < (d' : Int)) = false := by simp; omega
          clear hU3 hU3' hL3 hd hB3
          go_wp2_with fail
          go_roundw
          case rel => exact ⟨k + 1, v3, L3, d', by omega, by go_num, by rw [HL3.out]; omega, by omega, HU3.out, HB3.out⟩
          case measure => simp [intOf]; omega
        · have hM0 : M.length = 0 := by omega
          have hlx : Calls Try.prog 21 #[.pointer (some ⟨W.heap.size + 1, 0, none⟩)] wr fun e w' => e = .returned (.int .i64 0) ∧ wr = w' := by
            have := len_u (W.heap.size + 1) W.heap.size M (by omega) W.heap.size vw _ _ _ HU.out
            rw [hM0] at this
            exact this
          have HLX := Lib.hid hlx
          clear hlx hM0 hL2
          go_wp2_with (go_at_call 21; refine HLX.out.mono ?_; rintro e _ ⟨rfl, rfl⟩)
          go_ret
          exact ⟨rfl, HW.out.trans (HB.out.mono zW)⟩

set_option maxHeartbeats 400000 in
theorem few_out (v : Value) (l : List Int) (hlen : 500 < l.length) (w : World) (H : ReadsAs w w.heap.size v l.length 1 (fun i cs => cs = [.int .u16 (l.getD i 0)])) :
    Calls Try.prog 5 #[v] w fun e w' => e = .returned (.bool true) ∧ Below w.heap.size w w' := by
  obtain ⟨A, cap, rfl, hc1, hc2, hA⟩ := H
  unfold maxLen at hc2
  clear hA
  go_enter Try.func5, Try.ntmps5
  go_wp2_with (go_at_call 11; refine (awake_any _).mono ?_; rintro e W ⟨rfl, hW⟩)
  go_ret
  exact ⟨rfl, hW⟩
theorem few_any (v : Value) (l : List Int) (w : World) (H : ReadsAs w w.heap.size v l.length 1 (fun i cs => cs = [.int .u16 (l.getD i 0)])) :
    Calls Try.prog 5 #[v] w fun e w' => e = .returned (.bool true) ∧ Below w.heap.size w w' := by
  by_cases h : l.length ≤ 500
  · exact few_in v l h w H
  · exact few_out v l (by omega) w H

set_option maxRecDepth 100000 in
theorem heapFew_lifted (os : Os) (started : os.Started) (H : Type) (enc : TypeId × Value → H) :
    ReturnsInHanded {} Try.checked os 5 .any (Rows.heapFewSpec.pre6 enc Try.prog Try.f5 Rows.heapFewRow.domain false) (Rows.heapFewSpec.post enc Try.prog Try.f5 false true false false) := by
  refine returnsInHanded_of_change (C := Try.checked) own started (by kernel_rfl) Try.func5
    (ChangeSpec.witness6 (enc := enc) (C := Try.checked) false ⟨#[], #[.slice none 0 0], []⟩ 8 (by kernel_rfl) (by kernel_rfl) (by kernel_rfl) (by kernel_rfl)) ?_
  intro W base args ds gs before hval0 hW hcnd _
  have hval : ∀ (j : Nat) t v, Try.f5.params[j]? = some t → args[j]? = some v → Value.okWide Try.prog W .any base t v := hval0
  have hW' := hW
  obtain ⟨p, q, hA0, hV, rfl, hfz, hnd⟩ := hW
  have hA : DataW.TrodAll enc Try.prog W 0 (fun _ => true) true Try.f5.params.toList args.toList ds p := hA0
  rw [Try.params5] at hA hval
  obtain ⟨v0, vs0, d0, ds0, p0, q0, hargs, rfl, rfl, h0, r0⟩ := trodAll_cons hA
  obtain ⟨rfl, rfl, rfl⟩ := trodAll_nil r0
  obtain rfl : args = #[v0] := by cases args; simp_all
  obtain ⟨rfl, rfl⟩ := trodVars_none hV
  have k0 := h0
  have lt0 : ∀ x ∈ p0, x.block < W.heap.size := by obtain ⟨m, hm⟩ := k0; exact DataW.trod_lt m _ _ _ hm
  have ok0 := hval 0 35 v0 rfl rfl
  obtain ⟨l0, R0, wf0⟩ := open_ints_as Try.underlying35 Try.underlying38 (by kernel_rfl) ok0 h0
  clear hA0 hval0
  refine (few_any v0 l0 W R0).mono fun e W' ⟨he, bel⟩ => ?_
  subst he
  exact ⟨_, rfl, _, _, _, [], _, [], hW', trodAll_mk1 (shut_bool Try.underlying4 _), (trodAll_cons_mk (Below.trod laidOut (by kernel_rfl) (of_decide_eq_true (by kernel_rfl)) k0 bel lt0) trodAll_mk0), rfl, bel.frame _, fun h => by cases h⟩

/-- The statement. -/
theorem heapFew_holds : Rows.HeapFewSaid :=
  OpenClaim.holds_of_wide 5 Try.f5 rfl rfl rfl rfl rfl rfl rfl ⟨rfl, rfl, rfl, rfl, rfl⟩ rfl rfl rfl rfl rfl (by kernel_rfl) Try.func5 (by kernel_rfl)
    (of_decide_eq_true (by kernel_rfl)) (by unfold Func.isWrapper; first | (rw [if_pos (by decide +kernel)]; kernel_rfl) | (rw [if_neg (by decide +kernel)]; exact ⟨rfl, rfl⟩))
    (fun os started H enc _ => heapFew_lifted os started H enc)


end Go.Proofs.Ytekdjjfbkcgmhaa
