/-
  What is proved here: the law HeapSorts returns true for every input.
-/
import Derived.Test.YtekdjjfbkcgmhaaHpAwake
import Derived.Test.YtekdjjfbkcgmhaaOpenSl
import Derived.IntWalk
namespace Go.Proofs.Ytekdjjfbkcgmhaa
open Go.ChangeShapes Go.WideShapes Go.ChangeAt Go.RowKit Hp
set_option linter.unusedVariables false
set_option linter.unusedSimpArgs false

theorem Reads2.of_as {w : World} {B : Nat} {v : Value} {l : List (Int × Int)} (h : ReadsAs w B v l.length 2 (fun i cs => cs = [.int .i64 (l.getD i (0, 0)).1, .int .i64 (l.getD i (0, 0)).2])) : Reads2 w B v l := by
  obtain ⟨A, cap, rfl, _, _, hc⟩ := h
  refine ⟨A, cap, rfl, fun h0 => ?_⟩
  obtain ⟨b, off, ha, hb, hx⟩ := hc h0
  refine ⟨b, off, ha, hb, fun i x hi => ?_⟩
  have hil := (List.getElem?_eq_some_iff.1 hi).1
  obtain ⟨cs, rfl, _, hj⟩ := hx i hil
  have e : l.getD i (0, 0) = x := by simp [List.getD, hi]
  rw [e] at hj
  exact ⟨by simpa using hj 0 (by omega), by simpa [Nat.add_assoc] using hj 1 (by omega)⟩

/-- The items of the keys. -/
def keyed (l : List Int) : List (Int × Int) := (List.range l.length).map fun i => (l.getD i 0, (i : Int))
theorem keyed_length (l : List Int) : (keyed l).length = l.length := by simp [keyed]
theorem keyed_get (l : List Int) (i : Nat) (h : i < l.length) : (keyed l)[i]? = some (l.getD i 0, (i : Int)) := by simp [keyed, h]
theorem keyed_take (l : List Int) (k : Nat) (h : k < l.length) : (keyed l).take (k + 1) = (keyed l).take k ++ [(l.getD k 0, (k : Int))] := by
  rw [List.take_add_one, keyed_get l k h]; rfl
theorem tag_mem {l : List (Int × Int)} {z : It} (h : z ∈ tag l) : ∃ m, m < l.length ∧ l[m]? = some (z.key, z.name) ∧ z.ord = (m : Int) := by
  unfold tag at h
  simp only [List.mem_map, List.mem_range] at h
  obtain ⟨m, hm, rfl⟩ := h
  exact ⟨m, hm, by simp [List.getD, hm], rfl⟩
theorem keyed_mem {l : List Int} {z : It} (h : z ∈ srt id (tag (keyed l))) : ∃ m : Nat, m < l.length ∧ (keyed l)[m]? = some (z.key, z.name) ∧ z.ord = (m : Int) ∧ z.name = (m : Int) := by
  obtain ⟨m, h1, h2, h3⟩ := tag_mem ((srt_perm id _).mem_iff.1 h)
  rw [keyed_length] at h1
  have := keyed_get l m h1
  rw [this] at h2
  simp only [Option.some.injEq, Prod.mk.injEq] at h2
  exact ⟨m, h1, by rw [this, h2.1, h2.2], h3, h2.2.symm⟩
/-- What is popped, by its place. -/
theorem sorts_at (l : List Int) (i : Nat) (h : i < l.length) : ∃ (x : Int) (m : Nat), ((srt id (tag (keyed l))).map It.kn)[i]? = some (x, (m : Int)) ∧ m < l.length ∧ (keyed l)[m]? = some (x, (m : Int)) := by
  have hl : (srt id (tag (keyed l))).length = l.length := by rw [srt_length, tag_length, keyed_length]
  obtain ⟨z, hz⟩ : ∃ z, (srt id (tag (keyed l)))[i]? = some z := ⟨_, List.getElem?_eq_getElem (by omega)⟩
  obtain ⟨m, h1, h2, h3, h4⟩ := keyed_mem (List.mem_of_getElem? hz)
  rw [h4] at h2
  exact ⟨z.key, m, by rw [List.getElem?_map, hz]; simp [It.kn, h4], h1, h2⟩
theorem sorts_next (l : List Int) (i : Nat) (h : i + 1 < l.length) {x y : Int} {m n : Nat} (h1 : ((srt id (tag (keyed l))).map It.kn)[i]? = some (x, (m : Int))) (h2 : ((srt id (tag (keyed l))).map It.kn)[i + 1]? = some (y, (n : Int))) : x < y ∨ (x = y ∧ m < n) := by
  have hl : (srt id (tag (keyed l))).length = l.length := by rw [srt_length, tag_length, keyed_length]
  have hs : Srt id (srt id (tag (keyed l))) := srt_srt (tag_rise _)
  have hp := List.pairwise_iff_getElem.1 hs i (i + 1) (by omega) (by omega) (by omega)
  have ord : ∀ z ∈ srt id (tag (keyed l)), z.ord = z.name := by
    intro z hz
    obtain ⟨m, _, _, h3, h4⟩ := keyed_mem hz
    rw [h3, h4]
  have o1 := ord _ (List.getElem_mem (show i < (srt id (tag (keyed l))).length by omega))
  have o2 := ord _ (List.getElem_mem (show i + 1 < (srt id (tag (keyed l))).length by omega))
  rw [List.getElem?_map, List.getElem?_eq_getElem (by omega)] at h1 h2
  simp only [Option.map_some, Option.some.injEq, It.kn, Prod.mk.injEq] at h1 h2
  rw [lt_iff, o1, o2, h1.1, h1.2, h2.1, h2.2] at hp
  simp only [id] at hp
  omega

set_option maxRecDepth 100000 in
set_option maxHeartbeats 4000000 in
theorem sorts_in (v : Value) (l : List Int) (hlen : l.length ≤ 300) (w : World) (H : ReadsAs w w.heap.size v l.length 1 (fun i cs => cs = [.int .i64 (l.getD i 0)])) :
    Calls Try.prog 3 #[v] w fun e w' => e = .returned (.bool true) ∧ Below w.heap.size w w' := by
  obtain ⟨i0, hi, hz0, hz1, hz2⟩ := info_parts infoP
  obtain ⟨A, cap, rfl, _, _, hA⟩ := H
  have HA := Lib.hid hA
  have hne : ∀ (a b : Int) (w : World), (binOp .neq 26 (.agg #[.int .i64 a, .int .i64 b]) (.agg #[.int .i64 a, .int .i64 b])).run Try.prog w = .ok (.bool false) w := fun a b w => by rw [ne_it]; simp
  clear hA
  go_enter Try.func3, Try.ntmps3
  go_wp2_with (go_at_call 11; refine (awake_any _).mono ?_; rintro e W ⟨rfl, hW⟩)
  have HW := Lib.hid hW
  clear hW
  go_loopw [3, 4, 5, 15] (fun p a b i wr => ∃ k : Nat, k ≤ l.length ∧ i = .int .i64 (k : Int) ∧ wr.ownsRow W.heap.size 26 2 p k (flat2 ((keyed l).take k)) ∧ Below W.heap.size W wr) (fun _ _ _ i _ => l.length - (intOf i).toNat)
  case atStart => exact ⟨0, Nat.zero_le _, rfl, ⟨rfl, .inl ⟨rfl, rfl⟩⟩, Below.refl _ _⟩
  case round =>
    obtain ⟨k, hk, rfl, hown, hB⟩ := hrel
    have HB := Lib.hid hB
    clear hB
    have hsz := HB.out.size
    by_cases hlt : k < l.length
    · obtain ⟨b, off, rfl, hb, hx⟩ := HA.out (by omega)
      obtain ⟨cs, rfl, _, hc⟩ := hx k hlt
      have c1 := hc 0 (by omega)
      simp only [Nat.mul_one, Nat.add_zero, List.getElem?_cons_zero] at c1
      have hbw := Nat.lt_of_lt_of_le hb HW.out.size
      rw [← HW.out.cell (p := ⟨b, off + k, none⟩) hb, ← HB.out.cell (p := ⟨b, off + k, none⟩) hbw] at c1
      clear hx hc
      obtain ⟨x, hx⟩ : ∃ x, l.getD k 0 = x := ⟨_, rfl⟩
      rw [hx] at c1
      have HX := Lib.hid hx
      clear hx
      go_wp2_with (at_builtin; refine wpList_append_own _ rfl (.tmp 20) (.tmp 24) 24 rfl W.heap.size 26 i0 _ 2 16 Try.underlying24 hi hz0 hz1 hz2 rfl (by decide) _ _ _ rfl (hown.alloc _) ⟨wr.heap.size, 0, none⟩ 1 1 (flat2 [(x, (k : Int))]) rfl rfl (cells_new2 _ _ _ _) (one_cells2 _ _) (by unfold maxLen; omega) (by omega) (by simp; omega) ?_; intro v' W' hown' hgrow hat)
      go_roundw
      case rel => exact ⟨k + 1, by omega, by go_num, by rw [keyed_take l k hlt, HX.out, flat2_append]; exact hown', (HB.out.alloc hsz _).grown hgrow (by simp; omega) (fun q hq => (hown.lt q hq).1)⟩
      case measure => simp [intOf]; omega
    · obtain rfl : k = l.length := by omega
      obtain ⟨wo, rfl⟩ : ∃ wo : World, wo = wr := ⟨_, rfl⟩
      obtain ⟨av, ac, rfl⟩ := own_len hown
      have hown0 : wo.ownsRow W.heap.size 26 2 (.slice av l.length ac) (keyed l).length (flat2 (keyed l)) := by rw [keyed_length, ← List.take_of_length_le (l := keyed l) (i := l.length) (by rw [keyed_length]; omega)]; exact hown
      have HR := Lib.hid (Reads2.of_own hown0)
      clear hown hown0
      go_wp2_with (first | (go_at_call 13; refine (pushed_s _ (keyed l) (by rw [keyed_length]; omega) _ HR.out).mono ?_; rintro e W1 ⟨ov, rfl, hS, hB1⟩) | (go_at_call 12; refine (popped_s _ _ id byKey_lessOf _ (by rw [srt_length, tag_length, keyed_length]; omega) _ _ ov _ hS).mono ?_; rintro e W2 ⟨p, rfl, hown, hS2, hT⟩; obtain ⟨pa, pc, rfl⟩ := own_len hown; rw [srt_length, tag_length, keyed_length] at hown ⊢))
      have hB2 : Below wo.heap.size wo W2 := hB1.trans (hT.below (Nat.le_refl _) hB1.size hS.ov_ge)
      have R3 := HR.out.keep hB2
      obtain ⟨O, hO⟩ : ∃ O, (srt id (tag (keyed l))).map It.kn = O := ⟨_, rfl⟩
      have hOl : O.length = l.length := by rw [← hO, List.length_map, srt_length, tag_length, keyed_length]
      rw [hO] at hown
      have R6 : Reads2 W2 W2.heap.size (.slice pa l.length pc) O := Reads2.of_own (by rw [hOl]; exact hown)
      obtain ⟨A3, c3, e3, h3⟩ := R3
      obtain ⟨A6, c6, e6, h6⟩ := R6
      simp only [Value.slice.injEq] at e3 e6
      obtain ⟨rfl, e3', rfl⟩ := e3
      obtain ⟨rfl, e6', rfl⟩ := e6
      clear e3' e6'
      have HB2 := Lib.hid hB2
      have H3 := Lib.hid h3
      have H6 := Lib.hid h6
      have HO := Lib.hid hO
      have HOl := Lib.hid hOl
      have hwr2 := hB2.size
      clear hB2 h3 h6 hO hOl hown hS2 hT hS hB1
      go_loopw [7, 37] (fun a i wq => ∃ k : Nat, k ≤ l.length ∧ i = .int .i64 (k : Int) ∧ Below W2.heap.size W2 wq) (fun _ i _ => l.length - (intOf i).toNat)
      case atStart => exact ⟨0, Nat.zero_le _, rfl, Below.refl _ _⟩
      case round =>
        obtain ⟨k, hk, rfl, hq⟩ := hrel
        have HQ := Lib.hid hq
        clear hq
        by_cases hlt : k < l.length
        · obtain ⟨x, m, hx, hml, hkm⟩ := sorts_at l k hlt
          rw [HO.out] at hx
          obtain ⟨b, off, rfl, hb, hc⟩ := H6.out (by rw [HOl.out]; omega)
          obtain ⟨b', off', rfl, hb', hc'⟩ := H3.out (by rw [keyed_length]; omega)
          obtain ⟨c1, c2⟩ := hc k _ hx
          obtain ⟨d1, d2⟩ := hc' m _ hkm
          simp only at c1 c2 d1 d2
          have hs := HQ.out.size
          rw [← HQ.out.cell (p := ⟨b, off + k * 2, none⟩) hb] at c1
          rw [← HQ.out.cell (p := ⟨b, off + k * 2 + 1, none⟩) hb] at c2
          rw [← HQ.out.cell (p := ⟨b', off' + m * 2, none⟩) (by simp; omega)] at d1
          rw [← HQ.out.cell (p := ⟨b', off' + m * 2 + 1, none⟩) (by simp; omega)] at d2
          have hb1 : b < wr.heap.size := by omega
          have hb2 : b' < wr.heap.size := by omega
          have g1 : decide ((m : Int) < 0) = false := by simp
          have g2 : decide (l.length ≤ m) = false := by simp; omega
          have HX := Lib.hid hx
          clear hc' hkm hx
          go_wp2_with fail
          refine wp_region_ext (by kernel_rfl) (by kernel_rfl) ?_
          repeat (go_big_quiet_step (fail))
          refine wpQuiet_nil ?_
          rintro _ ⟨y, rfl⟩
          go_wp2_with fail
          by_cases h0 : k = 0
          · subst h0
            refine wp_region_extq (by kernel_rfl) (by kernel_rfl) ?_
            repeat (go_big_quiet_step (fail))
            refine wpQuiet_nil ?_
            rintro _ ⟨y2, rfl⟩
            go_wp2_with fail
            go_roundw
            case rel => exact ⟨1, by omega, by go_num, Ext.below HQ.out hs y2⟩
            case measure => simp [intOf]; omega
          · obtain ⟨j, hj⟩ : ∃ j, k = j + 1 := ⟨k - 1, by omega⟩
            obtain ⟨x', m', hx', hml', _⟩ := sorts_at l j (by omega)
            rw [HO.out] at hx'
            obtain ⟨c1', c2'⟩ := hc j _ hx'
            simp only at c1' c2'
            rw [← HQ.out.cell (p := ⟨b, off + j * 2, none⟩) hb] at c1'
            rw [← HQ.out.cell (p := ⟨b, off + j * 2 + 1, none⟩) hb] at c2'
            have hn := sorts_next l j (by omega) (by rw [HO.out]; exact hx') (by rw [HO.out, ← hj]; exact HX.out)
            have g3 : decide (0 < k) = true := by simp; omega
            have g4 : decide (x < x') = false := by simp; omega
            have wk : IntKind.i64.wrap ((k : Int) - 1) = (j : Int) := by rw [IntWalk.i64_in _ (by omega)]; omega
            have jl : j < l.length := by omega
            by_cases hxx : x = x'
            · have g6 : (x == x') = true := by simp [hxx]
              have g7 : decide (m ≤ m') = false := by simp; omega
              clear hn hj hx' hc hxx h0
              refine wp_region_extq (by kernel_rfl) (by kernel_rfl) ?_
              repeat (go_big_quiet_step (fail))
              refine wpQuiet_nil ?_
              rintro _ ⟨y2, rfl⟩
              go_wp2_with fail
              go_roundw
              case rel => exact ⟨k + 1, by omega, by go_num, Ext.below HQ.out hs y2⟩
              case measure => simp [intOf]; omega
            · have g6 : (x == x') = false := by simp [hxx]
              clear hn hj hx' hc hxx h0
              refine wp_region_extq (by kernel_rfl) (by kernel_rfl) ?_
              repeat (go_big_quiet_step (fail))
              refine wpQuiet_nil ?_
              rintro _ ⟨y2, rfl⟩
              go_wp2_with fail
              go_roundw
              case rel => exact ⟨k + 1, by omega, by go_num, Ext.below HQ.out hs y2⟩
              case measure => simp [intOf]; omega
        · obtain rfl : k = l.length := by omega
          go_wp2_with fail
          go_ret
          refine ⟨rfl, HW.out.trans ((HB.out.trans (HB2.out.mono hsz)).mono HW.out.size |>.trans (HQ.out.mono (by have := HW.out.size; omega)))⟩

set_option maxHeartbeats 400000 in
theorem sorts_out (v : Value) (l : List Int) (hlen : 300 < l.length) (w : World) (H : ReadsAs w w.heap.size v l.length 1 (fun i cs => cs = [.int .i64 (l.getD i 0)])) :
    Calls Try.prog 3 #[v] w fun e w' => e = .returned (.bool true) ∧ Below w.heap.size w w' := by
  obtain ⟨A, cap, rfl, hc1, hc2, hA⟩ := H
  unfold maxLen at hc2
  clear hA
  go_enter Try.func3, Try.ntmps3
  go_wp2_with (go_at_call 11; refine (awake_any _).mono ?_; rintro e W ⟨rfl, hW⟩)
  go_ret
  exact ⟨rfl, hW⟩
theorem sorts_any (v : Value) (l : List Int) (w : World) (H : ReadsAs w w.heap.size v l.length 1 (fun i cs => cs = [.int .i64 (l.getD i 0)])) :
    Calls Try.prog 3 #[v] w fun e w' => e = .returned (.bool true) ∧ Below w.heap.size w w' := by
  by_cases h : l.length ≤ 300
  · exact sorts_in v l h w H
  · exact sorts_out v l (by omega) w H

set_option maxRecDepth 100000 in
theorem heapSorts_lifted (os : Os) (started : os.Started) (H : Type) (enc : TypeId × Value → H) :
    ReturnsInHanded {} Try.checked os 3 .any (Rows.heapSortsSpec.pre6 enc Try.prog Try.f3 Rows.heapSortsRow.domain false) (Rows.heapSortsSpec.post enc Try.prog Try.f3 false true false false) := by
  refine returnsInHanded_of_change (C := Try.checked) own started (by kernel_rfl) Try.func3
    (ChangeSpec.witness6 (enc := enc) (C := Try.checked) false ⟨#[], #[.slice none 0 0], []⟩ 8 (by kernel_rfl) (by kernel_rfl) (by kernel_rfl) (by kernel_rfl)) ?_
  intro W base args ds gs before hval0 hW hcnd _
  have hval : ∀ (j : Nat) t v, Try.f3.params[j]? = some t → args[j]? = some v → Value.okWide Try.prog W .any base t v := hval0
  have hW' := hW
  obtain ⟨p, q, hA0, hV, rfl, hfz, hnd⟩ := hW
  have hA : DataW.TrodAll enc Try.prog W 0 (fun _ => true) true Try.f3.params.toList args.toList ds p := hA0
  rw [Try.params3] at hA hval
  obtain ⟨v0, vs0, d0, ds0, p0, q0, hargs, rfl, rfl, h0, r0⟩ := trodAll_cons hA
  obtain ⟨rfl, rfl, rfl⟩ := trodAll_nil r0
  obtain rfl : args = #[v0] := by cases args; simp_all
  obtain ⟨rfl, rfl⟩ := trodVars_none hV
  have k0 := h0
  have lt0 : ∀ x ∈ p0, x.block < W.heap.size := by obtain ⟨m, hm⟩ := k0; exact DataW.trod_lt m _ _ _ hm
  have ok0 := hval 0 22 v0 rfl rfl
  obtain ⟨l0, R0, wf0⟩ := open_ints_as Try.underlying22 Try.underlying3 (by kernel_rfl) ok0 h0
  clear hA0 hval0
  refine (sorts_any v0 l0 W R0).mono fun e W' ⟨he, bel⟩ => ?_
  subst he
  exact ⟨_, rfl, _, _, _, [], _, [], hW', trodAll_mk1 (shut_bool Try.underlying4 _), (trodAll_cons_mk (Below.trod laidOut (by kernel_rfl) (of_decide_eq_true (by kernel_rfl)) k0 bel lt0) trodAll_mk0), rfl, bel.frame _, fun h => by cases h⟩

/-- The statement. -/
theorem heapSorts_holds : Rows.HeapSortsSaid :=
  OpenClaim.holds_of_wide 3 Try.f3 rfl rfl rfl rfl rfl rfl rfl ⟨rfl, rfl, rfl, rfl, rfl⟩ rfl rfl rfl rfl rfl (by kernel_rfl) Try.func3 (by kernel_rfl)
    (of_decide_eq_true (by kernel_rfl)) (by unfold Func.isWrapper; first | (rw [if_pos (by decide +kernel)]; kernel_rfl) | (rw [if_neg (by decide +kernel)]; exact ⟨rfl, rfl⟩))
    (fun os started H enc _ => heapSorts_lifted os started H enc)


end Go.Proofs.Ytekdjjfbkcgmhaa
