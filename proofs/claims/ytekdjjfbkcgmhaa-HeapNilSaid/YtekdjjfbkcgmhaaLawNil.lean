/-
  What is proved here: the law HeapNil returns true for every input.
-/
import Derived.Test.YtekdjjfbkcgmhaaHpRemove
import Derived.Test.YtekdjjfbkcgmhaaLawPeeks
namespace Go.Proofs.Ytekdjjfbkcgmhaa
open Go.ChangeShapes Go.WideShapes Go.ChangeAt Go.RowKit Hp
set_option linter.unusedVariables false
set_option linter.unusedSimpArgs false

theorem eql_nilfn (w : World) : (binOp .eql 32 .nilFunc .nilFunc).run Try.prog w = .ok (.bool true) w := by kernel_rfl
theorem eql_nilmatch (w : World) : (binOp .eql 53 .nilFunc .nilFunc).run Try.prog w = .ok (.bool true) w := by kernel_rfl
set_option maxHeartbeats 400000 in
theorem new_nil (w : World) : Calls Try.prog 14 #[.nilFunc] w fun e w' => e = .returned (.pointer none) ∧ w = w' := by
  have hn := eql_nilfn
  go_enter Try.func14, Try.ntmps14
  go_wp2
  go_ret
  exact ⟨rfl, rfl⟩
set_option maxHeartbeats 400000 in
theorem usable_nil (w : World) : Calls Try.prog 36 #[.pointer none] w fun e w' => e = .returned (.bool false) ∧ w = w' := by
  go_enter Try.func36, Try.ntmps36
  go_wp2
  all_goals
    go_ret
    exact ⟨rfl, rfl⟩
set_option maxHeartbeats 400000 in
theorem push_nil (a b : Int) (w : World) : Calls Try.prog 16 #[.pointer none, .agg #[.int .i64 a, .int .i64 b]] w fun e w' => e = .returned (.tuple #[]) ∧ Below w.heap.size w w' := by
  go_enter Try.func16, Try.ntmps16
  go_wp2_with (go_at_call 36; refine (usable_nil _).mono ?_; rintro e _ ⟨rfl, rfl⟩)
  refine bodyPost_ret (results_none rfl _ _ _) rfl ⟨rfl, (Below.refl _ _).alloc (Nat.le_refl _) _⟩
set_option maxHeartbeats 400000 in
theorem pop_nil (w : World) : Calls Try.prog 24 #[.pointer none] w fun e w' => e = .returned (.tuple #[.agg #[.int .i64 0, .int .i64 0], .bool false]) ∧ Below w.heap.size w w' := by
  go_enter Try.func24, Try.ntmps24
  go_wp2_with (go_at_call 36; refine (usable_nil _).mono ?_; rintro e _ ⟨rfl, rfl⟩)
  refine bodyPost_ret (v := .tuple #[.agg #[.int .i64 0, .int .i64 0], .bool false]) (by simp [results, Try.results24, go_sem]) rfl ⟨rfl, ?_⟩
  (repeat (first | exact Below.refl _ _ | refine Below.setCell ?_ ?_ _ | refine Below.alloc ?_ ?_ _)) <;> (first | (simp; done) | (simp; omega) | omega)
set_option maxHeartbeats 400000 in
theorem len_nil (w : World) : Calls Try.prog 27 #[.pointer none] w fun e w' => e = .returned (.int .i64 0) ∧ w = w' := by
  go_enter Try.func27, Try.ntmps27
  go_wp2
  all_goals
    go_ret
    exact ⟨rfl, rfl⟩
set_option maxHeartbeats 400000 in
theorem peek_nil (w : World) : Calls Try.prog 25 #[.pointer none] w fun e w' => e = .returned (.tuple #[.agg #[.int .i64 0, .int .i64 0], .bool false]) ∧ Below w.heap.size w w' := by
  go_enter Try.func25, Try.ntmps25
  go_wp2_with (go_at_call 27; refine (len_nil _).mono ?_; rintro e _ ⟨rfl, rfl⟩)
  refine bodyPost_ret (v := .tuple #[.agg #[.int .i64 0, .int .i64 0], .bool false]) (by simp [results, Try.results25, go_sem]) rfl ⟨rfl, ?_⟩
  (repeat (first | exact Below.refl _ _ | refine Below.setCell ?_ ?_ _ | refine Below.alloc ?_ ?_ _)) <;> (first | (simp; done) | (simp; omega) | omega)
set_option maxHeartbeats 400000 in
theorem sorted_nil (w : World) : Calls Try.prog 26 #[.pointer none] w fun e w' => e = .returned (.slice none 0 0) ∧ w = w' := by
  go_enter Try.func26, Try.ntmps26
  go_wp2_with (go_at_call 36; refine (usable_nil _).mono ?_; rintro e _ ⟨rfl, rfl⟩)
  go_ret
  exact ⟨rfl, rfl⟩
set_option maxHeartbeats 400000 in
theorem remove_nil (fv : Value) (w : World) : Calls Try.prog 28 #[.pointer none, fv] w fun e w' => e = .returned (.int .i64 0) ∧ Below w.heap.size w w' := by
  go_enter Try.func28, Try.ntmps28
  go_wp2_with (go_at_call 36; refine (usable_nil _).mono ?_; rintro e _ ⟨rfl, rfl⟩)
  refine bodyPost_ret (v := .int .i64 0) (by simp [results, Try.results28, go_sem]) rfl ⟨rfl, ?_⟩
  (repeat (first | exact Below.refl _ _ | refine Below.setCell ?_ ?_ _ | refine Below.alloc ?_ ?_ _)) <;> (first | (simp; done) | (simp; omega) | omega)
set_option maxHeartbeats 400000 in
theorem remove_none (hb : Nat) (fid : FuncId) (f : Int → Int) (S : List It) (B : Nat) (nx : Int) (ov : Option Nat) (w : World) (H : HpS w B hb fid f S nx ov) :
    Calls Try.prog 28 #[.pointer (some ⟨hb, 0, none⟩), .nilFunc] w fun e w' => e = .returned (.int .i64 0) ∧ Below w.heap.size w w' := by
  have hn := eql_nilmatch
  obtain ⟨av, cap, h1, h0, h2⟩ := H.len
  clear H
  go_enter Try.func28, Try.ntmps28
  go_wp2_with (go_at_call 36; refine (usable_yes hb fid _ (by simp [go_sem, *])).mono ?_; rintro e _ ⟨rfl, rfl⟩)
  refine bodyPost_ret (v := .int .i64 0) (by simp [results, Try.results28, go_sem]) rfl ⟨rfl, ?_⟩
  (repeat (first | exact Below.refl _ _ | refine Below.setCell ?_ ?_ _ | refine Below.alloc ?_ ?_ _)) <;> (first | (simp; done) | (simp; omega) | omega)

set_option maxRecDepth 100000 in
set_option maxHeartbeats 1000000 in
theorem nil_in (v : Value) (l : List (Int × Int)) (hlen : l.length ≤ 100) (w : World) (H : Reads2 w w.heap.size v l) :
    Calls Try.prog 10 #[v] w fun e w' => e = .returned (.bool true) ∧ Below w.heap.size w w' := by
  have he : ∀ (w : World), (binOp .eql 26 (.agg #[.int .i64 0, .int .i64 0]) (.agg #[.int .i64 0, .int .i64 0])).run Try.prog w = .ok (.bool true) w := fun w => by rw [eq_it]; rfl
  have hSl : (srt id (tag l)).length = l.length := by rw [srt_length, tag_length]
  have HSl := Lib.hid hSl
  clear hSl
  have HR := Lib.hid H
  obtain ⟨A, cap, rfl, hA⟩ := H
  have HA := Lib.hid hA
  clear hA
  go_enter Try.func10, Try.ntmps10
  go_wp2_with (go_at_call 11; refine (awake_any _).mono ?_; rintro e W ⟨rfl, hW⟩)
  have HW := Lib.hid hW
  have zW := hW.size
  clear hW
  go_loopw [5, 18] (fun a i wr => ∃ k : Nat, k ≤ l.length ∧ i = .int .i64 (k : Int) ∧ Below W.heap.size W wr) (fun _ i _ => l.length - (intOf i).toNat)
  case atStart => exact ⟨0, Nat.zero_le _, rfl, Below.refl _ _⟩
  case round =>
    obtain ⟨k, hk, rfl, hB⟩ := hrel
    have HB := Lib.hid hB
    have zr := hB.size
    clear hB
    by_cases hlt : k < l.length
    · obtain ⟨b, off, rfl, hb, hx⟩ := HA.out (by omega)
      obtain ⟨⟨x1, x2⟩, hx0⟩ : ∃ x, l[k]? = some x := ⟨_, List.getElem?_eq_getElem hlt⟩
      obtain ⟨c1, c2⟩ := hx k _ hx0
      simp only at c1 c2
      have hbw : b < W.heap.size := by omega
      rw [← HW.out.cell (p := ⟨b, off + k * 2, none⟩) hb, ← HB.out.cell (p := ⟨b, off + k * 2, none⟩) hbw] at c1
      rw [← HW.out.cell (p := ⟨b, off + k * 2 + 1, none⟩) hb, ← HB.out.cell (p := ⟨b, off + k * 2 + 1, none⟩) hbw] at c2
      have hbr : b < wr.heap.size := by omega
      clear hx hx0
      go_wp2_with (go_at_call 16; refine (push_nil x1 x2 _).mono ?_; rintro e W' ⟨rfl, hW'⟩)
      go_roundw
      case rel => exact ⟨k + 1, by omega, by go_num, (HB.out.alloc zr _).trans (hW'.mono (by simp; omega))⟩
      case measure => simp [intOf]; omega
    · obtain rfl : k = l.length := by omega
      go_upto_region 12 with (go_at_call 24; refine (pop_nil _).mono ?_; rintro e W1 ⟨rfl, hW1⟩)
      have hB1 : Below W.heap.size W W1 := HB.out.trans (hW1.mono zr)
      have HB1 := Lib.hid hB1
      have z1 := hB1.size
      clear hB1 hW1
      go_upto_region 13 with (go_at_call 25; refine (peek_nil _).mono ?_; rintro e W2 ⟨rfl, hW2⟩)
      have k6 := ext_block ⟨W2, hW2⟩ (alloc_new W1 (Obj.cells #[.int .i64 0, .int .i64 0] 26))
      simp only at k6
      have hB2 : Below W.heap.size W W2 := (HB1.out.alloc z1 _).trans (hW2.mono (by simp; omega))
      have z2 := hB2.size
      have hR3 : Reads2 (W2.alloc (Obj.cells #[.int .i64 0, .int .i64 0] 26)) (W2.alloc (Obj.cells #[.int .i64 0, .int .i64 0] 26)).heap.size (.slice A l.length cap) l := ((HR.out.keep HW.out).keep ((hB2.alloc z2 _).mono zW)).more (by simp; omega)
      have HR3 := Lib.hid hR3
      have HB2 := Lib.hid hB2
      have HK6 := Lib.hid (alloc_block (Obj.cells #[.int .i64 0, .int .i64 0] 26) k6)
      have HK8 := Lib.hid (alloc_new W2 (Obj.cells #[.int .i64 0, .int .i64 0] 26))
      clear hR3 hB2 hW2 k6
      go_upto_region 14 with (go_at_call 13; refine (pushed_s _ l (by omega) _ HR3.out).mono ?_; rintro e W3 ⟨ov, rfl, hP, hB3⟩)
      have k6 := ext_block ⟨W3, hB3⟩ HK6.out
      have k8 := ext_block ⟨W3, hB3⟩ HK8.out
      simp only at k6 k8
      have hB3' : Below W.heap.size W W3 := (HB2.out.alloc z2 _).trans (hB3.mono (by simp; omega))
      rw [World.size_alloc] at hP
      have HP := Lib.hid hP
      have HB3 := Lib.hid hB3'
      have y1 : W3.cell? ⟨W1.heap.size, 0, none⟩ = some (.int .i64 0) := by simp [World.cell?, k6]
      have y2 : W3.cell? ⟨W1.heap.size, 1, none⟩ = some (.int .i64 0) := by simp [World.cell?, k6]
      have y3 : W3.cell? ⟨W2.heap.size, 0, none⟩ = some (.int .i64 0) := by simp [World.cell?, k8]
      have y4 : W3.cell? ⟨W2.heap.size, 1, none⟩ = some (.int .i64 0) := by simp [World.cell?, k8]
      have y5 := lt_of_block k6
      have y6 := lt_of_block k8
      clear k6 k8 hB3' hB3 hP HK6 HK8 HR3
      go_wp2_with fail
      refine (new_nil _).mono ?_
      rintro e _ ⟨rfl, rfl⟩
      dsimp only
      go_wp2_with fail
      refine (len_nil _).mono ?_
      rintro e _ ⟨rfl, rfl⟩
      dsimp only
      go_wp2_with fail
      refine (sorted_nil _).mono ?_
      rintro e _ ⟨rfl, rfl⟩
      dsimp only
      go_wp2_with fail
      refine (remove_nil _ _).mono ?_
      rintro e W4 ⟨rfl, hW4⟩
      dsimp only
      go_wp2_with fail
      have HP4 := Lib.hid (HP.out.later hW4)
      refine (remove_none _ _ id _ _ _ ov W4 HP4.out).mono ?_
      rintro e W5 ⟨rfl, hW5⟩
      dsimp only
      have hP5 := HP4.out.later hW5
      have HP5 := Lib.hid hP5
      have hB5 : Below W.heap.size W W5 := (HB3.out.trans (hW4.mono HB3.out.size)).trans (hW5.mono (by have := HB3.out.size; have := hW4.size; omega))
      have HB5 := Lib.hid hB5
      clear hP5 hB5 hW5 hW4 HP4 HP
      go_wp2_with (go_at_call 27; refine (len_s _ _ id _ (by rw [HSl.out]; omega) _ _ ov _ HP5.out).mono ?_; rintro e _ ⟨rfl, rfl⟩; rw [HSl.out])
      go_ret
      exact ⟨by simp, HW.out.trans (HB5.out.mono zW)⟩

set_option maxHeartbeats 400000 in
theorem nil_out (v : Value) (l : List (Int × Int)) (hlen : 100 < l.length) (w : World) (H : ReadsAs w w.heap.size v l.length 2 (fun i cs => cs = [.int .i64 (l.getD i (0, 0)).1, .int .i64 (l.getD i (0, 0)).2])) :
    Calls Try.prog 10 #[v] w fun e w' => e = .returned (.bool true) ∧ Below w.heap.size w w' := by
  obtain ⟨A, cap, rfl, hc1, hc2, hA⟩ := H
  unfold maxLen at hc2
  clear hA
  go_enter Try.func10, Try.ntmps10
  go_wp2_with (go_at_call 11; refine (awake_any _).mono ?_; rintro e W ⟨rfl, hW⟩)
  go_ret
  exact ⟨rfl, hW⟩
theorem nil_any (v : Value) (l : List (Int × Int)) (w : World) (H : ReadsAs w w.heap.size v l.length 2 (fun i cs => cs = [.int .i64 (l.getD i (0, 0)).1, .int .i64 (l.getD i (0, 0)).2])) :
    Calls Try.prog 10 #[v] w fun e w' => e = .returned (.bool true) ∧ Below w.heap.size w w' := by
  by_cases h : l.length ≤ 100
  · exact nil_in v l h w (Reads2.of_as H)
  · exact nil_out v l (by omega) w H

set_option maxRecDepth 100000 in
theorem heapNil_lifted (os : Os) (started : os.Started) (H : Type) (enc : TypeId × Value → H) :
    ReturnsInHanded {} Try.checked os 10 .any (Rows.heapNilSpec.pre6 enc Try.prog Try.f10 Rows.heapNilRow.domain false) (Rows.heapNilSpec.post enc Try.prog Try.f10 false true false false) := by
  refine returnsInHanded_of_change (C := Try.checked) own started (by kernel_rfl) Try.func10
    (ChangeSpec.witness6 (enc := enc) (C := Try.checked) false ⟨#[], #[.slice none 0 0], []⟩ 8 (by kernel_rfl) (by kernel_rfl) (by kernel_rfl) (by kernel_rfl)) ?_
  intro W base args ds gs before hval0 hW hcnd _
  have hval : ∀ (j : Nat) t v, Try.f10.params[j]? = some t → args[j]? = some v → Value.okWide Try.prog W .any base t v := hval0
  have hW' := hW
  obtain ⟨p, q, hA0, hV, rfl, hfz, hnd⟩ := hW
  have hA : DataW.TrodAll enc Try.prog W 0 (fun _ => true) true Try.f10.params.toList args.toList ds p := hA0
  rw [Try.params10] at hA hval
  obtain ⟨v0, vs0, d0, ds0, p0, q0, hargs, rfl, rfl, h0, r0⟩ := trodAll_cons hA
  obtain ⟨rfl, rfl, rfl⟩ := trodAll_nil r0
  obtain rfl : args = #[v0] := by cases args; simp_all
  obtain ⟨rfl, rfl⟩ := trodVars_none hV
  have k0 := h0
  have lt0 : ∀ x ∈ p0, x.block < W.heap.size := by obtain ⟨m, hm⟩ := k0; exact DataW.trod_lt m _ _ _ hm
  have ok0 := hval 0 24 v0 rfl rfl
  obtain ⟨l0, R0, wf0⟩ := open_pairs_as Try.underlying24 Try.underlying26 Try.underlying3 Try.underlying3 (by kernel_rfl) (by kernel_rfl) rfl rfl (by kernel_rfl) ok0 h0
  clear hA0 hval0
  refine (nil_any v0 l0 W R0).mono fun e W' ⟨he, bel⟩ => ?_
  subst he
  exact ⟨_, rfl, _, _, _, [], _, [], hW', trodAll_mk1 (shut_bool Try.underlying4 _), (trodAll_cons_mk (Below.trod laidOut (by kernel_rfl) (of_decide_eq_true (by kernel_rfl)) k0 bel lt0) trodAll_mk0), rfl, bel.frame _, fun h => by cases h⟩

/-- The statement. -/
theorem heapNil_holds : Rows.HeapNilSaid :=
  OpenClaim.holds_of_wide 10 Try.f10 rfl rfl rfl rfl rfl rfl rfl ⟨rfl, rfl, rfl, rfl, rfl⟩ rfl rfl rfl rfl rfl (by kernel_rfl) Try.func10 (by kernel_rfl)
    (of_decide_eq_true (by kernel_rfl)) (by unfold Func.isWrapper; first | (rw [if_pos (by decide +kernel)]; kernel_rfl) | (rw [if_neg (by decide +kernel)]; exact ⟨rfl, rfl⟩))
    (fun os started H enc _ => heapNil_lifted os started H enc)


end Go.Proofs.Ytekdjjfbkcgmhaa
