/-
  What is proved here: the law HeapRemoves returns true for every input.
-/
import Derived.Test.YtekdjjfbkcgmhaaHpRemove
import Derived.Test.YtekdjjfbkcgmhaaLawPeeks
namespace Go.Proofs.Ytekdjjfbkcgmhaa
open Go.ChangeShapes Go.WideShapes Go.ChangeAt Go.RowKit Hp
set_option linter.unusedVariables false
set_option linter.unusedSimpArgs false

/-- Which items go. -/
def gone (key a b : Int) : Bool := decide (key ≤ a) && (b.tmod 2 == 0)
set_option maxHeartbeats 400000 in
theorem gone_any (key a b : Int) (kb : Nat) (w : World) (hc : w.cell? ⟨kb, 0, none⟩ = some (.int .i64 key)) (hs : kb < w.heap.size) :
    Calls Try.prog 29 #[.agg #[.int .i64 a, .int .i64 b], .pointer (some ⟨kb, 0, none⟩)] w fun e w' => e = .returned (.bool (gone key a b)) ∧ Below w.heap.size w w' := by
  by_cases h : key ≤ a
  · have hd := decide_eq_true h
    have HE := Lib.hid (show (b.tmod 2 == 0) = gone key a b by unfold gone; rw [hd]; rfl)
    go_enter Try.func29, Try.ntmps29
    go_wp2
    go_ret
    exact ⟨ret_bool HE.out, (Below.refl _ _).alloc (Nat.le_refl _) _⟩
  · have hd := decide_eq_false h
    have HE := Lib.hid (show false = gone key a b by unfold gone; rw [hd]; rfl)
    go_enter Try.func29, Try.ntmps29
    go_wp2
    go_ret
    exact ⟨ret_bool HE.out, (Below.refl _ _).alloc (Nat.le_refl _) _⟩
theorem gone_match (key : Int) (kb : Nat) (w : World) (hc : w.cell? ⟨kb, 0, none⟩ = some (.int .i64 key)) (hs : kb < w.heap.size) : Match 29 #[.pointer (some ⟨kb, 0, none⟩)] (gone key) w :=
  ⟨fun _ _ => by kernel_rfl, fun a b W hW => gone_any key a b kb W ((hW.cell (p := ⟨kb, 0, none⟩) hs).trans hc) (Nat.lt_of_lt_of_le hs hW.size)⟩
def keepP (key : Int) (x : Int × Int) : Bool := !(gone key x.1 x.2)
theorem keep_map (key : Int) (S : List It) : (S.filter (stay (gone key))).map It.kn = (S.map It.kn).filter (keepP key) := by
  induction S with
  | nil => rfl
  | cons a S ih =>
    simp only [List.filter_cons, List.map_cons]
    have e : keepP key a.kn = stay (gone key) a := rfl
    rw [e]
    by_cases c : stay (gone key) a = true
    · rw [if_pos c, if_pos c, List.map_cons, ih]
    · rw [if_neg c, if_neg c, ih]
theorem filter_take_next {α : Type} (p : α → Bool) (L : List α) (k : Nat) (x : α) (h : L[k]? = some x) : (L.take (k + 1)).filter p = (L.take k).filter p ++ (if p x = true then [x] else []) := by
  rw [List.take_add_one, List.filter_append, h]
  congr 1
  by_cases c : p x = true <;> simp [c]

set_option maxRecDepth 100000 in
set_option maxHeartbeats 4000000 in
theorem removes_in (v : Value) (l : List (Int × Int)) (key : Int) (hlen : l.length ≤ 300) (w : World) (H : Reads2 w w.heap.size v l) :
    Calls Try.prog 8 #[v, .int .i64 key] w fun e w' => e = .returned (.bool true) ∧ Below w.heap.size w w' := by
  have hmf : ∀ (fn : Fn) (first cap : Array Value) (w : World), (Instr.makeFunc fn first cap).run Try.prog w = .ok (.func fn first cap) w := fun _ _ _ _ => rfl
  obtain ⟨i0, hi, hz0, hz1, hz2⟩ := info_parts infoP
  obtain ⟨S, hS⟩ : ∃ S, srt id (tag l) = S := ⟨_, rfl⟩
  have hSl : S.length = l.length := by rw [← hS, srt_length, tag_length]
  have HSd := Lib.hid hS
  have HSl := Lib.hid hSl
  have hSlen : S.length ≤ 300 := by omega
  clear hS hSl
  have HR := Lib.hid H
  obtain ⟨A, cap, rfl, hA⟩ := H
  clear hA
  obtain ⟨V, hV⟩ : ∃ V, w.alloc (Obj.cells #[.int .i64 key] 3) = V := ⟨_, rfl⟩
  have hVb : Below w.heap.size w V := hV ▸ (Below.refl _ _).alloc (Nat.le_refl _) _
  have hVk : V.heap[w.heap.size]? = some (Obj.cells #[.int .i64 key] 3) := hV ▸ alloc_new _ _
  have HV := Lib.hid hV
  have HVb := Lib.hid hVb
  have HVk := Lib.hid hVk
  have zV := lt_of_block hVk
  clear hV hVb hVk
  go_enter Try.func8, Try.ntmps8
  go_upto_region 1 with fail
  rw [HV.out]
  go_upto_region 5 with (go_at_call 11; refine (awake_any _).mono ?_; rintro e W ⟨rfl, hW⟩)
  have HW := Lib.hid hW
  have zW := hW.size
  have hRW : Reads2 W W.heap.size (.slice A l.length cap) l := ((HR.out.keep HVb.out).keep (hW.mono (by omega))).more (by omega)
  have HRW := Lib.hid hRW
  clear hW hRW HR
  go_upto_region 6 with (go_at_call 13; first | (refine (pushed_s _ l (by omega) W HRW.out).mono ?_; rintro e W1 ⟨ova, rfl, hPa, hB1⟩; rw [HSd.out] at hPa) | (refine (pushed_s _ l (by omega) W1 ((HRW.out.keep hB1).more hB1.size)).mono ?_; rintro e W2 ⟨ovb, rfl, hPb, hB2⟩; rw [HSd.out] at hPb))
  have zb1 : W.heap.size < W1.heap.size := hPa.blk
  have zb2 : W1.heap.size < W2.heap.size := hPb.blk
  have hPa2 := hPa.later hB2
  have hBW2 : Below W.heap.size W W2 := hB1.trans (hB2.mono (by omega))
  have hBV2 : Below V.heap.size V W2 := HW.out.trans (hBW2.mono zW)
  have hk2 : W2.heap[w.heap.size]? = some (Obj.cells #[.int .i64 key] 3) := (hBV2.block _ zV).trans HVk.out
  have hc2 : W2.cell? ⟨w.heap.size, 0, none⟩ = some (.int .i64 key) := by simp [World.cell?, hk2]
  have HPa := Lib.hid hPa2
  have HPb := Lib.hid hPb
  have HBV2 := Lib.hid hBV2
  have Hc2 := Lib.hid hc2
  have zk2 := lt_of_block hk2
  clear hPa hPa2 hPb hBW2 hBV2 hk2 hc2 hB1 hB2
  go_upto_region 8 with (go_at_call 28; refine (remove_s W.heap.size _ id byKey_lessOf _ _ (gone key) S (by omega) W.heap.size _ ova W2 (by omega) (gone_match key w.heap.size W2 Hc2.out zk2) HPa.out).mono ?_; rintro e W3 ⟨rfl, ovc, hPa3, hT3, hn3⟩)
  have hPb3 : HpS W3 W1.heap.size W1.heap.size 23 id S l.length ovb := HPb.out.other hT3 (by omega) (by simp) (fun e => by have := HPb.out.ov_ge _ e; omega) (by cases ovb <;> simp)
  have hB3 : Below V.heap.size V W3 := HBV2.out.trans (hT3.below zW (by omega) (fun k hk => by cases hk))
  have hlt3 := HPb.out.ov_lt
  have z3 := hT3.size
  have HPa3 := Lib.hid hPa3
  have HPb3 := Lib.hid hPb3
  have HB3 := Lib.hid hB3
  have Hlt3 := Lib.hid hlt3
  have Hn3 := Lib.hid hn3
  clear hPa3 hPb3 hB3 hT3 hlt3 hn3 HPa HPb HBV2 Hc2
  have hlF : (S.filter (stay (gone key))).length ≤ S.length := List.length_filter_le _ _
  obtain ⟨F, hF⟩ : ∃ F, S.filter (stay (gone key)) = F := ⟨_, rfl⟩
  rw [hF] at hlF HPa3 ⊢
  have HF := Lib.hid hF
  clear hF
  go_upto_region 9 with (go_at_call 12; refine (popped_s W1.heap.size _ id byKey_lessOf S (by omega) W1.heap.size _ ovb W3 HPb3.out).mono ?_; rintro e W4 ⟨p24, rfl, hown4, hPb4, hT4⟩; obtain ⟨a24, c24, rfl⟩ := own_len hown4)
  have hPa4 : HpS W4 W.heap.size W.heap.size 23 id F l.length ovc := by
    refine HPa3.out.other hT4 (by omega) (fun e => ?_) (fun e => ?_) ?_
    · have := HPb3.out.ov_ge _ e.symm; omega
    · rcases Hn3.out with rfl | ⟨g, rfl, hg⟩
      · cases e
      · simp at e; omega
    · rcases Hn3.out with rfl | ⟨g, rfl, hg⟩
      · exact .inl rfl
      · exact .inr fun e => by have := Hlt3.out _ e.symm; omega
  have hB4 : Below V.heap.size V W4 := HB3.out.trans (hT4.below (by omega) (by omega) (fun k hk => by have := HPb3.out.ov_ge k hk; omega))
  have hk4 : W4.heap[w.heap.size]? = some (Obj.cells #[.int .i64 key] 3) := (hB4.block _ zV).trans HVk.out
  have z4 := hT4.size
  have HPa4 := Lib.hid hPa4
  have HB4 := Lib.hid hB4
  have HO4 := Lib.hid hown4
  have Hk4 := Lib.hid hk4
  have zk4 := lt_of_block hk4
  clear hPa4 hB4 hown4 hk4 hT4 hPb4 HPa3 HPb3 HB3 Hlt3 Hn3
  obtain ⟨O, hO⟩ : ∃ O, S.map It.kn = O := ⟨_, rfl⟩
  have hOl : O.length = S.length := by rw [← hO, List.length_map]
  rw [hO, ← hOl] at HO4
  have HOd := Lib.hid hO
  have HOl := Lib.hid hOl
  clear hO hOl
  obtain ⟨wo, rfl⟩ : ∃ wo : World, wo = W4 := ⟨_, rfl⟩
  go_wp2_with fail
  go_loopw [8, 10, 26] (fun r a i wr => ∃ k : Nat, k ≤ S.length ∧ i = .int .i64 (k : Int) ∧ wr.ownsRow wo.heap.size 26 2 r ((O.take k).filter (keepP key)).length (flat2 ((O.take k).filter (keepP key))) ∧ Below wo.heap.size wo wr) (fun _ _ i _ => S.length - (intOf i).toNat)
  case atStart => exact ⟨0, Nat.zero_le _, rfl, ⟨rfl, .inl ⟨rfl, rfl⟩⟩, Below.refl _ _⟩
  case round =>
    obtain ⟨k, hk, rfl, hown, hB⟩ := hrel
    have HO := Lib.hid hown
    have HB := Lib.hid hB
    have zr := hB.size
    have hKl : ((O.take k).filter (keepP key)).length ≤ k := Nat.le_trans (List.length_filter_le _ _) (by simp; omega)
    clear hown hB
    have hkr : wr.heap[w.heap.size]? = some (Obj.cells #[.int .i64 key] 3) := (HB.out.block _ zk4).trans Hk4.out
    have ck : wr.cell? ⟨w.heap.size, 0, none⟩ = some (.int .i64 key) := by simp [World.cell?, hkr]
    have zkr := lt_of_block hkr
    clear hkr
    by_cases hlt : k < S.length
    · obtain ⟨⟨x1, x2⟩, hx⟩ : ∃ x, O[k]? = some x := ⟨_, List.getElem?_eq_getElem (by rw [HOl.out]; exact hlt)⟩
      obtain ⟨g, cp, e', hg1, hg2, d1, d2, _⟩ := own2_at HO4.out k _ hx
      simp only [Value.slice.injEq] at e'
      obtain ⟨rfl, e'', rfl⟩ := e'
      simp only at d1 d2
      rw [← HB.out.cell (p := ⟨g, k * 2, none⟩) hg2] at d1
      rw [← HB.out.cell (p := ⟨g, k * 2 + 1, none⟩) hg2] at d2
      have hgr : g < wr.heap.size := by omega
      have FT := Lib.hid (filter_take_next (keepP key) O k _ hx)
      clear e'' hx
      cases ms : gone key x1 x2
      · have KP := Lib.hid (show keepP key (x1, x2) = true by simp [keepP, ms])
        by_cases hx1 : x1 < key
        · have q1 := decide_eq_true hx1
          clear ms
          go_wp2_with (at_builtin; refine wpList_append_own _ rfl (.tmp 40) (.tmp 42) 24 rfl wo.heap.size 26 i0 _ 2 16 Try.underlying24 hi hz0 hz1 hz2 rfl (by decide) _ _ _ rfl ((HO.out.alloc _).alloc _) ⟨wr.heap.size + 1, 0, none⟩ 1 1 (flat2 [(x1, x2)]) rfl rfl (by have := cells_new2 (wr.alloc (Obj.cells #[.int .i64 x1, .int .i64 x2] 26)) x1 x2 26; rw [World.size_alloc] at this; exact this) (one_cells2 _ _) (by unfold maxLen; omega) (by omega) (by simp; omega) ?_; intro v' W' hown' hgrow _)
          go_roundw
          case rel =>
            refine ⟨k + 1, by omega, by go_num, ?_, (HB.out.trans ((Below.two wr _ _).mono zr)).grown hgrow (by simp; omega) (fun q hq => (HO.out.lt q hq).1)⟩
            rw [FT.out, KP.out, if_pos rfl, List.length_append, flat2_append]
            exact hown'
          case measure => simp [intOf]; omega
        · have q1 := decide_eq_false hx1
          have q2 : (x2.tmod 2 != 0) = true := by
            unfold gone at ms
            rw [decide_eq_true (show key ≤ x1 by omega)] at ms
            simpa using ms
          clear ms
          go_wp2_with (at_builtin; refine wpList_append_own _ rfl (.tmp 40) (.tmp 42) 24 rfl wo.heap.size 26 i0 _ 2 16 Try.underlying24 hi hz0 hz1 hz2 rfl (by decide) _ _ _ rfl ((HO.out.alloc _).alloc _) ⟨wr.heap.size + 1, 0, none⟩ 1 1 (flat2 [(x1, x2)]) rfl rfl (by have := cells_new2 (wr.alloc (Obj.cells #[.int .i64 x1, .int .i64 x2] 26)) x1 x2 26; rw [World.size_alloc] at this; exact this) (one_cells2 _ _) (by unfold maxLen; omega) (by omega) (by simp; omega) ?_; intro v' W' hown' hgrow _)
          go_roundw
          case rel =>
            refine ⟨k + 1, by omega, by go_num, ?_, (HB.out.trans ((Below.two wr _ _).mono zr)).grown hgrow (by simp; omega) (fun q hq => (HO.out.lt q hq).1)⟩
            rw [FT.out, KP.out, if_pos rfl, List.length_append, flat2_append]
            exact hown'
          case measure => simp [intOf]; omega
      · have KP := Lib.hid (show keepP key (x1, x2) = false by simp [keepP, ms])
        unfold gone at ms
        simp only [Bool.and_eq_true, decide_eq_true_eq] at ms
        have q1 : decide (x1 < key) = false := by simp; omega
        have q2 : (x2.tmod 2 != 0) = false := by simpa using ms.2
        clear ms
        go_wp2_with fail
        go_roundw
        case rel =>
          refine ⟨k + 1, by omega, by go_num, ?_, HB.out.alloc zr _⟩
          rw [FT.out, KP.out, if_neg (by simp), List.append_nil]
          exact HO.out.alloc _
        case measure => simp [intOf]; omega
    · obtain rfl : k = S.length := by omega
      have hfin : (O.take S.length).filter (keepP key) = F.map It.kn := by
        rw [List.take_of_length_le (by rw [HOl.out]; omega), ← HOd.out, ← keep_map, HF.out]
      rw [hfin, List.length_map] at HO
      obtain ⟨ra, rc, rfl⟩ := own_len HO.out
      have hPar := HPa4.out.later HB.out
      have HPar := Lib.hid hPar
      clear hPar hfin hKl
      have hlS : S.length = l.length := HSl.out
      go_upto_region 14 with fail
      rw [← hlS]
      clear hlS
      go_wp2_with (first | (go_at_call 27; refine (len_s W.heap.size _ id _ (by omega) W.heap.size _ ovc _ HPar.out).mono ?_; rintro e _ ⟨rfl, rfl⟩) | (go_at_call 12; refine (popped_s W.heap.size _ id byKey_lessOf F (by omega) W.heap.size _ ovc wr HPar.out).mono ?_; rintro e W5 ⟨p5, rfl, hown5, hPa5, hT5⟩))
      have hr5 := (HPar.out.keeps hT5).own HO.out (by decide) (by decide)
      have hB5 : Below V.heap.size V W5 := (HB4.out.trans (HB.out.mono (by omega))).trans (hT5.below zW (by omega) (fun k hk => by have := HPar.out.ov_ge k hk; omega))
      have e1 : F.length = (F.map It.kn).length := by simp
      refine (same_yes _ _ (F.map It.kn) (by rw [List.length_map]; omega) W5 _ (Nat.le_refl _) (Reads2.of_own (by rw [← e1]; exact hown5)) (Reads2.of_own (by rw [← e1]; exact hr5))).mono ?_
      rintro e W6 ⟨rfl, hB6⟩
      dsimp only
      go_wp2_with fail
      go_ret
      have z5 := hB5.size
      exact ⟨rfl, HVb.out.trans ((hB5.trans (hB6.mono z5)).mono (by omega))⟩

set_option maxHeartbeats 400000 in
theorem removes_out (v : Value) (l : List (Int × Int)) (key : Int) (hlen : 300 < l.length) (w : World) (H : ReadsAs w w.heap.size v l.length 2 (fun i cs => cs = [.int .i64 (l.getD i (0, 0)).1, .int .i64 (l.getD i (0, 0)).2])) :
    Calls Try.prog 8 #[v, .int .i64 key] w fun e w' => e = .returned (.bool true) ∧ Below w.heap.size w w' := by
  obtain ⟨A, cap, rfl, hc1, hc2, hA⟩ := H
  unfold maxLen at hc2
  clear hA
  go_enter Try.func8, Try.ntmps8
  go_wp2_with (go_at_call 11; refine (awake_any _).mono ?_; rintro e W ⟨rfl, hW⟩)
  go_ret
  exact ⟨rfl, ((Below.refl _ _).alloc (Nat.le_refl _) _).trans (hW.mono (by simp))⟩
theorem removes_any (v : Value) (l : List (Int × Int)) (key : Int) (w : World) (H : ReadsAs w w.heap.size v l.length 2 (fun i cs => cs = [.int .i64 (l.getD i (0, 0)).1, .int .i64 (l.getD i (0, 0)).2])) :
    Calls Try.prog 8 #[v, .int .i64 key] w fun e w' => e = .returned (.bool true) ∧ Below w.heap.size w w' := by
  by_cases h : l.length ≤ 300
  · exact removes_in v l key h w (Reads2.of_as H)
  · exact removes_out v l key (by omega) w H

set_option maxRecDepth 100000 in
theorem heapRemoves_lifted (os : Os) (started : os.Started) (H : Type) (enc : TypeId × Value → H) :
    ReturnsInHanded {} Try.checked os 8 .any (Rows.heapRemovesSpec.pre6 enc Try.prog Try.f8 Rows.heapRemovesRow.domain false) (Rows.heapRemovesSpec.post enc Try.prog Try.f8 false true false false) := by
  refine returnsInHanded_of_change (C := Try.checked) own started (by kernel_rfl) Try.func8
    (ChangeSpec.witness6 (enc := enc) (C := Try.checked) false ⟨#[], #[.slice none 0 0, .int .i64 0], []⟩ 8 (by kernel_rfl) (by kernel_rfl) (by kernel_rfl) (by kernel_rfl)) ?_
  intro W base args ds gs before hval0 hW hcnd _
  have hval : ∀ (j : Nat) t v, Try.f8.params[j]? = some t → args[j]? = some v → Value.okWide Try.prog W .any base t v := hval0
  have hW' := hW
  obtain ⟨p, q, hA0, hV, rfl, hfz, hnd⟩ := hW
  have hA : DataW.TrodAll enc Try.prog W 0 (fun _ => true) true Try.f8.params.toList args.toList ds p := hA0
  rw [Try.params8] at hA hval
  obtain ⟨v0, vs0, d0, ds0, p0, q0, hargs, rfl, rfl, h0, r0⟩ := trodAll_cons hA
  obtain ⟨v1, vs1, d1, ds1, p1, q1, rfl, rfl, rfl, h1, r1⟩ := trodAll_cons r0
  obtain ⟨rfl, rfl, rfl⟩ := trodAll_nil r1
  obtain rfl : args = #[v0, v1] := by cases args; simp_all
  obtain ⟨rfl, rfl⟩ := trodVars_none hV
  have k0 := h0
  have lt0 : ∀ x ∈ p0, x.block < W.heap.size := by obtain ⟨m, hm⟩ := k0; exact DataW.trod_lt m _ _ _ hm
  have ok0 := hval 0 24 v0 rfl rfl
  have k1 := h1
  have lt1 : ∀ x ∈ p1, x.block < W.heap.size := by obtain ⟨m, hm⟩ := k1; exact DataW.trod_lt m _ _ _ hm
  have ok1 := hval 1 3 v1 rfl rfl
  obtain ⟨l0, R0, wf0⟩ := open_pairs_as Try.underlying24 Try.underlying26 Try.underlying3 Try.underlying3 (by kernel_rfl) (by kernel_rfl) rfl rfl (by kernel_rfl) ok0 h0
  obtain ⟨a1, rfl, e1, f1, w1⟩ := open_int Try.underlying3 ok1 h1
  clear hA0 hval0
  refine (removes_any v0 l0 a1 W R0).mono fun e W' ⟨he, bel⟩ => ?_
  subst he
  exact ⟨_, rfl, _, _, _, [], _, [], hW', trodAll_mk1 (shut_bool Try.underlying4 _), (trodAll_cons_mk (Below.trod laidOut (by kernel_rfl) (of_decide_eq_true (by kernel_rfl)) k0 bel lt0) (trodAll_cons_mk (Below.trod laidOut (by kernel_rfl) (of_decide_eq_true (by kernel_rfl)) k1 bel lt1) trodAll_mk0)), rfl, bel.frame _, fun h => by cases h⟩

/-- The statement. -/
theorem heapRemoves_holds : Rows.HeapRemovesSaid :=
  OpenClaim.holds_of_wide 8 Try.f8 rfl rfl rfl rfl rfl rfl rfl ⟨rfl, rfl, rfl, rfl, rfl⟩ rfl rfl rfl rfl rfl (by kernel_rfl) Try.func8 (by kernel_rfl)
    (of_decide_eq_true (by kernel_rfl)) (by unfold Func.isWrapper; first | (rw [if_pos (by decide +kernel)]; kernel_rfl) | (rw [if_neg (by decide +kernel)]; exact ⟨rfl, rfl⟩))
    (fun os started H enc _ => heapRemoves_lifted os started H enc)


end Go.Proofs.Ytekdjjfbkcgmhaa
