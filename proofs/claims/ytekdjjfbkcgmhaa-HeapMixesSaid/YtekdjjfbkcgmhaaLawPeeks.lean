/-
  What is proved here: the law HeapPeeks returns true for every input.
-/
import Derived.Test.YtekdjjfbkcgmhaaHpSorted
import Derived.Test.YtekdjjfbkcgmhaaAppRow
import Derived.Test.YtekdjjfbkcgmhaaLawSorts
namespace Go.Proofs.Ytekdjjfbkcgmhaa
open Go.ChangeShapes Go.WideShapes Go.ChangeAt Go.RowKit Hp
set_option linter.unusedVariables false
set_option linter.unusedSimpArgs false

theorem one_flat2 (l : List (Int × Int)) : ∀ u ∈ flat2 l, u.oneCell' = true := by
  intro u hu
  simp only [flat2, List.mem_flatMap] at hu
  obtain ⟨x, _, hx⟩ := hu
  simp only [List.mem_cons, List.not_mem_nil, or_false] at hx
  rcases hx with rfl | rfl <;> rfl
theorem flat2_setKey (l : List (Int × Int)) : ∀ (i : Nat) (x : Int × Int) (a : Int), l[i]? = some x → (flat2 l).set (i * 2) (.int .i64 a) = flat2 (l.set i (a, x.2)) := by
  induction l with
  | nil => intro i x a h; simp at h
  | cons y l ih =>
    intro i x a h
    cases i with
    | zero => simp at h; subst h; rfl
    | succ i =>
      rw [List.set_cons_succ, flat2_cons, flat2_cons, ← ih i x a (by simpa using h), show (i + 1) * 2 = i * 2 + 2 by omega]
      rfl

theorem own_grown {w w' : World} {B n size : Nat} {e : TypeId} {v : Value} {xs : List Value} {row : Option Nat} (h : w.ownsRow B e size v n xs) (g : w.grownBy w' row) (hne : v.ownBlock = none ∨ v.ownBlock ≠ row) : w'.ownsRow B e size v n xs := by
  refine ⟨h.1, ?_⟩
  rcases h.2 with h0 | ⟨q, cap, cur, rfl, hb, hk, hr⟩
  · exact .inl h0
  · refine .inr ⟨q, cap, cur, rfl, hb, ?_, hr⟩
    rw [g.block q (lt_of_block hk) (by simpa [Value.ownBlock] using hne)]
    exact hk
theorem own_lt {w : World} {B n size : Nat} {e : TypeId} {v : Value} {xs : List Value} (h : w.ownsRow B e size v n xs) {W : Nat} (hW : w.heap.size ≤ W) : v.ownBlock = none ∨ v.ownBlock ≠ some W := by
  refine .inr fun e => ?_
  have := (h.lt _ e).2
  omega
theorem own_apart {w : World} {B B' n m size size' : Nat} {e e' : TypeId} {v u : Value} {xs ys : List Value} {W : World} (h : w.ownsRow B e size v n xs) (hu : W.ownsRow B' e' size' u m ys) (hB : W.heap.size ≤ B) : v.ownBlock = none ∨ v.ownBlock ≠ u.ownBlock := by
  cases hv : v.ownBlock with
  | none => exact .inl rfl
  | some q =>
    refine .inr fun e => ?_
    have h1 := (h.lt q hv).1
    have h2 := (hu.lt q e.symm).2
    omega

theorem own2_at {w : World} {B : Nat} {v : Value} {M : List (Int × Int)} (h : w.ownsRow B 26 2 v M.length (flat2 M)) (i : Nat) (x : Int × Int) (hi : M[i]? = some x) :
    ∃ g cap, v = .slice (some ⟨g, 0, none⟩) M.length cap ∧ B ≤ g ∧ g < w.heap.size ∧ w.cell? ⟨g, i * 2, none⟩ = some (.int .i64 x.1) ∧ w.cell? ⟨g, i * 2 + 1, none⟩ = some (.int .i64 x.2) ∧ w.frozen? ⟨g, i * 2, none⟩ = false := by
  have hil := (List.getElem?_eq_some_iff.1 hi).1
  rcases h.2 with ⟨_, h0⟩ | ⟨g, cap, cur, rfl, hb, hg, hn, hm, hsz, ht⟩
  · omega
  · have key : ∀ j, j < M.length * 2 → cur.toList[j]? = (flat2 M)[j]? := by
      intro j hj
      have := congrArg (fun x => x[j]?) ht
      simp only [List.getElem?_take, hj, if_true] at this
      exact this
    obtain ⟨f1, f2⟩ := flat2_get M i x hi
    refine ⟨g, cap, rfl, hb, lt_of_block hg, ?_, ?_, by simp [World.frozen?, hg]⟩
    · have := (key (i * 2) (by omega)).trans f1
      simpa [World.cell?, hg] using this
    · have := (key (i * 2 + 1) (by omega)).trans f2
      simpa [World.cell?, hg] using this

set_option maxRecDepth 100000 in
set_option maxHeartbeats 4000000 in
theorem peeks_in (v : Value) (l : List (Int × Int)) (hlen : l.length ≤ 300) (w : World) (H : Reads2 w w.heap.size v l) :
    Calls Try.prog 7 #[v] w fun e w' => e = .returned (.bool true) ∧ Below w.heap.size w w' := by
  obtain ⟨i0, hi, hz0, hz1, hz2⟩ := info_parts infoP
  have hne : ∀ (a b : Int) (w : World), (binOp .neq 26 (.agg #[.int .i64 a, .int .i64 b]) (.agg #[.int .i64 a, .int .i64 b])).run Try.prog w = .ok (.bool false) w := fun a b w => by rw [ne_it]; simp
  obtain ⟨S, hS⟩ : ∃ S, srt id (tag l) = S := ⟨_, rfl⟩
  have hSl : S.length = l.length := by rw [← hS, srt_length, tag_length]
  have HSd := Lib.hid hS
  have HSl := Lib.hid hSl
  have hSlen : S.length ≤ 300 := by omega
  clear hS hSl
  have HR := Lib.hid H
  obtain ⟨A, cap, rfl, hA⟩ := H
  clear hA
  go_enter Try.func7, Try.ntmps7
  go_upto_region 7 with (first | (go_at_call 11; refine (awake_any _).mono ?_; rintro e W ⟨rfl, hW⟩) | (go_at_call 13; refine (pushed_s _ l (by omega) W ((HR.out.keep hW).more hW.size)).mono ?_; rintro e W1 ⟨ov, rfl, hP, hB1⟩; rw [HSd.out] at hP) | (go_at_call 26; refine (sorted_s W.heap.size _ id byKey_lessOf S (by omega) W.heap.size _ ov W1 hP).mono ?_; rintro e W2 ⟨v4, rfl, hown4, hB2⟩))
  have HW := Lib.hid hW
  have HB1 := Lib.hid hB1
  have HB2 := Lib.hid hB2
  have HO4 := Lib.hid hown4
  have HP2 := Lib.hid (hP.later hB2)
  have z1 := hW.size
  have z2 := hB1.size
  have z3 := hB2.size
  clear hW hB1 hB2 hown4 hP
  have he0 : (W2.alloc (Obj.cells #[] 26)).ownsRow W2.heap.size 26 2 (.slice (some ⟨W2.heap.size, 0, none⟩) 0 0) 0 [] := ⟨rfl, .inr ⟨W2.heap.size, 0, #[], rfl, Nat.le_refl _, alloc_new _ _, Nat.le_refl _, by unfold maxLen; omega, rfl, rfl⟩⟩
  go_upto_region 8 with (at_builtin; refine wpList_append_row rfl (.tmp 25) (.tmp 26) 24 rfl W2.heap.size 26 i0 _ 2 16 Try.underlying24 hi hz0 hz1 hz2 rfl (by decide) _ _ _ rfl he0 W1.heap.size v4 S.length _ rfl (HO4.out.alloc _) (one_flat2 _) (by unfold maxLen; omega) (by omega) (by simp) ?_; intro v5 W3 hown5 hgrow _; rw [Nat.zero_add, List.nil_append] at hown5)
  obtain ⟨a4, c4, rfl⟩ := own_len HO4.out
  obtain ⟨a5, c5, rfl⟩ := own_len hown5
  have hbW : W.heap.size < W2.heap.size := HP2.out.blk
  change (W2.alloc _).grownBy W3 (some W2.heap.size) at hgrow
  have hP3 : HpS W3 W.heap.size W.heap.size 23 id S l.length ov := (HP2.out.alloc _).grown hgrow (by simp; omega) (.inr (fun e => by have := HP2.out.ov_lt _ e.symm; simp at this))
  have hO43 : W3.ownsRow W1.heap.size 26 2 (.slice a4 S.length c4) S.length (flat2 (S.map It.kn)) := own_grown (HO4.out.alloc _) hgrow (own_lt HO4.out (Nat.le_refl _))
  have hB3 : Below W.heap.size W W3 := ((HB1.out.trans (HB2.out.mono z2)).alloc (by omega) _).grown hgrow (by simp; omega) (fun k hk => by simp at hk; omega)
  have HO2 := Lib.hid HO4.out
  have H1 := Lib.hid hP3
  have H2 := Lib.hid hO43
  have H3 := Lib.hid hB3
  have H5 := Lib.hid hown5
  clear hP3 hO43 hB3 hown5 hgrow he0 HO4 HP2
  go_wp2_with fail
  go_loopw [6, 30] (fun a i wr => ∃ (k : Nat) (M : List (Int × Int)), k ≤ S.length ∧ i = .int .i64 (k : Int) ∧ M.length = S.length ∧ wr.ownsRow W1.heap.size 26 2 (.slice a4 S.length c4) M.length (flat2 M) ∧ wr.ownsRow W2.heap.size 26 2 (.slice a5 S.length c5) S.length (flat2 (S.map It.kn)) ∧ HpS wr W.heap.size W.heap.size 23 id S l.length ov ∧ Below W.heap.size W wr) (fun _ i _ => S.length - (intOf i).toNat)
  case atStart => exact ⟨0, S.map It.kn, Nat.zero_le _, rfl, by simp, by rw [List.length_map]; exact H2.out, H5.out, H1.out, H3.out⟩
  case round =>
    obtain ⟨k, M, hk, rfl, hM, hM4, hO5, hP, hB⟩ := hrel
    clear H1 H2 H3 H5
    have HM := Lib.hid hM
    have HM4 := Lib.hid hM4
    have HO5 := Lib.hid hO5
    have HP := Lib.hid hP
    have HB := Lib.hid hB
    clear hM hM4 hO5 hP hB
    by_cases hlt : k < S.length
    · obtain ⟨⟨x1, x2⟩, hx⟩ : ∃ x, M[k]? = some x := ⟨_, List.getElem?_eq_getElem (by rw [HM.out]; exact hlt)⟩
      obtain ⟨g4, cp, e', hg1, hg2, d1, d2, hfz⟩ := own2_at HM4.out k _ hx
      simp only [Value.slice.injEq] at e'
      obtain ⟨rfl, e'', rfl⟩ := e'
      rw [← e''] at HM4
      obtain ⟨s1, s2⟩ := HM4.out.stored (k * 2) (.int .i64 (wrap64 (x1 + 1)))
      rw [flat2_setKey M k _ _ hx] at s1
      simp only at d1 d2 s1
      have S1 := Lib.hid s1
      have S2 := Lib.hid s2
      clear e'' hx s1 s2
      go_wp2_with fail
      go_roundw
      case rel =>
        obtain ⟨p1, p2⟩ := HP.out.apart HM4.out (by decide) (by decide)
        refine ⟨k + 1, M.set k (wrap64 (x1 + 1), x2), by omega, by go_num, by rw [List.length_set]; exact HM.out, by rw [List.length_set, HM.out]; exact S1.out, own_grown HO5.out S2.out (own_apart HO5.out HO2.out (Nat.le_refl _)), HP.out.grown S2.out p1 p2, HB.out.grown S2.out HB.out.size (fun q hq => by simp at hq; omega)⟩
      case measure => simp [intOf]; omega
    · obtain rfl : k = S.length := by omega
      obtain ⟨wo, rfl⟩ : ∃ wo : World, wo = wr := ⟨_, rfl⟩
      clear HM4 HM M
      go_wp2_with fail
      go_loopw [8, 9, 10, 11, 12, 13, 44] (fun x8 x9 x10 x11 x12 x13 i wr => ∃ k : Nat, k ≤ S.length ∧ i = .int .i64 (k : Int) ∧ wr.ownsRow W2.heap.size 26 2 (.slice a5 S.length c5) S.length (flat2 (S.map It.kn)) ∧ HpS wr W.heap.size W.heap.size 23 id (S.drop k) l.length ov ∧ Below W.heap.size W wr) (fun _ _ _ _ _ _ i _ => S.length - (intOf i).toNat)
      case atStart => exact ⟨0, Nat.zero_le _, rfl, HO5.out, HP.out, HB.out⟩
      case round =>
        clear HO5 HP HB
        obtain ⟨k, hk, rfl, hO5, hP, hB⟩ := hrel
        have HO5 := Lib.hid hO5
        have HB := Lib.hid hB
        by_cases hlt : k < S.length
        · obtain ⟨s, T, hs⟩ : ∃ s T, S.drop k = s :: T := ⟨S[k], S.drop (k + 1), by rw [List.drop_eq_getElem_cons hlt]⟩
          have hT' : S.drop (k + 1) = T := by rw [← List.drop_drop, hs]; rfl
          have hTl : T.length ≤ 300 := by have := congrArg List.length hs; simp at this; omega
          rw [hs] at hP
          have hx : (S.map It.kn)[k]? = some (s.key, s.name) := by
            rw [List.getElem?_map]
            have := congrArg List.head? hs
            rw [List.head?_drop] at this
            rw [this]; rfl
          rw [show S.length = (S.map It.kn).length by simp] at hO5
          obtain ⟨g5, cp, e', hg1, hg2, d1, d2, _⟩ := own2_at hO5 k _ hx
          simp only [Value.slice.injEq] at e'
          obtain ⟨rfl, e'', rfl⟩ := e'
          simp only at d1 d2
          have HP := Lib.hid hP
          have HT := Lib.hid hT'
          clear hP hT' hs hx e'' hO5 hB
          go_upto_region 17 with (go_at_call 27; refine (len_s W.heap.size _ id _ (by simp; omega) W.heap.size _ ov _ (HP.out.alloc _)).mono ?_; rintro e _ ⟨rfl, rfl⟩)
          have hsr := HB.out.size
          have K8 := Lib.hid (alloc_new wr (Obj.cells #[.int .i64 s.key, .int .i64 s.name] 26))
          go_upto_region 18 with (go_at_call 25; refine (peek_s W.heap.size _ id _ s (by omega) W.heap.size _ ov _ (HP.out.alloc _)).mono ?_; rintro e W4 ⟨rfl, hW4⟩)
          have hP4 := (HP.out.alloc (Obj.cells #[.int .i64 s.key, .int .i64 s.name] 26)).later hW4
          have k8 := (Keeps.of_below hW4).block K8.out (by decide) (by decide)
          have k10 := alloc_new W4 (Obj.cells #[.int .i64 s.key, .int .i64 s.name] 26)
          have hO4 := (Keeps.of_below hW4).own (HO5.out.alloc (Obj.cells #[.int .i64 s.key, .int .i64 s.name] 26)) (by decide) (by decide)
          have hB4 : Below W.heap.size W W4 := (HB.out.alloc hsr _).trans (hW4.mono (by simp; omega))
          have z4 : wr.heap.size < W4.heap.size := by have := hW4.size; simp at this; omega
          have HP4 := Lib.hid (hP4.alloc (Obj.cells #[.int .i64 s.key, .int .i64 s.name] 26))
          have K8' := Lib.hid (alloc_block (Obj.cells #[.int .i64 s.key, .int .i64 s.name] 26) k8)
          have K10 := Lib.hid k10
          have HO4 := Lib.hid (hO4.alloc (Obj.cells #[.int .i64 s.key, .int .i64 s.name] 26))
          have HB4 := Lib.hid (hB4.alloc hB4.size (Obj.cells #[.int .i64 s.key, .int .i64 s.name] 26))
          have z5 := hB4.size
          clear hW4 hP4 k8 k10 hO4 hB4 K8 d1 d2
          go_upto_region 21 with (first | (go_at_call 27; refine (len_s W.heap.size _ id _ (by simp; omega) W.heap.size _ ov _ HP4.out).mono ?_; rintro e _ ⟨rfl, rfl⟩) | (go_at_call 24; refine (pop_s W.heap.size _ id byKey_lessOf T s (by omega) W.heap.size _ ov _ HP4.out).mono ?_; rintro e W5 ⟨rfl, hP5, hT5⟩))
          have hk := HP4.out.keeps hT5
          have k8 := hk.block K8'.out (by decide) (by decide)
          have k10 := hk.block K10.out (by decide) (by decide)
          have hO5' := hk.own HO4.out (by decide) (by decide)
          have hB5 : Below W.heap.size W W5 := HB4.out.trans (hT5.below (Nat.le_refl _) HB4.out.size HP4.out.ov_ge)
          have z6 : W4.heap.size < W5.heap.size := lt_of_block k10
          have y1 : W5.cell? ⟨wr.heap.size, 0, none⟩ = some (.int .i64 s.key) := by simp [World.cell?, k8]
          have y2 : W5.cell? ⟨wr.heap.size, 1, none⟩ = some (.int .i64 s.name) := by simp [World.cell?, k8]
          have y3 : W5.cell? ⟨W4.heap.size, 0, none⟩ = some (.int .i64 s.key) := by simp [World.cell?, k10]
          have y4 : W5.cell? ⟨W4.heap.size, 1, none⟩ = some (.int .i64 s.name) := by simp [World.cell?, k10]
          have y5 : wr.heap.size < W5.heap.size := by omega
          have HP5 := Lib.hid hP5
          have HO5' := Lib.hid hO5'
          have HB5 := Lib.hid hB5
          clear hk k8 k10 hO5' hB5 hT5 hP5 HP4 HB4 HO4 K8' K10
          go_wp2_with (go_at_call 27; refine (len_s W.heap.size _ id _ (by omega) W.heap.size _ ov _ (HP5.out.alloc _)).mono ?_; rintro e _ ⟨rfl, rfl⟩)
          go_roundw
          case rel => exact ⟨k + 1, by omega, by go_num, HO5'.out.alloc _, by rw [HT.out]; exact HP5.out.alloc _, HB5.out.alloc HB5.out.size _⟩
          case measure => simp [intOf]; omega
        · obtain rfl : k = S.length := by omega
          rw [List.drop_length] at hP
          have HP := Lib.hid hP
          clear hP hB hO5
          go_upto_region 25 with (go_at_call 25; refine (peek_s_none W.heap.size _ id W.heap.size _ ov _ HP.out).mono ?_; rintro e W4 ⟨rfl, hW4⟩)
          have HP4 := Lib.hid ((HP.out.later hW4).alloc (Obj.cells #[.int .i64 0, .int .i64 0] 26))
          have HB4 := Lib.hid (HB.out.trans (hW4.mono HB.out.size))
          clear hW4
          go_wp2_with (go_at_call 27; refine (len_s W.heap.size _ id _ (by simp) W.heap.size _ ov _ HP4.out).mono ?_; rintro e _ ⟨rfl, rfl⟩)
          go_ret
          exact ⟨rfl, HW.out.trans ((HB4.out.alloc HB4.out.size _).mono z1)⟩

set_option maxHeartbeats 400000 in
theorem peeks_out (v : Value) (l : List (Int × Int)) (hlen : 300 < l.length) (w : World) (H : ReadsAs w w.heap.size v l.length 2 (fun i cs => cs = [.int .i64 (l.getD i (0, 0)).1, .int .i64 (l.getD i (0, 0)).2])) :
    Calls Try.prog 7 #[v] w fun e w' => e = .returned (.bool true) ∧ Below w.heap.size w w' := by
  obtain ⟨A, cap, rfl, hc1, hc2, hA⟩ := H
  unfold maxLen at hc2
  clear hA
  go_enter Try.func7, Try.ntmps7
  go_wp2_with (go_at_call 11; refine (awake_any _).mono ?_; rintro e W ⟨rfl, hW⟩)
  go_ret
  exact ⟨rfl, hW⟩
theorem peeks_any (v : Value) (l : List (Int × Int)) (w : World) (H : ReadsAs w w.heap.size v l.length 2 (fun i cs => cs = [.int .i64 (l.getD i (0, 0)).1, .int .i64 (l.getD i (0, 0)).2])) :
    Calls Try.prog 7 #[v] w fun e w' => e = .returned (.bool true) ∧ Below w.heap.size w w' := by
  by_cases h : l.length ≤ 300
  · exact peeks_in v l h w (Reads2.of_as H)
  · exact peeks_out v l (by omega) w H

set_option maxRecDepth 100000 in
theorem heapPeeks_lifted (os : Os) (started : os.Started) (H : Type) (enc : TypeId × Value → H) :
    ReturnsInHanded {} Try.checked os 7 .any (Rows.heapPeeksSpec.pre6 enc Try.prog Try.f7 Rows.heapPeeksRow.domain false) (Rows.heapPeeksSpec.post enc Try.prog Try.f7 false true false false) := by
  refine returnsInHanded_of_change (C := Try.checked) own started (by kernel_rfl) Try.func7
    (ChangeSpec.witness6 (enc := enc) (C := Try.checked) false ⟨#[], #[.slice none 0 0], []⟩ 8 (by kernel_rfl) (by kernel_rfl) (by kernel_rfl) (by kernel_rfl)) ?_
  intro W base args ds gs before hval0 hW hcnd _
  have hval : ∀ (j : Nat) t v, Try.f7.params[j]? = some t → args[j]? = some v → Value.okWide Try.prog W .any base t v := hval0
  have hW' := hW
  obtain ⟨p, q, hA0, hV, rfl, hfz, hnd⟩ := hW
  have hA : DataW.TrodAll enc Try.prog W 0 (fun _ => true) true Try.f7.params.toList args.toList ds p := hA0
  rw [Try.params7] at hA hval
  obtain ⟨v0, vs0, d0, ds0, p0, q0, hargs, rfl, rfl, h0, r0⟩ := trodAll_cons hA
  obtain ⟨rfl, rfl, rfl⟩ := trodAll_nil r0
  obtain rfl : args = #[v0] := by cases args; simp_all
  obtain ⟨rfl, rfl⟩ := trodVars_none hV
  have k0 := h0
  have lt0 : ∀ x ∈ p0, x.block < W.heap.size := by obtain ⟨m, hm⟩ := k0; exact DataW.trod_lt m _ _ _ hm
  have ok0 := hval 0 24 v0 rfl rfl
  obtain ⟨l0, R0, wf0⟩ := open_pairs_as Try.underlying24 Try.underlying26 Try.underlying3 Try.underlying3 (by kernel_rfl) (by kernel_rfl) rfl rfl (by kernel_rfl) ok0 h0
  clear hA0 hval0
  refine (peeks_any v0 l0 W R0).mono fun e W' ⟨he, bel⟩ => ?_
  subst he
  exact ⟨_, rfl, _, _, _, [], _, [], hW', trodAll_mk1 (shut_bool Try.underlying4 _), (trodAll_cons_mk (Below.trod laidOut (by kernel_rfl) (of_decide_eq_true (by kernel_rfl)) k0 bel lt0) trodAll_mk0), rfl, bel.frame _, fun h => by cases h⟩

/-- The statement. -/
theorem heapPeeks_holds : Rows.HeapPeeksSaid :=
  OpenClaim.holds_of_wide 7 Try.f7 rfl rfl rfl rfl rfl rfl rfl ⟨rfl, rfl, rfl, rfl, rfl⟩ rfl rfl rfl rfl rfl (by kernel_rfl) Try.func7 (by kernel_rfl)
    (of_decide_eq_true (by kernel_rfl)) (by unfold Func.isWrapper; first | (rw [if_pos (by decide +kernel)]; kernel_rfl) | (rw [if_neg (by decide +kernel)]; exact ⟨rfl, rfl⟩))
    (fun os started H enc _ => heapPeeks_lifted os started H enc)


end Go.Proofs.Ytekdjjfbkcgmhaa
