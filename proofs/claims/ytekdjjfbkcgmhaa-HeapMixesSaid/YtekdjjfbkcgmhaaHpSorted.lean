/-
  What is proved here: what (*Heap).Sorted returns (instance Item).
-/
import Derived.Test.YtekdjjfbkcgmhaaHpAwake
import Derived.Laws.MakeOwn
namespace Go.Proofs.Ytekdjjfbkcgmhaa
open Go.RowKit Hp
set_option linter.unusedVariables false
set_option linter.unusedSimpArgs false

/-- The copied heap. -/
def Cop (w : World) (fid : FuncId) (f : Int → Int) (S : List It) (p : Value) (wx : World) : Prop :=
  ∃ hc ov, p = .pointer (some ⟨hc, 0, none⟩) ∧ w.heap.size ≤ hc ∧ HpS wx w.heap.size hc fid f S 0 ov ∧ Below w.heap.size w wx
theorem Cop.made {w y W' : World} {fid : FuncId} {f : Int → Int} {L S : List It} {v : Value} (hs : Same f L S) (hb : Below w.heap.size w y) (hg : y.grownBy W' none) (ho : W'.ownsRow w.heap.size 67 3 v L.length (flat L)) :
    Cop w fid f S (.pointer (some ⟨W'.heap.size, 0, none⟩)) (W'.alloc (Obj.cells #[.func (.func fid) #[] #[], v, .int .i64 0] 65)) := by
  have hb' : Below w.heap.size w W' := hb.grown hg hb.size (fun k hk => by cases hk)
  exact ⟨W'.heap.size, v.ownBlock, rfl, hb'.size, ⟨⟨v, L, ⟨alloc_new _ _, ho.alloc _⟩, rfl, hs⟩⟩, hb'.alloc hb'.size _⟩
theorem nil_append (t : TypeId) (w : World) : (Builtin.append_ #[63, 63] t #[.slice none 0 0, .slice none 0 0]).run Try.prog w = .ok (.slice none 0 0) w := by kernel_rfl

def RetSorted (S : List It) (w : World) (e : Ending) (w' : World) : Prop :=
  ∃ v, e = .returned v ∧ w'.ownsRow w.heap.size 26 2 v S.length (flat2 (S.map It.kn)) ∧ Below w.heap.size w w'
set_option maxRecDepth 100000 in
set_option maxHeartbeats 2000000 in
theorem sorted_s (hb : Nat) (fid : FuncId) (f : Int → Int) (HL : Less fid (lsOf f)) (S : List It) (hlen : S.length ≤ 1000) (B : Nat) (nx : Int) (ov : Option Nat) (w : World) (H : HpS w B hb fid f S nx ov) :
    Calls Try.prog 26 #[.pointer (some ⟨hb, 0, none⟩)] w (RetSorted S w) := by
  obtain ⟨i0, hi, hz0, hz1, hz2⟩ := info_parts infoP
  obtain ⟨i1, hi1, hy0, hy1, hy2⟩ := info_parts infoT
  obtain ⟨v, L, hp, hov, hs⟩ := H.ex
  obtain ⟨h1, h2, h3, h4, h5, h6⟩ := hp.cells
  have hl := hs.length
  obtain ⟨av, cap, rfl⟩ := own_len hp.row
  rw [hl] at h2
  have HP := Lib.hid hp
  have HS := Lib.hid hs
  have HLn := Lib.hid hl
  clear hp hs hl hov H
  go_enter Try.func26, Try.ntmps26
  go_upto_region 3 with (go_at_call 36; refine (usable_yes hb fid _ (by simp [go_sem, *])).mono ?_; rintro e _ ⟨rfl, rfl⟩)
  go_cut [3] from 10 to 20 (fun p wx => Cop w fid f S p wx)
  case first =>
    rcases HP.out.row.2 with ⟨hv, h0⟩ | ⟨g, cap', cur, hv, _, hgb, hcap, _, _, htk⟩
    · simp only [Value.slice.injEq] at hv
      obtain ⟨rfl, h0', rfl⟩ := hv
      have hS0 : S = [] := List.length_eq_zero_iff.1 (by have := HLn.out; omega)
      have hL0 : L = [] := List.length_eq_zero_iff.1 h0
      subst hS0 hL0
      simp only [List.length_nil] at h2
      have ha := nil_append
      go_region
      all_goals
        go_wp2_with fail
        go_meet
        exact Cop.made HS.out (Below.drew (Below.refl _ _)) (World.grownBy.refl _ _) ⟨rfl, .inl ⟨rfl, rfl⟩⟩
    · simp only [Value.slice.injEq] at hv
      obtain ⟨rfl, h0', rfl⟩ := hv
      have hgs := lt_of_block hgb
      have hcs : ∀ (W : World), Below w.heap.size w W → ∀ (j : Nat) u, (flat L)[j]? = some u → W.cell? ((⟨g, 0, none⟩ : Addr).add j) = some u := by
        intro W hW j u hu
        have hjl := (List.getElem?_eq_some_iff.1 hu).1
        have e : (⟨g, 0, none⟩ : Addr).add j = ⟨g, j, none⟩ := by cases j <;> simp [Addr.add]
        rw [e, hW.cell (p := ⟨g, j, none⟩) hgs]
        have key := congrArg (fun x => x[j]?) htk
        rw [flat_length] at hjl
        simp only [List.getElem?_take, hjl, if_true] at key
        have := key.trans hu
        simpa [World.cell?, hgb] using this
      have h1c : ∀ u ∈ flat L, u.oneCell' = true := by
        intro u hu
        simp only [flat, List.mem_flatMap] at hu
        obtain ⟨x, _, hx⟩ := hu
        exact one_cells x u hx
      have HC := Lib.hid hcs
      have H1C := Lib.hid h1c
      clear hcs h1c htk
      rw [← HLn.out] at h2
      have hLn : L.length ≤ 1000 := by have := HLn.out; omega
      refine wp_region_noPanic ?_
      go_region_law (refine step_append_own rfl (.const (.slice none 0 0)) (.tmp 17) 63 rfl w.heap.size 67 i1 _ 3 24 Try.underlying63 hi1 hy0 hy1 hy2 rfl (by decide) (.slice none 0 0) 0 [] rfl ⟨rfl, .inl ⟨rfl, rfl⟩⟩ ⟨g, 0, none⟩ L.length cap (flat L) (by simp [Act.eval, Act.put]) (flat_length L) (HC.out _ (Below.drew (Below.refl _ _))) H1C.out (by unfold maxLen; omega) (by omega) (by exact Nat.le_refl _) ?_; intro v' W' hown' hgrow hat; obtain ⟨av', cp', rfl⟩ := own_len hown'; have hc0 := hgrow.cell (a := ⟨hb, 0, none⟩) (v := .func (.func fid) #[] #[]) (by simp [go_sem, *]) (by simp [Value.ownBlock]))
      all_goals
        refine NoPanic.normal ?_
        go_wp2_with fail
        go_meet
        exact Cop.made HS.out (Below.drew (Below.refl _ _)) hgrow (by simpa using hown')
  case rest =>
    obtain ⟨hc, ovc, rfl, hhc, hSc, hBw⟩ := hcut
    have h1' : wc.cell? ⟨hb, 1, none⟩ = some (.slice av S.length cap) := (hBw.cell (p := ⟨hb, 1, none⟩) h6).trans h2
    have hsz := hBw.size
    obtain ⟨wm, hr, hom, hgm⟩ := run_make_own (P := Try.prog) wc w.heap.size 24 26 i0 _ 2 Try.underlying24 hi hz0 hz1 .i64 .i64 S.length (by rw [hz2]; omega) (by unfold maxLen; omega) hsz
    have h1m := hgm.cell (a := ⟨hb, 1, none⟩) h1' (by simp)
    have hSm := hSc.grown hgm (by simp) (.inl rfl)
    have hBm : Below w.heap.size w wm := hBw.grown hgm hsz (fun k hk => by cases hk)
    have HSm := Lib.hid hSm
    have HBm := Lib.hid hBm
    have HOm := Lib.hid hom
    clear hSm hBm hom hgm hSc hBw h2 h1 h3 h4 h5
    go_wp2_with fail
    go_loopw [4, 5, 6, 32] (fun v a b i wr => ∃ k : Nat, k ≤ S.length ∧ i = .int .i64 (k : Int) ∧ wr.ownsRow w.heap.size 26 2 v k (flat2 ((S.take k).map It.kn)) ∧ HpS wr w.heap.size hc fid f (S.drop k) 0 ovc ∧ Below w.heap.size w wr) (fun _ _ _ i _ => S.length - (intOf i).toNat)
    case atStart => exact ⟨0, Nat.zero_le _, rfl, HOm.out, HSm.out, HBm.out⟩
    case round =>
      obtain ⟨k, hk, rfl, hown, hS, hB⟩ := hrel
      have HO := Lib.hid hown
      have HB := Lib.hid hB
      by_cases hlt : k < S.length
      · obtain ⟨s, hs⟩ : ∃ s, S.drop k = s :: S.drop (k + 1) := ⟨S[k], by rw [List.drop_eq_getElem_cons hlt]⟩
        have HSk := Lib.hid hs
        rw [hs] at hS
        have HPk := Lib.hid hS
        clear hs hown hS hB HSm HBm HOm
        go_upto_region 10 with (go_at_call 24; refine (pop_s hc fid f HL _ s (by simp; omega) w.heap.size 0 ovc _ HPk.out).mono ?_; rintro e W ⟨rfl, hS, hT⟩)
        have ho := (HPk.out.keeps hT).own HO.out (by decide) (by decide)
        have hBW : Below w.heap.size w W := HB.out.trans (hT.below hhc HB.out.size HPk.out.ov_ge)
        have hszW := hBW.size
        have HBW := Lib.hid hBW
        have HS1 := Lib.hid hS
        clear hT hS hBW
        go_wp2_with (at_builtin; refine wpList_append_own _ rfl (.tmp 41) (.tmp 43) 24 rfl w.heap.size 26 i0 _ 2 16 Try.underlying24 hi hz0 hz1 hz2 rfl (by decide) _ _ _ rfl ((ho.alloc _).alloc _) ⟨W.heap.size + 1, 0, none⟩ 1 1 (flat2 [(s.key, s.name)]) rfl rfl (by have := cells_new2 (W.alloc (Obj.cells #[.int .i64 s.key, .int .i64 s.name] 26)) s.key s.name 26; rw [World.size_alloc] at this; exact this) (one_cells2 _ _) (by unfold maxLen; omega) (by omega) (by simp; omega) ?_; intro v' W' hown' hgrow hat)
        go_roundw
        case rel =>
          have hS2 := (HS1.out.alloc (Obj.cells #[.int .i64 s.key, .int .i64 s.name] 26)).alloc (Obj.cells #[.int .i64 s.key, .int .i64 s.name] 26)
          obtain ⟨a1, a2⟩ := hS2.apart ((ho.alloc _).alloc _) (by decide) (by decide)
          refine ⟨k + 1, by omega, by go_num, ?_, hS2.grown hgrow a1 a2, ?_⟩
          · have e : S.take (k + 1) = S.take k ++ [s] := by
              rw [List.take_succ_eq_append_getElem hlt]
              have := HSk.out
              rw [List.drop_eq_getElem_cons hlt] at this
              rw [(List.cons.inj this).1]
            rw [e, List.map_append, flat2_append]
            exact hown'
          · exact (HBW.out.trans ((Below.two W _ _).mono hszW)).grown hgrow (by simp; omega) (fun q hq => (ho.lt q hq).1)
        case measure => simp [intOf]; omega
      · obtain rfl : k = S.length := by omega
        rw [List.take_length] at hown
        clear HSm HBm HOm hS
        go_wp2_with fail
        go_ret
        exact ⟨_, rfl, hown, hB⟩

end Go.Proofs.Ytekdjjfbkcgmhaa
