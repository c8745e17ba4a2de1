/-
  What is proved here: what the reference's First, Without and Sorted return.
-/
import Derived.Test.YtekdjjfbkcgmhaaHpAwake
namespace Go.Proofs.Ytekdjjfbkcgmhaa
open Go.RowKit Hp
set_option linter.unusedVariables false
set_option linter.unusedSimpArgs false

/-- The first place of the least key among the first k. -/
def best (m : List (Int × Int)) : Nat → Option Nat
  | 0 => none
  | k + 1 => match best m k with
    | none => some k
    | some a => if (m.getD k (0, 0)).1 < (m.getD a (0, 0)).1 then some k else some a
def ixv : Option Nat → Int
  | none => -1
  | some a => a
theorem best_spec (m : List (Int × Int)) : ∀ k, (k = 0 → best m k = none) ∧ (0 < k → ∃ a, best m k = some a ∧ a < k ∧ (∀ i, i < k → (m.getD a (0, 0)).1 ≤ (m.getD i (0, 0)).1) ∧ ∀ i, i < a → (m.getD a (0, 0)).1 < (m.getD i (0, 0)).1) := by
  intro k
  induction k with
  | zero => exact ⟨fun _ => rfl, fun h => absurd h (by omega)⟩
  | succ k ih =>
    refine ⟨fun h => by omega, fun _ => ?_⟩
    by_cases h0 : k = 0
    · subst h0
      exact ⟨0, rfl, by omega, fun i hi => by obtain rfl : i = 0 := by omega
                                              exact Int.le_refl _, fun i hi => by omega⟩
    · obtain ⟨a, ha, hak, h1, h2⟩ := ih.2 (by omega)
      unfold best
      rw [ha]
      by_cases c : (m.getD k (0, 0)).1 < (m.getD a (0, 0)).1
      · refine ⟨k, by simp only [if_pos c], by omega, fun i hi => ?_, fun i hi => ?_⟩
        · by_cases e : i = k
          · subst e; exact Int.le_refl _
          · have := h1 i (by omega); omega
        · have := h1 i (by omega); omega
      · refine ⟨a, by simp only [if_neg c], by omega, fun i hi => ?_, h2⟩
        by_cases e : i = k
        · subst e; omega
        · exact h1 i (by omega)
theorem best_lt {m : List (Int × Int)} {k a : Nat} (h : best m k = some a) : a < k := by
  by_cases h0 : k = 0
  · rw [(best_spec m k).1 h0] at h; cases h
  · obtain ⟨b, hb, hlt, _⟩ := (best_spec m k).2 (by omega)
    rw [hb] at h; cases h; exact hlt

theorem perm_erase {α : Type} : ∀ (l : List α) (i : Nat) (h : i < l.length), (l[i] :: l.eraseIdx i).Perm l
  | [], i, h => by simp at h
  | a :: l, 0, _ => by simp
  | a :: l, i + 1, h => by
    simp only [List.getElem_cons_succ, List.eraseIdx_cons_succ]
    exact (List.Perm.swap _ _ _).trans (List.Perm.cons a (perm_erase l i (by simpa using h)))
theorem map_erase {α β : Type} (f : α → β) : ∀ (l : List α) (i : Nat), (l.map f).eraseIdx i = (l.eraseIdx i).map f
  | [], i => by simp
  | a :: l, 0 => by simp
  | a :: l, i + 1 => by simp [map_erase f l i]
theorem rise_get {T : List It} (h : Rise T) {i j : Nat} (hij : i < j) (hj : j < T.length) : (T[i]'(by omega)).ord < (T[j]).ord := List.pairwise_iff_getElem.1 h i j (by omega) hj hij
theorem kn_getD (T : List It) (i : Nat) (h : i < T.length) : (T.map It.kn).getD i (0, 0) = ((T[i]).key, (T[i]).name) := by simp [List.getD, h, It.kn]
/-- The head of the sorted list is the first of the least. -/
theorem srt_best {T : List It} (h : Rise T) {a : Nat} (hb : best (T.map It.kn) T.length = some a) (ha : a < T.length) : srt id T = T[a] :: srt id (T.eraseIdx a) := by
  obtain ⟨b, hb', _, h1, h2⟩ := (best_spec (T.map It.kn) T.length).2 (by omega)
  rw [hb] at hb'
  cases hb'
  have hr : Rise (T.eraseIdx a) := List.Pairwise.sublist (List.eraseIdx_sublist T a) h
  refine srt_unique (srt_srt h) ?_ ?_
  · refine List.pairwise_cons.2 ⟨fun y hy => ?_, srt_srt hr⟩
    have hy' := (srt_perm id _).mem_iff.1 hy
    obtain ⟨i, hi1, hi2, rfl⟩ : ∃ i, ∃ (h : i < T.length), i ≠ a ∧ y = T[i] := by
      obtain ⟨i, hi, hne, e⟩ := List.mem_eraseIdx_iff_getElem.1 hy'
      exact ⟨i, hi, hne, e.symm⟩
    rw [lt_iff]
    have e1 := h1 i hi1
    rw [kn_getD T a ha, kn_getD T i hi1] at e1
    simp only [id]
    rcases Nat.lt_or_ge i a with hlt | hge
    · have e2 := h2 i hlt
      rw [kn_getD T a ha, kn_getD T i hi1] at e2
      exact .inl e2
    · have := rise_get h (show a < i by omega) hi1
      simp only at e1
      omega
  · exact (srt_perm id T).trans ((perm_erase T a ha).symm.trans (List.Perm.cons _ (srt_perm id _).symm))

theorem erase_take_next {α : Type} (m : List α) (a k : Nat) (x : α) (h : m[k]? = some x) : (m.take (k + 1)).eraseIdx a = (m.take k).eraseIdx a ++ (if k = a then [] else [x]) := by
  have hk := (List.getElem?_eq_some_iff.1 h).1
  have hl : (m.take k).length = k := by simp; omega
  rw [List.take_add_one, h]
  simp only [Option.toList_some]
  by_cases c : k = a
  · subst c
    rw [if_pos rfl, List.append_nil, List.eraseIdx_append_of_length_le (by omega), hl]
    simp only [Nat.sub_self, List.eraseIdx_cons_zero, List.append_nil]
    rw [List.eraseIdx_of_length_le (by omega)]
  · rw [if_neg c]
    rcases Nat.lt_or_ge a k with h1 | h1
    · rw [List.eraseIdx_append_of_lt_length (by omega)]
    · rw [List.eraseIdx_of_length_le (l := m.take k ++ [x]) (by simp; omega), List.eraseIdx_of_length_le (l := m.take k) (by omega)]

set_option maxRecDepth 100000 in
set_option maxHeartbeats 1000000 in
theorem first_any (v : Value) (m : List (Int × Int)) (hlen : m.length ≤ 1000000) (w : World) (H : Reads2 w w.heap.size v m) :
    Calls Try.prog 31 #[v] w fun e w' => e = .returned (.int .i64 (ixv (best m m.length))) ∧ Below w.heap.size w w' := by
  obtain ⟨A, cap, rfl, hA⟩ := H
  have HA := Lib.hid hA
  clear hA
  go_enter Try.func31, Try.ntmps31
  go_wp2_with fail
  go_loopw [3, 4] (fun a i wr => ∃ k : Nat, k ≤ m.length ∧ i = .int .i64 (k : Int) ∧ a = .int .i64 (ixv (best m k)) ∧ Below w.heap.size w wr) (fun _ i _ => m.length - (intOf i).toNat)
  case atStart => exact ⟨0, Nat.zero_le _, rfl, rfl, Below.refl _ _⟩
  case round =>
    obtain ⟨k, hk, rfl, rfl, hB⟩ := hrel
    have HB := Lib.hid hB
    have zr := hB.size
    clear hB
    by_cases hlt : k < m.length
    · obtain ⟨b, off, rfl, hb, hx⟩ := HA.out (by omega)
      obtain ⟨⟨x1, x2⟩, hx0⟩ : ∃ x, m[k]? = some x := ⟨_, List.getElem?_eq_getElem hlt⟩
      obtain ⟨c1, c2⟩ := hx k _ hx0
      simp only at c1 c2
      rw [← HB.out.cell (p := ⟨b, off + k * 2, none⟩) hb] at c1
      have hg : m.getD k (0, 0) = (x1, x2) := by simp [List.getD, hx0]
      have hbr : b < wr.heap.size := by omega
      cases hbe : best m k with
      | none =>
        have hs : best m (k + 1) = some k := by unfold best; rw [hbe]
        have HS := Lib.hid hs
        have e1 : ixv none = -1 := rfl
        rw [e1]
        clear hs hbe e1 hx hx0 hg c2
        go_wp2_with fail
        refine wp_region_ext (by kernel_rfl) (by kernel_rfl) ?_
        repeat (go_big_quiet_step (fail))
        refine wpQuiet_nil ?_
        rintro _ ⟨y, rfl⟩
        go_wp2_with fail
        go_roundw
        case rel => exact ⟨k + 1, by omega, by go_num, by rw [HS.out]; rfl, Ext.below HB.out zr y⟩
        case measure => simp [intOf]; omega
      | some a =>
        have ha := best_lt hbe
        obtain ⟨⟨y1, y2⟩, hy0⟩ : ∃ x, m[a]? = some x := ⟨_, List.getElem?_eq_getElem (by omega)⟩
        obtain ⟨d1, d2⟩ := hx a _ hy0
        simp only at d1 d2
        rw [← HB.out.cell (p := ⟨b, off + a * 2, none⟩) hb] at d1
        have hga : m.getD a (0, 0) = (y1, y2) := by simp [List.getD, hy0]
        have e1 : ixv (some a) = (a : Int) := rfl
        rw [e1]
        have g1 : decide ((a : Int) < 0) = false := by simp
        by_cases c : x1 < y1
        · have hs : best m (k + 1) = some k := by unfold best; rw [hbe]; simp only [hg, hga, if_pos c]
          have HS := Lib.hid hs
          have g2 := decide_eq_true c
          clear hs hbe e1 hx hx0 hg c2 hga hy0 d2
          go_wp2_with fail
          refine wp_region_ext (by kernel_rfl) (by kernel_rfl) ?_
          repeat (go_big_quiet_step (fail))
          refine wpQuiet_nil ?_
          rintro _ ⟨y, rfl⟩
          go_wp2_with fail
          go_roundw
          case rel => exact ⟨k + 1, by omega, by go_num, by rw [HS.out]; rfl, Ext.below HB.out zr y⟩
          case measure => simp [intOf]; omega
        · have hs : best m (k + 1) = some a := by unfold best; rw [hbe]; simp only [hg, hga, if_neg c]
          have HS := Lib.hid hs
          have g2 := decide_eq_false c
          clear hs hbe e1 hx hx0 hg c2 hga hy0 d2
          go_wp2_with fail
          refine wp_region_ext (by kernel_rfl) (by kernel_rfl) ?_
          repeat (go_big_quiet_step (fail))
          refine wpQuiet_nil ?_
          rintro _ ⟨y, rfl⟩
          go_wp2_with fail
          go_roundw
          case rel => exact ⟨k + 1, by omega, by go_num, by rw [HS.out]; rfl, Ext.below HB.out zr y⟩
          case measure => simp [intOf]; omega
    · obtain rfl : k = m.length := by omega
      go_wp2_with fail
      go_ret
      exact ⟨rfl, HB.out⟩

def RetRow2 (m : List (Int × Int)) (w : World) (e : Ending) (w' : World) : Prop :=
  ∃ v, e = .returned v ∧ w'.ownsRow w.heap.size 26 2 v m.length (flat2 m) ∧ Below w.heap.size w w'
set_option maxRecDepth 100000 in
set_option maxHeartbeats 1000000 in
theorem without_any (v : Value) (m : List (Int × Int)) (hlen : m.length ≤ 1000000) (a : Nat) (ha : a ≤ 1000000) (w : World) (H : Reads2 w w.heap.size v m) :
    Calls Try.prog 32 #[v, .int .i64 (a : Int)] w (RetRow2 (m.eraseIdx a) w) := by
  obtain ⟨i0, hi, hz0, hz1, hz2⟩ := info_parts infoP
  obtain ⟨A, cap, rfl, hA⟩ := H
  have HA := Lib.hid hA
  clear hA
  go_enter Try.func32, Try.ntmps32
  go_wp2_with fail
  go_loopw [5, 6] (fun r i wr => ∃ k : Nat, k ≤ m.length ∧ i = .int .i64 (k : Int) ∧ wr.ownsRow w.heap.size 26 2 r ((m.take k).eraseIdx a).length (flat2 ((m.take k).eraseIdx a)) ∧ Below w.heap.size w wr) (fun _ i _ => m.length - (intOf i).toNat)
  case atStart => exact ⟨0, Nat.zero_le _, rfl, ⟨rfl, .inl ⟨rfl, rfl⟩⟩, Below.refl _ _⟩
  case round =>
    obtain ⟨k, hk, rfl, hown, hB⟩ := hrel
    have HO := Lib.hid hown
    have HB := Lib.hid hB
    have zr := hB.size
    have hKl : ((m.take k).eraseIdx a).length ≤ k := Nat.le_trans (List.length_eraseIdx_le _ _) (by simp; omega)
    clear hB hown
    by_cases hlt : k < m.length
    · obtain ⟨b, off, rfl, hb, hx⟩ := HA.out (by omega)
      obtain ⟨⟨x1, x2⟩, hx0⟩ : ∃ x, m[k]? = some x := ⟨_, List.getElem?_eq_getElem hlt⟩
      obtain ⟨c1, c2⟩ := hx k _ hx0
      simp only at c1 c2
      rw [← HB.out.cell (p := ⟨b, off + k * 2, none⟩) hb] at c1
      rw [← HB.out.cell (p := ⟨b, off + k * 2 + 1, none⟩) hb] at c2
      have FT := Lib.hid (erase_take_next m a k _ hx0)
      have hbr : b < wr.heap.size := by omega
      clear hx hx0
      by_cases c : k = a
      · subst c
        go_wp2_with fail
        go_roundw
        case rel =>
          refine ⟨k + 1, by omega, by go_num, ?_, HB.out⟩
          rw [FT.out, if_pos rfl, List.append_nil]
          exact HO.out
        case measure => simp [intOf]; omega
      · have n1 : ((k : Int) != (a : Int)) = true := by simp; omega
        have n2 : ((k : Int) == (a : Int)) = false := by simp; omega
        have n3 : (k == a) = false := by simp; omega
        go_wp2_with (at_builtin; refine wpList_append_own _ rfl (.tmp 16) (.tmp 21) 24 rfl w.heap.size 26 i0 _ 2 16 Try.underlying24 hi hz0 hz1 hz2 rfl (by decide) _ _ _ rfl (HO.out.alloc _) ⟨wr.heap.size, 0, none⟩ 1 1 (flat2 [(x1, x2)]) rfl rfl (cells_new2 _ _ _ _) (one_cells2 _ _) (by unfold maxLen; omega) (by omega) (by simp; omega) ?_; intro v' W' hown' hgrow _)
        go_roundw
        case rel =>
          refine ⟨k + 1, by omega, by go_num, ?_, (HB.out.alloc zr _).grown hgrow (by simp; omega) (fun q hq => (HO.out.lt q hq).1)⟩
          rw [FT.out, if_neg c, List.length_append, flat2_append]
          exact hown'
        case measure => simp [intOf]; omega
    · obtain rfl : k = m.length := by omega
      rw [List.take_length] at HO
      go_wp2_with fail
      go_ret
      exact ⟨_, rfl, HO.out, HB.out⟩

/-- The block of a slice. -/
def vblk : Value → Option Nat
  | .slice (some a) _ _ => some a.block
  | _ => none
theorem Reads2.grown {w w' : World} {B : Nat} {v : Value} {l : List (Int × Int)} {row : Option Nat} (h : Reads2 w B v l) (g : w.grownBy w' row) (hB : B ≤ w.heap.size) (hne : vblk v = none ∨ vblk v ≠ row) : Reads2 w' B v l := by
  obtain ⟨A, cap, rfl, hc⟩ := h
  refine ⟨A, cap, rfl, fun h0 => ?_⟩
  obtain ⟨b, off, rfl, hlt, hx⟩ := hc h0
  have hb : some b ≠ row := by
    rcases hne with h | h
    · simp [vblk] at h
    · simpa [vblk] using h
  refine ⟨b, off, rfl, hlt, fun i x hi => ?_⟩
  obtain ⟨c1, c2⟩ := hx i x hi
  exact ⟨g.cell (a := ⟨b, off + i * 2, none⟩) c1 hb, g.cell (a := ⟨b, off + i * 2 + 1, none⟩) c2 hb⟩
theorem vblk_own {w : World} {B n size : Nat} {e : TypeId} {v : Value} {xs : List Value} (h : w.ownsRow B e size v n xs) : vblk v = v.ownBlock := by
  rcases h.2 with ⟨rfl, _⟩ | ⟨g, cap, cur, rfl, _⟩ <;> rfl
/-- One step of the reference's sorting. -/
theorem srt_step {T : List It} (h : Rise T) (h0 : 0 < T.length) : ∃ (a : Nat) (ha : a < T.length), best (T.map It.kn) (T.map It.kn).length = some a ∧ srt id T = T[a] :: srt id (T.eraseIdx a) ∧ Rise (T.eraseIdx a) := by
  rw [List.length_map]
  obtain ⟨a, hb, hlt, _⟩ := (best_spec (T.map It.kn) T.length).2 h0
  exact ⟨a, hlt, hb, srt_best h hb hlt, List.Pairwise.sublist (List.eraseIdx_sublist T a) h⟩
set_option maxRecDepth 100000 in
set_option maxHeartbeats 1000000 in
theorem rsorted_any (v : Value) (T : List It) (hT : Rise T) (hlen : T.length ≤ 1000) (w : World) (H : Reads2 w w.heap.size v (T.map It.kn)) :
    Calls Try.prog 34 #[v] w (RetRow2 ((srt id T).map It.kn) w) := by
  obtain ⟨i0, hi, hz0, hz1, hz2⟩ := info_parts infoP
  have HR := Lib.hid H
  clear H
  have HRi := Lib.hid hT
  clear hT
  go_enter Try.func34, Try.ntmps34
  go_wp2_with fail
  go_loopg [0, 3, 4] T.length (fun gk v r a wr => ∃ (U : List It) (O : List (Int × Int)), U.length = gk ∧ O.length + gk = T.length ∧ Rise U ∧ O ++ (srt id U).map It.kn = (srt id T).map It.kn ∧ Reads2 wr wr.heap.size v (U.map It.kn) ∧ (vblk v = none ∨ vblk v ≠ r.ownBlock) ∧ wr.ownsRow w.heap.size 26 2 r O.length (flat2 O) ∧ Below w.heap.size w wr)
  case atStart => exact ⟨T, [], rfl, by simp, HRi.out, by simp, HR.out, by cases h : vblk v <;> simp [Value.ownBlock], ⟨rfl, .inl ⟨rfl, rfl⟩⟩, Below.refl _ _⟩
  case round =>
    obtain ⟨U, O, hU, hOl, hRU, hE, hR, hap, hown, hB⟩ := hrel
    have HAp := Lib.hid hap
    clear hap
    have HU := Lib.hid hU
    have HOl := Lib.hid hOl
    have HRU := Lib.hid hRU
    have HE := Lib.hid hE
    have HO := Lib.hid hown
    have HB := Lib.hid hB
    have HRd := Lib.hid hR
    have zr := hB.size
    have hgl : gk ≤ 1000 := by omega
    obtain ⟨A, cap, rfl, hA⟩ := hR
    rw [List.length_map] at HRd ⊢
    have HA := Lib.hid hA
    clear hU hOl hRU hE hown hB hA
    rw [HU.out] at HRd ⊢
    by_cases h0 : gk = 0
    · subst h0
      have hU0 : U = [] := List.length_eq_zero_iff.1 HU.out
      go_wp2_with fail
      go_ret
      refine ⟨_, rfl, ?_, HB.out⟩
      have := HE.out
      rw [hU0] at this
      simp only [srt, List.foldl_nil, List.map_nil, List.append_nil] at this
      rw [← show O = (srt id T).map It.kn from this]
      exact HO.out
    · obtain ⟨a, ha, hb, hs, hr⟩ := srt_step HRU.out (by rw [HU.out]; omega)
      have hx : (U.map It.kn)[a]? = some ((U[a]).key, (U[a]).name) := by rw [List.getElem?_map, List.getElem?_eq_getElem ha]; rfl
      obtain ⟨b, off, rfl, hbs, hc⟩ := HA.out (by rw [List.length_map, HU.out]; omega)
      obtain ⟨c1, c2⟩ := hc a _ hx
      simp only at c1 c2
      have HBs := Lib.hid hb
      have HSs := Lib.hid hs
      have HRs := Lib.hid hr
      obtain ⟨x, hxa⟩ : ∃ x, U[a] = x := ⟨_, rfl⟩
      rw [hxa] at c1 c2 HSs
      have hag : a < gk := by have := HU.out; omega
      clear hx hc hb hs hr hxa ha
      go_upto_region 4 with (go_at_call 31; refine (first_any _ (U.map It.kn) (by rw [List.length_map, HU.out]; omega) wr HRd.out).mono ?_; rintro e W1 ⟨rfl, hW1⟩; rw [HBs.out])
      have d1 := (hW1.cell (p := ⟨b, off + a * 2, none⟩) hbs).trans c1
      have d2 := (hW1.cell (p := ⟨b, off + a * 2 + 1, none⟩) hbs).trans c2
      have hB1 : Below w.heap.size w W1 := HB.out.trans (hW1.mono zr)
      have ho1 := own_ext ⟨W1, hW1⟩ HO.out
      simp only at ho1
      have hR1 := HRd.out.keep hW1
      have z1 := hW1.size
      have hbs1 : b < W1.heap.size := by omega
      have hOl1 : O.length ≤ 1000 := by have := HOl.out; omega
      have HB1 := Lib.hid hB1
      have HR1 := Lib.hid hR1
      have e1 : ixv (some a) = (a : Int) := rfl
      rw [e1]
      clear hB1 hR1 hW1 c1 c2 e1
      go_upto_region 5 with (at_builtin; refine wpList_append_own_at _ rfl (.tmp 10) (.tmp 15) 24 rfl w.heap.size 26 i0 _ 2 16 Try.underlying24 hi hz0 hz1 hz2 rfl (by decide) _ _ _ rfl (ho1.alloc _) ⟨W1.heap.size, 0, none⟩ 1 1 (flat2 [(x.key, x.name)]) rfl rfl (cells_new2 _ _ _ _) (one_cells2 _ _) (by unfold maxLen; omega) (by omega) (by simp; omega) ?_; intro v' W2 hown2 hgrow _ hat)
      have hR2 : Reads2 W2 W2.heap.size (.slice (some ⟨b, off, none⟩) gk cap) (U.map It.kn) := (((HR1.out.keep ((Below.refl _ _).alloc z1 _)).grown hgrow (by simp; omega) HAp.out)).more (by have := hgrow.size; simp at this; omega)
      have hB2 : Below w.heap.size w W2 := (HB1.out.alloc HB1.out.size _).grown hgrow (by simp; have := HB1.out.size; omega) (fun q hq => (ho1.lt q hq).1)
      have HR2 := Lib.hid hR2
      have HB2 := Lib.hid hB2
      have HO2 := Lib.hid hown2
      clear hR2 hB2 hown2 hgrow ho1 d1 d2 hat
      go_wp2_with (go_at_call 32; refine (without_any _ (U.map It.kn) (by rw [List.length_map, HU.out]; omega) a (by omega) W2 HR2.out).mono ?_; rintro e W3 ⟨v3, rfl, hown3, hW3⟩)
      go_roundg (gk - 1)
      case measure => omega
      case rel =>
        have hU' : (U.eraseIdx a).length = gk - 1 := by rw [List.length_eraseIdx_of_lt (by rw [HU.out]; omega), HU.out]
        have hme : (U.map It.kn).eraseIdx a = (U.eraseIdx a).map It.kn := map_erase _ _ _
        rw [hme] at hown3
        have ho3 := own_ext ⟨W3, hW3⟩ HO2.out
        refine ⟨U.eraseIdx a, O ++ [(x.key, x.name)], hU', by simp; have := HOl.out; omega, HRs.out, ?_, Reads2.of_own hown3, ?_, ?_, HB2.out.trans (hW3.mono HB2.out.size)⟩
        · rw [← HE.out, HSs.out]; simp [It.kn]
        · rw [vblk_own hown3]
          cases h : Value.ownBlock v3 with
          | none => exact .inl rfl
          | some q =>
            refine .inr fun e => ?_
            have h1 := (hown3.lt q h).1
            have h2 := (HO2.out.lt q e.symm).2
            omega
        · rw [List.length_append, flat2_append]; exact ho3

end Go.Proofs.Ytekdjjfbkcgmhaa
