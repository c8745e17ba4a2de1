/-
  What is proved here: what pushed and popped of the laws return.
-/
import Derived.Test.YtekdjjfbkcgmhaaHpState
namespace Go.Proofs.Ytekdjjfbkcgmhaa
open Go.RowKit Hp
set_option linter.unusedVariables false
set_option linter.unusedSimpArgs false

/-- Items without their numbers, as cells. -/
def flat2 (l : List (Int × Int)) : List Value := l.flatMap fun x => [.int .i64 x.1, .int .i64 x.2]
theorem flat2_length (l : List (Int × Int)) : (flat2 l).length = l.length * 2 := by
  induction l with
  | nil => rfl
  | cons a l ih => simp only [flat2, List.flatMap_cons, List.length_append, List.length_cons] at *; rw [ih]; simp; omega
theorem flat2_cons (a : Int × Int) (l : List (Int × Int)) : flat2 (a :: l) = .int .i64 a.1 :: .int .i64 a.2 :: flat2 l := rfl
theorem flat2_append (l m : List (Int × Int)) : flat2 (l ++ m) = flat2 l ++ flat2 m := by simp [flat2]
theorem flat2_get (l : List (Int × Int)) : ∀ (i : Nat) (x : Int × Int), l[i]? = some x → (flat2 l)[i * 2]? = some (.int .i64 x.1) ∧ (flat2 l)[i * 2 + 1]? = some (.int .i64 x.2) := by
  induction l with
  | nil => intro i x h; simp at h
  | cons a l ih =>
    intro i x h
    rw [flat2_cons]
    cases i with
    | zero => simp at h; subst h; simp
    | succ i =>
      have := ih i x (by simpa using h)
      rw [show (i + 1) * 2 = i * 2 + 2 by omega]
      simpa using this
def It.kn (x : It) : Int × Int := (x.key, x.name)
theorem infoP : (Try.prog.info? 26).map (fun i => (i.zero, i.size, i.bytes)) = some (some (.agg #[.int .i64 0, .int .i64 0]), 2, 16) := by kernel_rfl
theorem cells_new2 (w : World) (a b : Int) (t : TypeId) : ∀ j u, (flat2 [(a, b)])[j]? = some u → (w.alloc (Obj.cells #[.int .i64 a, .int .i64 b] t)).cell? ((⟨w.heap.size, 0, none⟩ : Addr).add j) = some u := by
  intro j u h
  have hb : (w.alloc (Obj.cells #[.int .i64 a, .int .i64 b] t)).heap[w.heap.size]? = some (Obj.cells #[.int .i64 a, .int .i64 b] t) := alloc_new w _
  have e : (⟨w.heap.size, 0, none⟩ : Addr).add j = ⟨w.heap.size, j, none⟩ := by cases j <;> simp [Addr.add]
  have : (#[Value.int .i64 a, .int .i64 b] : Array Value)[j]? = some u := by
    simpa [flat2] using h
  rw [e]
  unfold World.cell?
  rw [hb]
  simpa using this
theorem one_cells2 (a b : Int) : ∀ u ∈ flat2 [(a, b)], u.oneCell' = true := by
  intro u hu
  simp only [flat2, List.flatMap_cons, List.flatMap_nil, List.append_nil, List.mem_cons, List.not_mem_nil, or_false] at hu
  rcases hu with rfl | rfl <;> rfl

theorem Touch.grown {hb : Nat} {ov row : Option Nat} {a b c : World} (h : Touch hb ov a b) (g : b.grownBy c row) (hr : ∀ k, row = some k → a.heap.size ≤ k) : Touch hb ov a c :=
  ⟨g.os.trans h.os, g.tape.trans h.tape, g.output.trans h.output, Nat.le_trans h.size g.size, fun k hk h1 h2 => (g.block k (by have := h.size; omega) (fun e => by have := hr k e.symm; omega)).trans (h.block k hk h1 h2)⟩
theorem Touch.later {hb : Nat} {ov : Option Nat} {a b c : World} (h : Touch hb ov a b) (g : Below b.heap.size b c) : Touch hb ov a c := h.trans (Touch.of_below (hb := hb) ov g) (Same_or_new.refl _ _)
theorem Below.two (w : World) (o o' : Obj) : Below w.heap.size w ((w.alloc o).alloc o') := ((Below.refl _ _).alloc (Nat.le_refl _) _).alloc (by simp) _
/-- What popped leaves: a new row with the items in order, the heap empty. -/
def RetPopped (f : Int → Int) (S : List It) (nx : Int) (B hb : Nat) (fid : FuncId) (ov : Option Nat) (w : World) (e : Ending) (w' : World) : Prop :=
  ∃ v, e = .returned v ∧ w'.ownsRow w.heap.size 26 2 v S.length (flat2 (S.map It.kn)) ∧ HpS w' B hb fid f [] nx ov ∧ Touch hb ov w w'
set_option maxRecDepth 100000 in
set_option maxHeartbeats 1000000 in
theorem popped_s (hb : Nat) (fid : FuncId) (f : Int → Int) (HL : Less fid (lsOf f)) (S : List It) (hlen : S.length < 1000) (B : Nat) (nx : Int) (ov : Option Nat) (w : World) (H : HpS w B hb fid f S nx ov) :
    Calls Try.prog 12 #[.pointer (some ⟨hb, 0, none⟩)] w (RetPopped f S nx B hb fid ov w) := by
  obtain ⟨i0, hi, hz0, hz1, hz2⟩ := info_parts infoP
  have HH := Lib.hid H
  clear H
  go_enter Try.func12, Try.ntmps12
  go_wp2_with fail
  go_loopw [3, 4, 5, 6] (fun v p q i wr => ∃ k : Nat, k ≤ S.length ∧ i = .int .i64 (k : Int) ∧ wr.ownsRow w.heap.size 26 2 v k (flat2 ((S.take k).map It.kn)) ∧ HpS wr B hb fid f (S.drop k) nx ov ∧ Touch hb ov w wr) (fun _ _ _ i _ => 1000 - (intOf i).toNat)
  case atStart => exact ⟨0, Nat.zero_le _, rfl, ⟨rfl, .inl ⟨rfl, rfl⟩⟩, HH.out, Touch.refl _ _ _⟩
  case round =>
    obtain ⟨k, hk, rfl, hown, hS, hT⟩ := hrel
    by_cases hlt : k < S.length
    · obtain ⟨s, hs⟩ : ∃ s, S.drop k = s :: S.drop (k + 1) := ⟨S[k], by rw [List.drop_eq_getElem_cons hlt]⟩
      have HS := Lib.hid hs
      rw [hs] at hS
      have HO := Lib.hid hown
      have HT := Lib.hid hT
      have HP := Lib.hid hS
      clear hs hown hT hS
      go_upto_region 6 with (go_at_call 24; refine (pop_s hb fid f HL _ s (by simp; omega) B nx ov _ HP.out).mono ?_; rintro e W ⟨rfl, hS, hT⟩)
      have ho := (HP.out.keeps hT).own HO.out (by decide) (by decide)
      have hsz : w.heap.size ≤ W.heap.size := Nat.le_trans HT.out.size hT.size
      have HT1 := Lib.hid hT
      have HS1 := Lib.hid hS
      clear hT hS
      go_wp2_with (at_builtin; refine wpList_append_own _ rfl (.tmp 15) (.tmp 17) 24 rfl w.heap.size 26 i0 _ 2 16 Try.underlying24 hi hz0 hz1 hz2 rfl (by decide) _ _ _ rfl ((ho.alloc _).alloc _) ⟨W.heap.size + 1, 0, none⟩ 1 1 (flat2 [(s.key, s.name)]) rfl rfl (by have := cells_new2 (W.alloc (Obj.cells #[.int .i64 s.key, .int .i64 s.name] 26)) s.key s.name 26; rw [World.size_alloc] at this; exact this) (one_cells2 _ _) (by unfold maxLen; omega) (by omega) (by simp; omega) ?_; intro v' W' hown' hgrow hat)
      go_roundw
      case rel =>
        have hS2 := (HS1.out.alloc (Obj.cells #[.int .i64 s.key, .int .i64 s.name] 26)).alloc (Obj.cells #[.int .i64 s.key, .int .i64 s.name] 26)
        obtain ⟨a1, a2⟩ := hS2.apart ((ho.alloc _).alloc _) (by decide) (by decide)
        refine ⟨k + 1, by omega, by go_num, ?_, hS2.grown hgrow a1 a2, ?_⟩
        · have e : S.take (k + 1) = S.take k ++ [s] := by
            rw [List.take_succ_eq_append_getElem hlt]
            have := HS.out
            rw [List.drop_eq_getElem_cons hlt] at this
            rw [(List.cons.inj this).1]
          rw [e, List.map_append, flat2_append]
          exact hown'
        · exact ((HT.out.trans HT1.out (Same_or_new.refl _ _)).later (Below.two W _ _)).grown hgrow (fun q hq => (ho.lt q hq).1)
      case measure => simp [intOf]; omega
    · obtain rfl : k = S.length := by omega
      rw [List.drop_length] at hS
      rw [List.take_length] at hown
      have HO := Lib.hid hown
      have HT := Lib.hid hT
      have HP := Lib.hid hS
      clear hown hT hS
      go_wp2_with (go_at_call 24; refine (pop_s_none hb fid f B nx ov _ HP.out).mono ?_; rintro e W ⟨rfl, hW⟩)
      go_ret
      exact ⟨_, rfl, ((Keeps.of_below hW).own HO.out (by decide) (by decide)).alloc _, HP.out.later hW |>.alloc _, (HT.out.later hW).later (Below.alloc (Below.refl _ _) (Nat.le_refl _) _)⟩

/-- A slice of items that is read: its cells below a block. -/
def Reads2 (w : World) (B : Nat) (v : Value) (l : List (Int × Int)) : Prop :=
  ∃ A cap, v = .slice A l.length cap ∧ (0 < l.length → ∃ b off, A = some ⟨b, off, none⟩ ∧ b < B ∧ ∀ i x, l[i]? = some x → w.cell? ⟨b, off + i * 2, none⟩ = some (.int .i64 x.1) ∧ w.cell? ⟨b, off + i * 2 + 1, none⟩ = some (.int .i64 x.2))
theorem Reads2.keep {w w' : World} {B : Nat} {v : Value} {l : List (Int × Int)} (h : Reads2 w B v l) (hb : Below B w w') : Reads2 w' B v l := by
  obtain ⟨A, cap, rfl, hc⟩ := h
  refine ⟨A, cap, rfl, fun h0 => ?_⟩
  obtain ⟨b, off, rfl, hlt, hx⟩ := hc h0
  refine ⟨b, off, rfl, hlt, fun i x hi => ?_⟩
  rw [hb.cell (p := ⟨b, off + i * 2, none⟩) hlt, hb.cell (p := ⟨b, off + i * 2 + 1, none⟩) hlt]
  exact hx i x hi
theorem Reads2.more {w : World} {B B' : Nat} {v : Value} {l : List (Int × Int)} (h : Reads2 w B v l) (hb : B ≤ B') : Reads2 w B' v l := by
  obtain ⟨A, cap, rfl, hc⟩ := h
  refine ⟨A, cap, rfl, fun h0 => ?_⟩
  obtain ⟨b, off, rfl, hlt, hx⟩ := hc h0
  exact ⟨b, off, rfl, by omega, hx⟩
theorem Reads2.of_own {w : World} {B : Nat} {v : Value} {l : List (Int × Int)} (h : w.ownsRow B 26 2 v l.length (flat2 l)) : Reads2 w w.heap.size v l := by
  rcases h.2 with ⟨rfl, h0⟩ | ⟨g, cap, cur, rfl, hb, hg, hn, hm, hsz, ht⟩
  · exact ⟨none, 0, by rw [h0], fun h => absurd h (by omega)⟩
  · refine ⟨_, cap, rfl, fun _ => ⟨g, 0, rfl, lt_of_block hg, fun i x hi => ?_⟩⟩
    have hil : i < l.length := (List.getElem?_eq_some_iff.1 hi).1
    have key : ∀ j, j < l.length * 2 → cur.toList[j]? = (flat2 l)[j]? := by
      intro j hj
      have := congrArg (fun x => x[j]?) ht
      simp only [List.getElem?_take, hj, if_true] at this
      exact this
    obtain ⟨f1, f2⟩ := flat2_get l i x hi
    rw [Nat.zero_add]
    refine ⟨?_, ?_⟩
    · have := (key (i * 2) (by omega)).trans f1
      simpa [World.cell?, hg] using this
    · have := (key (i * 2 + 1) (by omega)).trans f2
      simpa [World.cell?, hg] using this
/-- The items with their numbers. -/
def tag (l : List (Int × Int)) : List It := (List.range l.length).map fun i => ⟨(l.getD i (0, 0)).1, (l.getD i (0, 0)).2, i⟩
theorem tag_length (l : List (Int × Int)) : (tag l).length = l.length := by simp [tag]
theorem tag_take (l : List (Int × Int)) (k : Nat) (hk : k < l.length) (x : Int × Int) (hx : l[k]? = some x) : tag (l.take (k + 1)) = tag (l.take k) ++ [⟨x.1, x.2, k⟩] := by
  have h1 : (l.take (k + 1)).length = k + 1 := by simp; omega
  have h2 : (l.take k).length = k := by simp; omega
  unfold tag
  rw [h1, h2, List.range_succ, List.map_append]
  congr 1
  · apply List.map_congr_left
    intro i hi
    simp only [List.mem_range] at hi
    simp [List.getD, List.getElem?_take, hi, show i < k + 1 by omega]
  · simp [List.getD, List.getElem?_take, hx]
theorem tag_rise (l : List (Int × Int)) : Rise (tag l) := by
  unfold Rise tag
  rw [List.pairwise_map]
  exact List.pairwise_lt_range.imp (by intro a b h; simpa using h)
theorem tag_kn (l : List (Int × Int)) : (tag l).map It.kn = l := by
  apply List.ext_getElem
  · simp [tag]
  · intro i h1 h2
    simp [tag, It.kn, List.getD, h2]
theorem tag_ord {l : List (Int × Int)} {z : It} (h : z ∈ tag l) : z.ord < l.length := by
  unfold tag at h
  simp only [List.mem_map, List.mem_range] at h
  obtain ⟨m, hm, rfl⟩ := h
  simpa using hm
theorem srt_ords (f : Int → Int) (l : List (Int × Int)) (k : Nat) (hk : k ≤ l.length) (a b : Int) : ∀ y ∈ srt f (tag (l.take k)), y.ord < (⟨a, b, k⟩ : It).ord := by
  intro y hy
  have := tag_ord ((srt_perm f _).mem_iff.1 hy)
  rw [List.length_take, Nat.min_eq_left hk] at this
  exact this
theorem byKey_lessOf : Less 23 (lsOf id) := byKey_less

/-- What pushed leaves: a new heap with all items. -/
def RetPushed (l : List (Int × Int)) (w : World) (e : Ending) (w' : World) : Prop :=
  ∃ ov, e = .returned (.pointer (some ⟨w.heap.size, 0, none⟩)) ∧ HpS w' w.heap.size w.heap.size 23 id (srt id (tag l)) l.length ov ∧ Below w.heap.size w w'
set_option maxRecDepth 100000 in
set_option maxHeartbeats 1000000 in
theorem pushed_s (v : Value) (l : List (Int × Int)) (hlen : l.length ≤ 1000) (w : World) (H : Reads2 w w.heap.size v l) :
    Calls Try.prog 13 #[v] w (RetPushed l w) := by
  obtain ⟨A, cap, rfl, hA⟩ := H
  have HA := Lib.hid hA
  clear hA
  go_enter Try.func13, Try.ntmps13
  go_wp2_with (go_at_call 14; refine (new_s w.heap.size 23 id w).mono ?_; rintro e W ⟨rfl, hS, hW⟩)
  go_loopw [5, 9] (fun p i wr => ∃ (k : Nat) (ov : Option Nat), k ≤ l.length ∧ i = .int .i64 (k : Int) ∧ HpS wr w.heap.size w.heap.size 23 id (srt id (tag (l.take k))) k ov ∧ Below w.heap.size w wr) (fun _ i _ => l.length - (intOf i).toNat)
  case atStart => exact ⟨0, none, Nat.zero_le _, rfl, hS, hW⟩
  case round =>
    clear hS
    obtain ⟨k, ov, hk, rfl, hS, hB⟩ := hrel
    have HS := Lib.hid hS
    have HB := Lib.hid hB
    clear hS hB
    by_cases hlt : k < l.length
    · obtain ⟨b, off, rfl, had, hc⟩ := HA.out (by omega)
      obtain ⟨⟨x1, x2⟩, hx⟩ : ∃ x, l[k]? = some x := ⟨_, List.getElem?_eq_getElem hlt⟩
      obtain ⟨c1, c2⟩ := hc k _ hx
      simp only at c1 c2
      have hsz := HB.out.size
      rw [← HB.out.cell (p := ⟨b, off + k * 2, none⟩) had] at c1
      rw [← HB.out.cell (p := ⟨b, off + k * 2 + 1, none⟩) had] at c2
      have hbs : b < wr.heap.size := by omega
      have HX := Lib.hid hx
      clear hc hx
      go_wp2_with (go_at_call 16; refine (push_s w.heap.size 23 id byKey_lessOf _ (by rw [srt_length, tag_length]; simp; omega) w.heap.size ⟨x1, x2, k⟩ (by simp) (by simp; omega) ov _ (by simp; omega) (srt_ords _ _ _ hk _ _) (HS.out.alloc _)).mono ?_; rintro e W' ⟨rfl, ov', hS', hT, hn⟩)
      have hb' : Below w.heap.size w W' := ((HB.out.alloc (by omega) _).trans (hT.below (Nat.le_refl _) (by simp; omega) HS.out.ov_ge))
      go_roundw
      case rel => exact ⟨k + 1, ov', by omega, by go_num, by rw [tag_take l k hlt _ HX.out, srt_snoc]; exact hS', hb'⟩
      case measure => simp [intOf]; omega
    · obtain rfl : k = l.length := by omega
      rw [List.take_length] at HS
      go_wp2_with fail
      go_ret
      exact ⟨ov, rfl, HS.out, HB.out⟩

end Go.Proofs.Ytekdjjfbkcgmhaa
