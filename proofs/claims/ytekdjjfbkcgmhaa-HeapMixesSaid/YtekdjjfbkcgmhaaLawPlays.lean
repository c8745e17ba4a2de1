/-
  What is proved here: the law HeapPlays returns true for every input.
-/
import Derived.Test.YtekdjjfbkcgmhaaHpRef
import Derived.Test.YtekdjjfbkcgmhaaHpRemove
import Derived.Test.YtekdjjfbkcgmhaaLawPeeks
namespace Go.Proofs.Ytekdjjfbkcgmhaa
open Go.ChangeShapes Go.WideShapes Go.ChangeAt Go.RowKit Hp
set_option linter.unusedVariables false
set_option linter.unusedSimpArgs false

section
variable {H : Type} {enc : TypeId × Value → H} {w : World} {base : Nat} {spare : Nat → Bool} {held : Bool}
/-- The operations: kind, key, name. -/
theorem open_ops {r : Reach} {b0 : Nat} {v : Value} {d : DataW H} {p : List MemPlace}
    (hv : Value.okWide Try.prog w r b0 56 v) (h : DataW.Trod enc Try.prog w base spare held 56 v d p) :
    ∃ l : List (Int × Int × Int), ReadsAs w w.heap.size v l.length 3 (fun i cs => cs = [.int .i64 (l.getD i (0, 0, 0)).1, .int .i64 (l.getD i (0, 0, 0)).2.1, .int .i64 (l.getD i (0, 0, 0)).2.2]) ∧ ∀ n ∈ l, (Lit.int .i64 n.1).wf = true := by
  obtain ⟨len, A, cap, hv', h1, h2, hc⟩ := open_slice_as Try.underlying56 3 (by kernel_rfl) (by omega) hv h
  by_cases h0 : 0 < len
  · obtain ⟨b, off, ha, hb, hx⟩ := hc h0
    have key : ∀ i, i < len → ∃ n : Int × Int × Int, (∀ j, j < 3 → w.cell? ⟨b, off + (i * 3 + j), none⟩ = [Value.int .i64 n.1, .int .i64 n.2.1, .int .i64 n.2.2][j]?) ∧ (Lit.int .i64 n.1).wf = true := by
      intro i hi
      obtain ⟨cs, ⟨n, y, htr⟩, hl, hj⟩ := hx i hi
      obtain ⟨xs, n', _, _, _, hxl, hf⟩ := DataW.trod_struct Try.underlying58 htr
      have g0 := hf 0 _ rfl
      have g1 := hf 1 _ rfl
      have hxl' : xs.length = 2 := hxl
      rw [List.getElem?_eq_getElem (by omega)] at g0 g1
      obtain ⟨xs2, n2, _, _, _, hxl2, hf2⟩ := DataW.trod_struct Try.underlying26 g1
      have g2 := hf2 0 _ rfl
      have g3 := hf2 1 _ rfl
      have hxl2' : xs2.length = 2 := hxl2
      rw [List.getElem?_eq_getElem (by omega)] at g2 g3
      have c26 : Try.prog.cellsOf 26 = 2 := by kernel_rfl
      have c3 : Try.prog.cellsOf 3 = 1 := by kernel_rfl
      match cs, hl with
      | [k0, k1, k2], _ =>
        obtain ⟨z0, e0, _, w0⟩ := DataW.trod_int Try.underlying3 g0
        obtain ⟨z1, e1, _, w1⟩ := DataW.trod_int Try.underlying3 g2
        obtain ⟨z2, e2, _, w2⟩ := DataW.trod_int Try.underlying3 g3
        simp [c26, c3] at e0 e1 e2
        subst e0 e1 e2
        exact ⟨(z0, z1, z2), hj, w0⟩
    have key' : ∃ f : Nat → Int × Int × Int, ∀ i, i < len → (∀ j, j < 3 → w.cell? ⟨b, off + (i * 3 + j), none⟩ = [Value.int .i64 (f i).1, .int .i64 (f i).2.1, .int .i64 (f i).2.2][j]?) ∧ (Lit.int .i64 (f i).1).wf = true := by
      refine ⟨fun i => if h : i < len then (key i h).choose else (0, 0, 0), fun i hi => ?_⟩
      simp only [hi, dif_pos]
      exact (key i hi).choose_spec
    obtain ⟨f, hf⟩ := key'
    refine ⟨(List.range len).map f, ?_, fun n hn => ?_⟩
    · rw [List.length_map, List.length_range]
      refine ⟨A, cap, hv', h1, h2, fun _ => ⟨b, off, ha, hb, fun i hi => ⟨_, rfl, rfl, fun j hj => ?_⟩⟩⟩
      simpa [hi] using (hf i hi).1 j hj
    · simp only [List.mem_map, List.mem_range] at hn
      obtain ⟨i, hi, rfl⟩ := hn
      exact (hf i hi).2
  · obtain rfl : len = 0 := by omega
    exact ⟨[], ⟨A, cap, hv', h1, h2, fun h => absurd h (by simp)⟩, fun n hn => by cases hn⟩
end

/-- Which items go. -/
def gone3 (name a b : Int) : Bool := b.tmod 3 == name.tmod 3
set_option maxHeartbeats 400000 in
theorem gone3_any (name a b : Int) (kb : Nat) (w : World) (hc : w.cell? ⟨kb, 2, none⟩ = some (.int .i64 name)) (hs : kb < w.heap.size) :
    Calls Try.prog 33 #[.agg #[.int .i64 a, .int .i64 b], .pointer (some ⟨kb, 0, none⟩)] w fun e w' => e = .returned (.bool (gone3 name a b)) ∧ Below w.heap.size w w' := by
  go_enter Try.func33, Try.ntmps33
  go_wp2
  go_ret
  exact ⟨rfl, (Below.refl _ _).alloc (Nat.le_refl _) _⟩
theorem gone3_match (name : Int) (kb : Nat) (w : World) (hc : w.cell? ⟨kb, 2, none⟩ = some (.int .i64 name)) (hs : kb < w.heap.size) : Match 33 #[.pointer (some ⟨kb, 0, none⟩)] (gone3 name) w :=
  ⟨fun _ _ => by kernel_rfl, fun a b W hW => gone3_any name a b kb W ((hW.cell (p := ⟨kb, 2, none⟩) hs).trans hc) (Nat.lt_of_lt_of_le hs hW.size)⟩

theorem Touch.widen {hb : Nat} {w w' : World} (t : Touch hb none w w') (ov : Option Nat) : Touch hb ov w w' := ⟨t.os, t.tape, t.output, t.size, fun k hk h1 _ => t.block k hk h1 (by simp)⟩
def keep3 (name : Int) (x : Int × Int) : Bool := !(gone3 name x.1 x.2)
theorem keep3_map (name : Int) (S : List It) : (S.filter (stay (gone3 name))).map It.kn = (S.map It.kn).filter (keep3 name) := by
  induction S with
  | nil => rfl
  | cons a S ih =>
    simp only [List.filter_cons, List.map_cons]
    have e : keep3 name a.kn = stay (gone3 name) a := rfl
    rw [e]
    by_cases c : stay (gone3 name) a = true
    · rw [if_pos c, if_pos c, List.map_cons, ih]
    · rw [if_neg c, if_neg c, ih]
theorem filter_next {α : Type} (p : α → Bool) (L : List α) (k : Nat) (x : α) (h : L[k]? = some x) : (L.take (k + 1)).filter p = (L.take k).filter p ++ (if p x = true then [x] else []) := by
  rw [List.take_add_one, List.filter_append, h]
  congr 1
  by_cases c : p x = true <;> simp [c]
/-- What holds between two operations: the items that remain, in the order of pushing. -/
structure Pl (W wr : World) (m : Value) (T : List It) (nx : Nat) (ov : Option Nat) : Prop where
  rise : Rise T
  ords : ∀ x ∈ T, x.ord < (nx : Int)
  len : T.length ≤ nx
  row : wr.ownsRow W.heap.size 26 2 m T.length (flat2 (T.map It.kn))
  hp : HpS wr W.heap.size W.heap.size 23 id (srt id T) nx ov
  below : Below W.heap.size W wr

theorem Pl.later {W wr W' : World} {m : Value} {T : List It} {nx : Nat} {ov : Option Nat} (P : Pl W wr m T nx ov) (h : Below wr.heap.size wr W') : Pl W W' m T nx ov :=
  ⟨P.rise, P.ords, P.len, own_ext ⟨W', h⟩ P.row, P.hp.later h, P.below.trans (h.mono P.below.size)⟩
theorem Pl.reads {W wr : World} {m : Value} {T : List It} {nx : Nat} {ov : Option Nat} (P : Pl W wr m T nx ov) : Reads2 wr wr.heap.size m (T.map It.kn) := Reads2.of_own (by rw [List.length_map]; exact P.row)
theorem Pl.srt_ords {W wr : World} {m : Value} {T : List It} {nx : Nat} {ov : Option Nat} (P : Pl W wr m T nx ov) : ∀ y ∈ srt id T, y.ord < (nx : Int) := fun y hy => P.ords y ((srt_perm id _).mem_iff.1 hy)
theorem rise_snoc {T : List It} {x : It} (h : Rise T) (hx : ∀ y ∈ T, y.ord < x.ord) : Rise (T ++ [x]) :=
  List.pairwise_append.2 ⟨h, List.pairwise_singleton _ _, fun a ha b hb => by simp only [List.mem_singleton] at hb; subst hb; exact hx a ha⟩
theorem srt_filter (p : It → Bool) {T : List It} (h : Rise T) : (srt id T).filter p = srt id (T.filter p) :=
  srt_unique (List.Pairwise.filter _ (srt_srt h)) (srt_srt (List.Pairwise.filter _ h)) (((srt_perm id T).filter p).trans (srt_perm id _).symm)
theorem grown_set2 (w : World) (g : Nat) (u v : Value) : w.grownBy ((w.setCell ⟨g, 0, none⟩ u).setCell ⟨g, 1, none⟩ v) (some g) :=
  ⟨rfl, rfl, rfl, by simp, fun k hk hn => by rw [heap_setCell_other _ ⟨g, 1, none⟩ k _ (fun e => hn (by simp [e])), heap_setCell_other _ ⟨g, 0, none⟩ k _ (fun e => hn (by simp [e]))]⟩
theorem Pl.grown {W wr W' : World} {m : Value} {T : List It} {nx : Nat} {ov : Option Nat} {q : Nat} (P : Pl W wr m T nx ov) (g : wr.grownBy W' (some q)) (h0 : W.heap.size < q) (h1 : m.ownBlock ≠ some q) (h2 : ov ≠ some q) : Pl W W' m T nx ov :=
  ⟨P.rise, P.ords, P.len, ⟨P.row.1, by
    rcases P.row.2 with h | ⟨b, cap, cur, rfl, hb, hk, hr⟩
    · exact .inl h
    · refine .inr ⟨b, cap, cur, rfl, hb, ?_, hr⟩
      rw [g.block b (lt_of_block hk) (by simpa [Value.ownBlock] using h1)]
      exact hk⟩, P.hp.grown g (by simp; omega) (.inr (fun e => h2 e.symm)), P.below.grown g P.below.size (fun k hk => by simp at hk; omega)⟩
theorem Pl.popped {W wr W' : World} {m : Value} {T : List It} {nx : Nat} {ov : Option Nat} {a : Nat} (P : Pl W wr m T nx ov) (hT : Touch W.heap.size ov wr W') (hS : HpS W' W.heap.size W.heap.size 23 id (srt id (T.eraseIdx a)) nx ov) (hr : W'.ownsRow W.heap.size 26 2 m T.length (flat2 (T.map It.kn))) :
    Below W.heap.size W W' := P.below.trans (hT.below (Nat.le_refl _) P.below.size P.hp.ov_ge)
theorem blk_cell {w : World} {q : Nat} {cur : Array Value} {t : TypeId} (h : w.heap[q]? = some (.cells cur t (0, 0))) (i : Nat) : w.cell? ⟨q, i, none⟩ = cur[i]? := by
  unfold World.cell?
  simp only [h]
  rfl
theorem blk_frozen {w : World} {q : Nat} {cur : Array Value} {t : TypeId} (h : w.heap[q]? = some (.cells cur t (0, 0))) (i : Nat) : w.frozen? ⟨q, i, none⟩ = false := by simp [World.frozen?, h]
theorem set2_blk {w : World} {g : Nat} {a b : Value} {t : TypeId} (h : w.heap[g]? = some (.cells #[a, b] t (0, 0))) (u v : Value) : ((w.setCell ⟨g, 0, none⟩ u).setCell ⟨g, 1, none⟩ v).heap[g]? = some (.cells #[u, v] t (0, 0)) := by
  have h1 := heap_setCell_same w g 0 _ _ u h
  have h2 := heap_setCell_same _ g 1 _ _ v h1
  simpa using h2
theorem own_grown' {w w' : World} {B n size : Nat} {e : TypeId} {v : Value} {xs : List Value} {q : Nat} (h : w.ownsRow B e size v n xs) (g : w.grownBy w' (some q)) (hne : v.ownBlock ≠ some q) : w'.ownsRow B e size v n xs := by
  refine ⟨h.1, ?_⟩
  rcases h.2 with h0 | ⟨b, cap, cur, rfl, hb, hk, hr⟩
  · exact .inl h0
  · refine .inr ⟨b, cap, cur, rfl, hb, ?_, hr⟩
    rw [g.block b (lt_of_block hk) (by simpa [Value.ownBlock] using hne)]
    exact hk
theorem own_not {w : World} {B n size : Nat} {e : TypeId} {v : Value} {xs : List Value} (h : w.ownsRow B e size v n xs) {q : Nat} (hq : w.heap.size ≤ q) : v.ownBlock ≠ some q := fun e => by have := (h.lt q e).2; omega
/-- The slot of the operation, and what lies there. -/
def Oat (wr : World) (q : Nat) (kind key name : Int) : Prop := wr.heap[q]? = some (.cells #[.int .i64 kind, .int .i64 key, .int .i64 name] 58 (0, 0))
theorem Oat.cells {wr : World} {q : Nat} {kind key name : Int} (h : Oat wr q kind key name) : wr.cell? ⟨q, 0, none⟩ = some (.int .i64 kind) ∧ wr.cell? ⟨q, 1, none⟩ = some (.int .i64 key) ∧ wr.cell? ⟨q, 2, none⟩ = some (.int .i64 name) ∧ q < wr.heap.size := by
  unfold Oat at h
  refine ⟨?_, ?_, ?_, lt_of_block h⟩ <;> simp [World.cell?, h]

set_option maxRecDepth 100000 in
set_option maxHeartbeats 4000000 in
theorem plays_in (v : Value) (l : List (Int × Int × Int)) (hlen : l.length ≤ 100) (w : World) (H : ReadsAs w w.heap.size v l.length 3 (fun i cs => cs = [.int .i64 (l.getD i (0, 0, 0)).1, .int .i64 (l.getD i (0, 0, 0)).2.1, .int .i64 (l.getD i (0, 0, 0)).2.2])) :
    Calls Try.prog 9 #[v] w fun e w' => e = .returned (.bool true) ∧ Below w.heap.size w w' := by
  have hmf : ∀ (fn : Fn) (first cap : Array Value) (w : World), (Instr.makeFunc fn first cap).run Try.prog w = .ok (.func fn first cap) w := fun _ _ _ _ => rfl
  obtain ⟨i0, hi, hz0, hz1, hz2⟩ := info_parts infoP
  have hne : ∀ (a b : Int) (w : World), (binOp .neq 26 (.agg #[.int .i64 a, .int .i64 b]) (.agg #[.int .i64 a, .int .i64 b])).run Try.prog w = .ok (.bool false) w := fun a b w => by rw [ne_it]; simp
  obtain ⟨A, cap, rfl, _, _, hA⟩ := H
  have HA := Lib.hid hA
  clear hA
  go_enter Try.func9, Try.ntmps9
  go_wp2_with (first | (go_at_call 11; refine (awake_any _).mono ?_; rintro e W ⟨rfl, hW⟩) | (go_at_call 14; refine (new_s W.heap.size 23 id W).mono ?_; rintro e W1 ⟨rfl, hS, hB1⟩))
  have HW := Lib.hid hW
  have HS0 := Lib.hid hS
  have HB1 := Lib.hid hB1
  clear hW hS hB1
  go_loopg [4, 6, 7, 8, 9, 10, 11, 12, 14, 23] l.length (fun gk m a6 a7 a8 a9 a10 a11 a12 a14 i wr => ∃ (k nx : Nat) (T : List It) (ov : Option Nat), k + gk = l.length ∧ i = .int .i64 (k : Int) ∧ nx ≤ k ∧ Pl W wr m T nx ov)
  case atStart => exact ⟨0, 0, [], none, by omega, rfl, Nat.le_refl _, ⟨List.Pairwise.nil, (fun x hx => by cases hx), Nat.le_refl _, ⟨rfl, .inl ⟨rfl, rfl⟩⟩, HS0.out, HB1.out⟩⟩
  case round =>
    obtain ⟨k, nx, T, ov, hk, rfl, hnx, P⟩ := hrel
    have HP := Lib.hid P
    have zW := HW.out.size
    have zr := P.below.size
    have hTl := P.len
    clear P HS0 HB1
    by_cases h0 : gk = 0
    · have hkl : k = l.length := by omega
      subst hkl
      obtain ⟨ma, mc, hmv⟩ := own_len HP.out.row
      subst hmv
      go_wp2_with (first | (go_at_call 12; refine (popped_s W.heap.size _ id byKey_lessOf _ (by rw [srt_length]; omega) W.heap.size _ ov wr HP.out.hp).mono ?_; rintro e W2 ⟨p2, rfl, hown2, hS2, hT2⟩) | (go_at_call 34; refine (rsorted_any _ T HP.out.rise (by omega) W2 (Reads2.of_own (by rw [List.length_map]; exact (HP.out.hp.keeps hT2).own HP.out.row (by decide) (by decide)))).mono ?_; rintro e W3 ⟨p3, rfl, hown3, hB3⟩))
      refine (same_yes _ _ ((srt id T).map It.kn) (by rw [List.length_map, srt_length]; omega) W3 _ (Nat.le_refl _) (Reads2.of_own (by rw [List.length_map]; exact own_ext ⟨W3, hB3⟩ hown2)) (Reads2.of_own hown3)).mono ?_
      rintro e W4 ⟨rfl, hB4⟩
      have hB2 : Below W.heap.size W W2 := HP.out.below.trans (hT2.below (Nat.le_refl _) zr HP.out.hp.ov_ge)
      have z2 := hB2.size
      have z3 := hB3.size
      go_wp2_with fail
      go_ret
      exact ⟨rfl, HW.out.trans (((hB2.trans (hB3.mono z2)).trans (hB4.mono (by omega))).mono zW)⟩
    · obtain ⟨b, off, rfl, hb, hx⟩ := HA.out (by omega)
      obtain ⟨cs, rfl, _, hc⟩ := hx k (by omega)
      obtain ⟨⟨kind, key, name⟩, hxx⟩ : ∃ x, l.getD k (0, 0, 0) = x := ⟨_, rfl⟩
      rw [hxx] at hc
      have c0 := hc 0 (by omega)
      have c1 := hc 1 (by omega)
      have c2 := hc 2 (by omega)
      simp only [Nat.add_zero, List.getElem?_cons_zero, List.getElem?_cons_succ, ← Nat.add_assoc] at c0 c1 c2
      have hbw : b < W.heap.size := by omega
      rw [← HW.out.cell (p := ⟨b, off + k * 3, none⟩) hb, ← HP.out.below.cell (p := ⟨b, off + k * 3, none⟩) hbw] at c0
      rw [← HW.out.cell (p := ⟨b, off + k * 3 + 1, none⟩) hb, ← HP.out.below.cell (p := ⟨b, off + k * 3 + 1, none⟩) hbw] at c1
      rw [← HW.out.cell (p := ⟨b, off + k * 3 + 2, none⟩) hb, ← HP.out.below.cell (p := ⟨b, off + k * 3 + 2, none⟩) hbw] at c2
      have hbr : b < wr.heap.size := by omega
      have hkl : k < l.length := by omega
      clear hx hc hxx
      obtain ⟨wo, rfl⟩ : ∃ wo : World, wo = wr := ⟨_, rfl⟩
      obtain ⟨ma, mc, hmv⟩ := own_len HP.out.row
      subst hmv
      have hRm : Reads2 wo wo.heap.size (.slice ma T.length mc) (T.map It.kn) := Reads2.of_own (by rw [List.length_map]; exact HP.out.row)
      have HRm := Lib.hid hRm
      clear hRm
      go_upto_region 11 with (go_at_call 31; refine (first_any _ (T.map It.kn) (by rw [List.length_map]; omega) _ ((HRm.out.keep ((Below.refl _ _).alloc (Nat.le_refl _) _)).more (by simp))).mono ?_; rintro e W2 ⟨rfl, hW2⟩)
      have hP2 := (HP.out.later ((Below.refl _ _).alloc (Nat.le_refl _) (Obj.cells #[.int .i64 kind, .int .i64 key, .int .i64 name] 58))).later hW2
      have hO2 : Oat W2 wo.heap.size kind key name := (ext_block ⟨W2, hW2⟩ (alloc_new wo (Obj.cells #[.int .i64 kind, .int .i64 key, .int .i64 name] 58)))
      have HP2 := Lib.hid hP2
      have HO2 := Lib.hid hO2
      clear HP hP2 hO2 hW2 c0 c1 c2 HRm
      obtain ⟨o0, o1, o2, o3⟩ := HO2.out.cells
      go_upto_block 2 with fail
      go_cut [4, 7] from 24 to 133 (fun m a7 wx => ∃ (nx' : Nat) (T' : List It) (ov' : Option Nat), nx' ≤ k + 1 ∧ Pl W wx m T' nx' ov')
      case first =>
        by_cases k1 : kind = 1
        · subst k1
          go_upto_region 14 with (go_at_call 16; refine (push_s W.heap.size 23 id byKey_lessOf _ (by rw [srt_length]; omega) W.heap.size ⟨key, name, nx⟩ (by simp) (by simp; omega) ov W2 (by have := HP2.out.below.size; omega) HP2.out.srt_ords HP2.out.hp).mono ?_; rintro e W3 ⟨rfl, ov', hS', hT, hn⟩)
          have hk3 := HP2.out.hp.keeps hT
          have hO3 : Oat W3 wo.heap.size 1 key name := hk3.block HO2.out (by decide) (by decide)
          have hr3 := hk3.own HP2.out.row (by decide) (by decide)
          have hB3 : Below W.heap.size W W3 := HP2.out.below.trans (hT.below (Nat.le_refl _) HP2.out.below.size HP2.out.hp.ov_ge)
          have z3 := hB3.size
          clear o0 o1 o2 o3
          obtain ⟨o0, o1, o2, o3⟩ := hO3.cells
          have HS3 := Lib.hid hS'
          have HB3 := Lib.hid hB3
          clear hk3 hO3 hB3 hT hS' hn
          go_wp2_with (at_builtin; refine wpList_append_own _ rfl (.tmp 37) (.tmp 40) 24 rfl W.heap.size 26 i0 _ 2 16 Try.underlying24 hi hz0 hz1 hz2 rfl (by decide) _ _ _ rfl (hr3.alloc _) ⟨W3.heap.size, 0, none⟩ 1 1 (flat2 [(key, name)]) rfl rfl (cells_new2 _ _ _ _) (one_cells2 _ _) (by unfold maxLen; omega) (by omega) (by simp; omega) ?_; intro v' W4 hown4 hgrow _)
          go_meet
          obtain ⟨p1, p2⟩ := (HS3.out.alloc (Obj.cells #[.int .i64 key, .int .i64 name] 26)).apart (hr3.alloc _) (by decide) (by decide)
          refine ⟨nx + 1, T ++ [⟨key, name, nx⟩], ov', by omega, ⟨rise_snoc HP2.out.rise HP2.out.ords, fun x hx => ?_, by simp; omega, ?_, ?_, (HB3.out.alloc z3 _).grown hgrow (by simp; omega) (fun q hq => (hr3.lt q hq).1)⟩⟩
          · rcases List.mem_append.1 hx with hx | hx
            · have := HP2.out.ords x hx; omega
            · simp only [List.mem_singleton] at hx; subst hx; simp; omega
          · rw [List.length_append, List.map_append, flat2_append]; exact hown4
          · rw [srt_snoc]
            have := (HS3.out.alloc (Obj.cells #[.int .i64 key, .int .i64 name] 26)).grown hgrow p1 p2
            simpa using this
        · have q1 : (kind == 1) = false := by simpa using k1
          by_cases k2 : kind = 2
          · subst k2
            by_cases hT0 : T.length = 0
            · obtain rfl : T = [] := List.length_eq_zero_iff.1 hT0
              have e7 : ixv (best (List.map It.kn []) ([] : List It).length) = -1 := rfl
              rw [e7]
              clear e7
              go_upto_region 18 with (go_at_call 25; refine (peek_s_none W.heap.size _ id W.heap.size _ ov W2 HP2.out.hp).mono ?_; rintro e W3 ⟨rfl, hW3⟩)
              have hP3 := (HP2.out.later hW3).later ((Below.refl _ _).alloc (Nat.le_refl _) (Obj.cells #[.int .i64 0, .int .i64 0] 26))
              have hO3 : Oat (W3.alloc (Obj.cells #[.int .i64 0, .int .i64 0] 26)) wo.heap.size 2 key name := alloc_block _ (ext_block ⟨W3, hW3⟩ HO2.out)
              have hk8 := alloc_new W3 (Obj.cells #[.int .i64 0, .int .i64 0] 26)
              have z3 := hW3.size
              have HP3 := Lib.hid hP3
              have HO3 := Lib.hid hO3
              have HK8 := Lib.hid hk8
              have HPW := Lib.hid (HP2.out.later hW3)
              clear hP3 hO3 hk8 hW3 o0 o1 o2 o3
              obtain ⟨o0, o1, o2, o3⟩ := HO3.out.cells
              go_upto_region 20 with (go_at_call 24; refine (pop_s_none W.heap.size _ id W.heap.size _ ov _ HP3.out.hp).mono ?_; rintro e W4 ⟨rfl, hW4⟩; have k8 := ext_block ⟨W4, hW4⟩ HK8.out; simp only at k8; have y1 : W4.cell? ⟨W3.heap.size, 0, none⟩ = some (.int .i64 0) := (blk_cell k8 _).trans rfl; have y2 : W4.cell? ⟨W3.heap.size, 1, none⟩ = some (.int .i64 0) := (blk_cell k8 _).trans rfl; have y3 : W4.frozen? ⟨W3.heap.size, 0, none⟩ = false := blk_frozen k8 _; have y4 : W4.frozen? ⟨W3.heap.size, 1, none⟩ = false := blk_frozen k8 _; have y5 := lt_of_block k8)
              obtain ⟨V, hV⟩ : ∃ V, (W4.setCell ⟨W3.heap.size, 0, none⟩ (.int .i64 0)).setCell ⟨W3.heap.size, 1, none⟩ (.int .i64 0) = V := ⟨_, rfl⟩
              have hPV := (HP3.out.later hW4).grown (grown_set2 W4 W3.heap.size (.int .i64 0) (.int .i64 0)) (by have := HP2.out.hp.blk; omega) (own_not HPW.out.row (Nat.le_refl _)) (fun e => by have := HPW.out.hp.ov_lt _ e; omega)
              have hOV : Oat ((W4.setCell ⟨W3.heap.size, 0, none⟩ (.int .i64 0)).setCell ⟨W3.heap.size, 1, none⟩ (.int .i64 0)) wo.heap.size 2 key name := ((grown_set2 W4 W3.heap.size (.int .i64 0) (.int .i64 0)).block wo.heap.size (lt_of_block (ext_block ⟨W4, hW4⟩ HO3.out)) (by have := HO2.out.cells.2.2.2; simp; omega)).trans (ext_block ⟨W4, hW4⟩ HO3.out)
              have v1 : ((W4.setCell ⟨W3.heap.size, 0, none⟩ (.int .i64 0)).setCell ⟨W3.heap.size, 1, none⟩ (.int .i64 0)).cell? ⟨W3.heap.size, 0, none⟩ = some (.int .i64 0) := (blk_cell (set2_blk k8 _ _) _).trans rfl
              have v2 : ((W4.setCell ⟨W3.heap.size, 0, none⟩ (.int .i64 0)).setCell ⟨W3.heap.size, 1, none⟩ (.int .i64 0)).cell? ⟨W3.heap.size, 1, none⟩ = some (.int .i64 0) := (blk_cell (set2_blk k8 _ _) _).trans rfl
              have v3 : W3.heap.size < ((W4.setCell ⟨W3.heap.size, 0, none⟩ (.int .i64 0)).setCell ⟨W3.heap.size, 1, none⟩ (.int .i64 0)).heap.size := by simp; exact y5
              rw [hV] at hPV hOV v1 v2 v3 ⊢
              clear hV y1 y2 y3 y4 y5 k8 hW4 HP3 HPW HK8 HO3 o0 o1 o2 o3
              obtain ⟨o0, o1, o2, o3⟩ := hOV.cells
              have HPV := Lib.hid hPV
              clear hPV hOV
              refine wp_region_ext (by kernel_rfl) (by kernel_rfl) ?_
              repeat (go_big_quiet_step (fail))
              refine wpQuiet_nil ?_
              rintro _ ⟨y, rfl⟩
              go_wp2_with fail
              go_meet
              exact ⟨nx, [], ov, by omega, HPV.out.later y.h⟩
            · obtain ⟨a, ha, hb1, hb2, hb3⟩ := srt_step HP2.out.rise (by omega)
              rw [List.length_map] at hb1
              have e7 : ixv (best (List.map It.kn T) T.length) = (a : Int) := by rw [hb1]; rfl
              rw [e7]
              obtain ⟨x, hx⟩ : ∃ x, T[a] = x := ⟨_, rfl⟩
              rw [hx] at hb2
              have hxm : (T.map It.kn)[a]? = some (x.key, x.name) := by rw [List.getElem?_map, List.getElem?_eq_getElem ha, hx]; rfl
              have hpx := HP2.out.hp
              rw [hb2] at hpx
              have HPX := Lib.hid hpx
              have HB2 := Lib.hid hb2
              have HB3 := Lib.hid hb3
              have HXM := Lib.hid hxm
              have hEl : (T.eraseIdx a).length + 1 = T.length := by rw [List.length_eraseIdx_of_lt ha]; omega
              clear e7 hb1 hb2 hb3 hx hxm hpx
              go_upto_region 18 with (go_at_call 25; refine (peek_s W.heap.size _ id _ x (by rw [srt_length]; omega) W.heap.size _ ov W2 HPX.out).mono ?_; rintro e W3 ⟨rfl, hW3⟩)
              have hP3 := (HP2.out.later hW3).later ((Below.refl _ _).alloc (Nat.le_refl _) (Obj.cells #[.int .i64 x.key, .int .i64 x.name] 26))
              have hO3 : Oat (W3.alloc (Obj.cells #[.int .i64 x.key, .int .i64 x.name] 26)) wo.heap.size 2 key name := alloc_block _ (ext_block ⟨W3, hW3⟩ HO2.out)
              have hk8 := alloc_new W3 (Obj.cells #[.int .i64 x.key, .int .i64 x.name] 26)
              have hX3 := (HPX.out.later hW3).alloc (Obj.cells #[.int .i64 x.key, .int .i64 x.name] 26)
              have z3 := hW3.size
              have HP3 := Lib.hid hP3
              have HO3 := Lib.hid hO3
              have HK8 := Lib.hid hk8
              have HX3 := Lib.hid hX3
              have HPW := Lib.hid (HP2.out.later hW3)
              clear hP3 hO3 hk8 hX3 hW3 o0 o1 o2 o3
              obtain ⟨o0, o1, o2, o3⟩ := HO3.out.cells
              go_upto_region 20 with (go_at_call 24; refine (pop_s W.heap.size _ id byKey_lessOf _ x (by rw [srt_length]; omega) W.heap.size _ ov _ HX3.out).mono ?_; rintro e W4 ⟨rfl, hS4, hT4⟩; have k8 := (HX3.out.keeps hT4).block HK8.out (by decide) (by decide); have y1 : W4.cell? ⟨W3.heap.size, 0, none⟩ = some (.int .i64 x.key) := (blk_cell k8 _).trans rfl; have y2 : W4.cell? ⟨W3.heap.size, 1, none⟩ = some (.int .i64 x.name) := (blk_cell k8 _).trans rfl; have y3 : W4.frozen? ⟨W3.heap.size, 0, none⟩ = false := blk_frozen k8 _; have y4 : W4.frozen? ⟨W3.heap.size, 1, none⟩ = false := blk_frozen k8 _; have y5 := lt_of_block k8)
              obtain ⟨V, hV⟩ : ∃ V, (W4.setCell ⟨W3.heap.size, 0, none⟩ (.int .i64 x.key)).setCell ⟨W3.heap.size, 1, none⟩ (.int .i64 x.name) = V := ⟨_, rfl⟩
              have gs := grown_set2 W4 W3.heap.size (.int .i64 x.key) (.int .i64 x.name)
              have zb := HP2.out.hp.blk
              have hk4 := HX3.out.keeps hT4
              have hr4 := hk4.own HP3.out.row (by decide) (by decide)
              have hrV := own_grown' hr4 gs (own_not HPW.out.row (Nat.le_refl _))
              have hSV := hS4.grown gs (by simp; omega) (.inr (fun e => by have := HPW.out.hp.ov_lt _ e.symm; omega))
              have hBV : Below W.heap.size W ((W4.setCell ⟨W3.heap.size, 0, none⟩ (.int .i64 x.key)).setCell ⟨W3.heap.size, 1, none⟩ (.int .i64 x.name)) := (HP3.out.below.trans (hT4.below (Nat.le_refl _) HP3.out.below.size HX3.out.ov_ge)).grown gs (by have := HP3.out.below.size; have := hT4.size; omega) (fun k hk => by simp at hk; omega)
              have hOV : Oat ((W4.setCell ⟨W3.heap.size, 0, none⟩ (.int .i64 x.key)).setCell ⟨W3.heap.size, 1, none⟩ (.int .i64 x.name)) wo.heap.size 2 key name := (gs.block wo.heap.size (lt_of_block (hk4.block HO3.out (by decide) (by decide))) (by have := HO2.out.cells.2.2.2; simp; omega)).trans (hk4.block HO3.out (by decide) (by decide))
              have v1 : ((W4.setCell ⟨W3.heap.size, 0, none⟩ (.int .i64 x.key)).setCell ⟨W3.heap.size, 1, none⟩ (.int .i64 x.name)).cell? ⟨W3.heap.size, 0, none⟩ = some (.int .i64 x.key) := (blk_cell (set2_blk k8 _ _) _).trans rfl
              have v2 : ((W4.setCell ⟨W3.heap.size, 0, none⟩ (.int .i64 x.key)).setCell ⟨W3.heap.size, 1, none⟩ (.int .i64 x.name)).cell? ⟨W3.heap.size, 1, none⟩ = some (.int .i64 x.name) := (blk_cell (set2_blk k8 _ _) _).trans rfl
              have v3 : W3.heap.size < ((W4.setCell ⟨W3.heap.size, 0, none⟩ (.int .i64 x.key)).setCell ⟨W3.heap.size, 1, none⟩ (.int .i64 x.name)).heap.size := by simp; exact y5
              rw [hV] at hrV hSV hBV hOV v1 v2 v3 ⊢
              clear hV y1 y2 y3 y4 y5 k8 hT4 hS4 hk4 hr4 gs HP3 HX3 HK8 HO3 o0 o1 o2 o3
              obtain ⟨o0, o1, o2, o3⟩ := hOV.cells
              have hrV' : V.ownsRow W.heap.size 26 2 (.slice ma T.length mc) (T.map It.kn).length (flat2 (T.map It.kn)) := by rw [List.length_map]; exact hrV
              obtain ⟨gm, cm, em, hm1, hm2, m1, m2, _⟩ := own2_at hrV' a _ HXM.out
              simp only [Value.slice.injEq, List.length_map, true_and] at em
              obtain ⟨rfl, rfl⟩ := em
              simp only at m1 m2
              have HRV := Lib.hid hrV
              have HSV := Lib.hid hSV
              have HBV := Lib.hid hBV
              have HRd := Lib.hid (Reads2.of_own hrV')
              clear hSV hBV hOV
              have gd : decide (0 ≤ (a : Int)) = true := by simp
              have hal : a < T.length := ha
              clear hrV hrV'
              refine wp_region_ext (by kernel_rfl) (by kernel_rfl) ?_
              repeat (go_big_quiet_step (fail))
              refine wpQuiet_nil ?_
              rintro _ ⟨y, rfl⟩
              go_wp2_with (go_at_call 32; refine (without_any _ (T.map It.kn) (by rw [List.length_map]; omega) a (by omega) y.w ((HRd.out.keep y.h).more y.h.size)).mono ?_; rintro e W6 ⟨v6, rfl, hown6, hB6⟩)
              go_meet
              rw [map_erase] at hown6
              refine ⟨nx, T.eraseIdx a, ov, by omega, ⟨HB3.out, fun z hz => HP2.out.ords z ((List.eraseIdx_sublist T a).mem hz), by omega, own_low (by rw [List.length_map] at hown6; exact hown6) (by have := HBV.out.size; have := y.h.size; omega), (HSV.out.later y.h).later hB6, (HBV.out.trans (y.h.mono HBV.out.size)).trans (hB6.mono (by have := HBV.out.size; have := y.h.size; omega))⟩⟩
          · have q2 : (kind == 2) = false := by simpa using k2
            by_cases k3 : kind = 3
            · subst k3
              by_cases hT0 : T.length = 0
              · obtain rfl : T = [] := List.length_eq_zero_iff.1 hT0
                have e7 : ixv (best (List.map It.kn []) ([] : List It).length) = -1 := rfl
                rw [e7]
                clear e7
                go_upto_region 18 with (go_at_call 25; refine (peek_s_none W.heap.size _ id W.heap.size _ ov W2 HP2.out.hp).mono ?_; rintro e W3 ⟨rfl, hW3⟩)
                have hP3 := (HP2.out.later hW3).later ((Below.refl _ _).alloc (Nat.le_refl _) (Obj.cells #[.int .i64 0, .int .i64 0] 26))
                have hO3 : Oat (W3.alloc (Obj.cells #[.int .i64 0, .int .i64 0] 26)) wo.heap.size 3 key name := alloc_block _ (ext_block ⟨W3, hW3⟩ HO2.out)
                have hk8 := alloc_new W3 (Obj.cells #[.int .i64 0, .int .i64 0] 26)
                have z3 := hW3.size
                have HP3 := Lib.hid hP3
                have HO3 := Lib.hid hO3
                have HK8 := Lib.hid hk8
                have HPW := Lib.hid (HP2.out.later hW3)
                clear hP3 hO3 hk8 hW3 o0 o1 o2 o3
                obtain ⟨o0, o1, o2, o3⟩ := HO3.out.cells
                have v1 : (W3.alloc (Obj.cells #[.int .i64 0, .int .i64 0] 26)).cell? ⟨W3.heap.size, 0, none⟩ = some (.int .i64 0) := (blk_cell HK8.out _).trans rfl
                have v2 : (W3.alloc (Obj.cells #[.int .i64 0, .int .i64 0] 26)).cell? ⟨W3.heap.size, 1, none⟩ = some (.int .i64 0) := (blk_cell HK8.out _).trans rfl
                have v3 := lt_of_block HK8.out
                go_upto_region 20 with fail
                obtain ⟨V, hV⟩ : ∃ V, W3.alloc (Obj.cells #[.int .i64 0, .int .i64 0] 26) = V := ⟨_, rfl⟩
                rw [hV] at HP3 HO3 v1 v2 v3 o0 o1 o2 o3 ⊢
                have HPV := HP3
                clear hV HK8
                refine wp_region_ext (by kernel_rfl) (by kernel_rfl) ?_
                repeat (go_big_quiet_step (fail))
                refine wpQuiet_nil ?_
                rintro _ ⟨y, rfl⟩
                go_wp2_with fail
                go_meet
                exact ⟨nx, [], ov, by omega, HPV.out.later y.h⟩
              · obtain ⟨a, ha, hb1, hb2, hb3⟩ := srt_step HP2.out.rise (by omega)
                rw [List.length_map] at hb1
                have e7 : ixv (best (List.map It.kn T) T.length) = (a : Int) := by rw [hb1]; rfl
                rw [e7]
                obtain ⟨x, hx⟩ : ∃ x, T[a] = x := ⟨_, rfl⟩
                rw [hx] at hb2
                have hxm : (T.map It.kn)[a]? = some (x.key, x.name) := by rw [List.getElem?_map, List.getElem?_eq_getElem ha, hx]; rfl
                have hpx := HP2.out.hp
                rw [hb2] at hpx
                have HPX := Lib.hid hpx
                have HB2 := Lib.hid hb2
                have HB3 := Lib.hid hb3
                have HXM := Lib.hid hxm
                have hEl : (T.eraseIdx a).length + 1 = T.length := by rw [List.length_eraseIdx_of_lt ha]; omega
                clear e7 hb1 hb2 hb3 hx hxm hpx
                go_upto_region 18 with (go_at_call 25; refine (peek_s W.heap.size _ id _ x (by rw [srt_length]; omega) W.heap.size _ ov W2 HPX.out).mono ?_; rintro e W3 ⟨rfl, hW3⟩)
                have hP3 := (HP2.out.later hW3).later ((Below.refl _ _).alloc (Nat.le_refl _) (Obj.cells #[.int .i64 x.key, .int .i64 x.name] 26))
                have hO3 : Oat (W3.alloc (Obj.cells #[.int .i64 x.key, .int .i64 x.name] 26)) wo.heap.size 3 key name := alloc_block _ (ext_block ⟨W3, hW3⟩ HO2.out)
                have hk8 := alloc_new W3 (Obj.cells #[.int .i64 x.key, .int .i64 x.name] 26)
                have hX3 := (HPX.out.later hW3).alloc (Obj.cells #[.int .i64 x.key, .int .i64 x.name] 26)
                have z3 := hW3.size
                have HP3 := Lib.hid hP3
                have HO3 := Lib.hid hO3
                have HK8 := Lib.hid hk8
                have HX3 := Lib.hid hX3
                have HPW := Lib.hid (HP2.out.later hW3)
                clear hP3 hO3 hk8 hX3 hW3 o0 o1 o2 o3
                obtain ⟨o0, o1, o2, o3⟩ := HO3.out.cells
                have v1 : (W3.alloc (Obj.cells #[.int .i64 x.key, .int .i64 x.name] 26)).cell? ⟨W3.heap.size, 0, none⟩ = some (.int .i64 x.key) := (blk_cell HK8.out _).trans rfl
                have v2 : (W3.alloc (Obj.cells #[.int .i64 x.key, .int .i64 x.name] 26)).cell? ⟨W3.heap.size, 1, none⟩ = some (.int .i64 x.name) := (blk_cell HK8.out _).trans rfl
                have v3 := lt_of_block HK8.out
                have hrV := HP3.out.row
                go_upto_region 20 with fail
                obtain ⟨V, hV⟩ : ∃ V, W3.alloc (Obj.cells #[.int .i64 x.key, .int .i64 x.name] 26) = V := ⟨_, rfl⟩
                rw [hV] at HP3 HO3 v1 v2 v3 o0 o1 o2 o3 hrV ⊢
                have HPV := HP3
                clear hV HK8
                have hrV' : V.ownsRow W.heap.size 26 2 (.slice ma T.length mc) (T.map It.kn).length (flat2 (T.map It.kn)) := by rw [List.length_map]; exact hrV
                obtain ⟨gm, cm, em, hm1, hm2, m1, m2, _⟩ := own2_at hrV' a _ HXM.out
                simp only [Value.slice.injEq, List.length_map, true_and] at em
                obtain ⟨rfl, rfl⟩ := em
                simp only at m1 m2
                have gd : decide (0 ≤ (a : Int)) = true := by simp
                have hal : a < T.length := ha
                clear hrV hrV'
                refine wp_region_ext (by kernel_rfl) (by kernel_rfl) ?_
                repeat (go_big_quiet_step (fail))
                refine wpQuiet_nil ?_
                rintro _ ⟨y, rfl⟩
                go_wp2_with fail
                go_meet
                exact ⟨nx, T, ov, by omega, HPV.out.later y.h⟩
            · have q3 : (kind == 3) = false := by simpa using k3
              by_cases k4 : kind = 4
              · subst k4
                have zb := HP2.out.hp.blk
                go_upto_region 27 with (go_at_call 28; refine (remove_s W.heap.size _ id byKey_lessOf _ _ (gone3 name) (srt id T) (by rw [srt_length]; omega) W.heap.size _ ov W2 (by omega) (gone3_match name wo.heap.size W2 o2 o3) HP2.out.hp).mono ?_; rintro e W3 ⟨rfl, ov3, hS3, hT3, hn3⟩; rw [srt_filter _ HP2.out.rise] at hS3 ⊢; rw [srt_length, srt_length])
                obtain ⟨F, hF⟩ : ∃ F, T.filter (stay (gone3 name)) = F := ⟨_, rfl⟩
                have hFl : F.length ≤ T.length := by rw [← hF]; exact List.length_filter_le _ _
                have hFr : Rise F := by rw [← hF]; exact List.Pairwise.filter _ HP2.out.rise
                have hFo : ∀ x ∈ F, x.ord < (nx : Int) := fun x hx => HP2.out.ords x (by rw [← hF] at hx; exact (List.mem_filter.1 hx).1)
                rw [hF] at hS3 ⊢
                have hk3 := HP2.out.hp.keeps (hT3.widen ov)
                have hO3 : Oat W3 wo.heap.size 4 key name := hk3.block HO2.out (by decide) (by decide)
                have hr3 := hk3.own HP2.out.row (by decide) (by decide)
                have hB3 : Below W.heap.size W W3 := HP2.out.below.trans (hT3.below (Nat.le_refl _) HP2.out.below.size (fun k hk => by cases hk))
                have HF := Lib.hid hF
                have HFr := Lib.hid hFr
                have HFo := Lib.hid hFo
                have HS3 := Lib.hid hS3
                have HO3 := Lib.hid hO3
                have HR3 := Lib.hid hr3
                have HB3 := Lib.hid hB3
                have z3 := hB3.size
                have hen : ∀ (args : Array Value) (w : World), (callFunc 33 args).run Try.prog w = .ok (.enter 33 args) w := fun _ _ => by kernel_rfl
                clear hF hFr hFo hS3 hO3 hr3 hB3 hk3 hT3 hn3 o0 o1 o2 o3
                obtain ⟨O, hO⟩ : ∃ O, T.map It.kn = O := ⟨_, rfl⟩
                have hOl : O.length = T.length := by rw [← hO, List.length_map]
                have HOd := Lib.hid hO
                have HOl := Lib.hid hOl
                rw [hO, ← hOl] at HR3
                clear hO hOl
                go_wp2_with fail
                go_loopw [12, 14, 99] (fun r a i wr => ∃ j : Nat, j ≤ T.length ∧ i = .int .i64 (j : Int) ∧ wr.ownsRow W3.heap.size 26 2 r ((O.take j).filter (keep3 name)).length (flat2 ((O.take j).filter (keep3 name))) ∧ Below W3.heap.size W3 wr) (fun _ _ i _ => T.length - (intOf i).toNat)
                case atStart => exact ⟨0, Nat.zero_le _, rfl, ⟨rfl, .inl ⟨rfl, rfl⟩⟩, Below.refl _ _⟩
                case round =>
                  obtain ⟨j, hj, rfl, hown, hB⟩ := hrel
                  have HO := Lib.hid hown
                  have HB := Lib.hid hB
                  have zr' := hB.size
                  have hKl : ((O.take j).filter (keep3 name)).length ≤ j := Nat.le_trans (List.length_filter_le _ _) (by simp; omega)
                  clear hown hB
                  by_cases hlt : j < T.length
                  · obtain ⟨⟨x1, x2⟩, hx⟩ : ∃ x, O[j]? = some x := ⟨_, List.getElem?_eq_getElem (by rw [HOl.out]; exact hlt)⟩
                    obtain ⟨g, cp, e', hg1, hg2, d1, d2, _⟩ := own2_at HR3.out j _ hx
                    simp only [Value.slice.injEq] at e'
                    obtain ⟨rfl, e'', rfl⟩ := e'
                    simp only at d1 d2
                    rw [← HB.out.cell (p := ⟨g, j * 2, none⟩) hg2] at d1
                    rw [← HB.out.cell (p := ⟨g, j * 2 + 1, none⟩) hg2] at d2
                    have hgr : g < wr.heap.size := by omega
                    have FT := Lib.hid (filter_next (keep3 name) O j _ hx)
                    have hOr : Oat (wr.alloc (Obj.cells #[.int .i64 x1, .int .i64 x2] 26)) wo.heap.size 4 key name := alloc_block _ ((HB.out.block _ HO3.out.cells.2.2.2).trans HO3.out)
                    have HOr := Lib.hid hOr
                    clear e'' hx hOr
                    cases ms : gone3 name x1 x2
                    · have MS := Lib.hid ms
                      have KP := Lib.hid (show keep3 name (x1, x2) = true by simp [keep3, ms])
                      clear ms
                      go_wp2_with fail
                      refine (lit_of (gone3_any name x1 x2 wo.heap.size _ HOr.out.cells.2.2.1 HOr.out.cells.2.2.2) MS.out).mono ?_
                      rintro e W4 ⟨rfl, hW4⟩
                      dsimp only
                      have k8 := ext_block ⟨W4, hW4⟩ (alloc_new wr (Obj.cells #[.int .i64 x1, .int .i64 x2] 26))
                      simp only at k8
                      have y1 : W4.cell? ⟨wr.heap.size, 0, none⟩ = some (.int .i64 x1) := (blk_cell k8 _).trans rfl
                      have y2 : W4.cell? ⟨wr.heap.size, 1, none⟩ = some (.int .i64 x2) := (blk_cell k8 _).trans rfl
                      have y5 := lt_of_block k8
                      have ho4 := own_ext ⟨W4, hW4⟩ (HO.out.alloc (Obj.cells #[.int .i64 x1, .int .i64 x2] 26))
                      simp only at ho4
                      have hB4 : Below W3.heap.size W3 W4 := (HB.out.alloc zr' _).trans (hW4.mono (by simp; omega))
                      have HB4 := Lib.hid hB4
                      have z4 := hB4.size
                      clear k8 hW4 hB4
                      go_wp2_with (at_builtin; refine wpList_append_own _ rfl (.tmp 107) (.tmp 109) 24 rfl W3.heap.size 26 i0 _ 2 16 Try.underlying24 hi hz0 hz1 hz2 rfl (by decide) _ _ _ rfl (ho4.alloc _) ⟨W4.heap.size, 0, none⟩ 1 1 (flat2 [(x1, x2)]) rfl rfl (cells_new2 _ _ _ _) (one_cells2 _ _) (by unfold maxLen; omega) (by omega) (by simp; omega) ?_; intro v' W5 hown5 hgrow _)
                      go_roundw
                      case rel =>
                        refine ⟨j + 1, by omega, by go_num, ?_, (HB4.out.alloc z4 _).grown hgrow (by simp; omega) (fun q hq => (ho4.lt q hq).1)⟩
                        rw [FT.out, KP.out, if_pos rfl, List.length_append, flat2_append]
                        exact hown5
                      case measure => simp [intOf]; omega
                    · have MS := Lib.hid ms
                      have KP := Lib.hid (show keep3 name (x1, x2) = false by simp [keep3, ms])
                      clear ms
                      go_wp2_with fail
                      refine (lit_of (gone3_any name x1 x2 wo.heap.size _ HOr.out.cells.2.2.1 HOr.out.cells.2.2.2) MS.out).mono ?_
                      rintro e W4 ⟨rfl, hW4⟩
                      dsimp only
                      have ho4 := own_ext ⟨W4, hW4⟩ (HO.out.alloc (Obj.cells #[.int .i64 x1, .int .i64 x2] 26))
                      simp only at ho4
                      have HO4 := Lib.hid ho4
                      have HB4 := Lib.hid (show Below W3.heap.size W3 W4 from (HB.out.alloc zr' _).trans (hW4.mono (by simp; omega)))
                      clear hW4 ho4
                      go_wp2_with fail
                      go_roundw
                      case rel =>
                        refine ⟨j + 1, by omega, by go_num, ?_, HB4.out⟩
                        rw [FT.out, KP.out, if_neg (by simp), List.append_nil]
                        exact HO4.out
                      case measure => simp [intOf]; omega
                  · obtain rfl : j = T.length := by omega
                    have hfin : (O.take T.length).filter (keep3 name) = F.map It.kn := by
                      rw [List.take_of_length_le (by rw [HOl.out]; omega), ← HOd.out, ← keep3_map, HF.out]
                    rw [hfin, List.length_map] at HO
                    obtain ⟨ra, rc, rfl⟩ := own_len HO.out
                    clear hfin hKl
                    go_wp2_with fail
                    go_meet
                    exact ⟨nx, F, ov3, by omega, ⟨HFr.out, HFo.out, by omega, own_low HO.out z3, HS3.out.later HB.out, HB3.out.trans (HB.out.mono z3)⟩⟩
              · have q4 : (kind == 4) = false := by simpa using k4
                go_wp2_with fail
                go_meet
                exact ⟨nx, T, ov, by omega, HP2.out⟩
      case rest =>
        obtain ⟨nx', T', ov', hnx', P⟩ := hcut
        have HPc := Lib.hid P
        have hTl' := P.len
        obtain ⟨ma', mc', hmv⟩ := own_len P.row
        subst hmv
        clear P o0 o1 o2 o3 HP2 HO2
        go_wp2_with (first | (go_at_call 27; refine (len_s W.heap.size _ id _ (by rw [srt_length]; omega) W.heap.size _ ov' _ HPc.out.hp).mono ?_; rintro e _ ⟨rfl, rfl⟩; rw [srt_length]) | (go_at_call 26; refine (sorted_s W.heap.size _ id byKey_lessOf _ (by rw [srt_length]; omega) W.heap.size _ ov' wc HPc.out.hp).mono ?_; rintro e W3 ⟨p3, rfl, hown3, hB3⟩) | (go_at_call 34; refine (rsorted_any _ T' HPc.out.rise (by omega) W3 (HPc.out.later hB3).reads).mono ?_; rintro e W4 ⟨p4, rfl, hown4, hB4⟩))
        refine (same_yes _ _ ((srt id T').map It.kn) (by rw [List.length_map, srt_length]; omega) W4 _ (Nat.le_refl _) (Reads2.of_own (by rw [List.length_map]; exact own_ext ⟨W4, hB4⟩ hown3)) (Reads2.of_own hown4)).mono ?_
        rintro e W5 ⟨rfl, hB5⟩
        dsimp only
        have HP5 := Lib.hid (((HPc.out.later hB3).later hB4).later hB5)
        clear hB3 hB4 hB5 hown3 hown4
        go_wp2_with fail
        go_roundg (gk - 1)
        case measure => omega
        case rel => exact ⟨k + 1, nx', T', ov', by omega, by go_num, hnx', HP5.out⟩

set_option maxHeartbeats 400000 in
theorem plays_out (v : Value) (l : List (Int × Int × Int)) (hlen : 100 < l.length) (w : World) (H : ReadsAs w w.heap.size v l.length 3 (fun i cs => cs = [.int .i64 (l.getD i (0, 0, 0)).1, .int .i64 (l.getD i (0, 0, 0)).2.1, .int .i64 (l.getD i (0, 0, 0)).2.2])) :
    Calls Try.prog 9 #[v] w fun e w' => e = .returned (.bool true) ∧ Below w.heap.size w w' := by
  obtain ⟨A, cap, rfl, hc1, hc2, hA⟩ := H
  unfold maxLen at hc2
  clear hA
  go_enter Try.func9, Try.ntmps9
  go_wp2_with (go_at_call 11; refine (awake_any _).mono ?_; rintro e W ⟨rfl, hW⟩)
  go_ret
  exact ⟨rfl, hW⟩
theorem plays_any (v : Value) (l : List (Int × Int × Int)) (w : World) (H : ReadsAs w w.heap.size v l.length 3 (fun i cs => cs = [.int .i64 (l.getD i (0, 0, 0)).1, .int .i64 (l.getD i (0, 0, 0)).2.1, .int .i64 (l.getD i (0, 0, 0)).2.2])) :
    Calls Try.prog 9 #[v] w fun e w' => e = .returned (.bool true) ∧ Below w.heap.size w w' := by
  by_cases h : l.length ≤ 100
  · exact plays_in v l h w H
  · exact plays_out v l (by omega) w H

set_option maxRecDepth 100000 in
theorem heapPlays_lifted (os : Os) (started : os.Started) (H : Type) (enc : TypeId × Value → H) :
    ReturnsInHanded {} Try.checked os 9 .any (Rows.heapPlaysSpec.pre6 enc Try.prog Try.f9 Rows.heapPlaysRow.domain false) (Rows.heapPlaysSpec.post enc Try.prog Try.f9 false true false false) := by
  refine returnsInHanded_of_change (C := Try.checked) own started (by kernel_rfl) Try.func9
    (ChangeSpec.witness6 (enc := enc) (C := Try.checked) false ⟨#[], #[.slice none 0 0], []⟩ 8 (by kernel_rfl) (by kernel_rfl) (by kernel_rfl) (by kernel_rfl)) ?_
  intro W base args ds gs before hval0 hW hcnd _
  have hval : ∀ (j : Nat) t v, Try.f9.params[j]? = some t → args[j]? = some v → Value.okWide Try.prog W .any base t v := hval0
  have hW' := hW
  obtain ⟨p, q, hA0, hV, rfl, hfz, hnd⟩ := hW
  have hA : DataW.TrodAll enc Try.prog W 0 (fun _ => true) true Try.f9.params.toList args.toList ds p := hA0
  rw [Try.params9] at hA hval
  obtain ⟨v0, vs0, d0, ds0, p0, q0, hargs, rfl, rfl, h0, r0⟩ := trodAll_cons hA
  obtain ⟨rfl, rfl, rfl⟩ := trodAll_nil r0
  obtain rfl : args = #[v0] := by cases args; simp_all
  obtain ⟨rfl, rfl⟩ := trodVars_none hV
  have k0 := h0
  have lt0 : ∀ x ∈ p0, x.block < W.heap.size := by obtain ⟨m, hm⟩ := k0; exact DataW.trod_lt m _ _ _ hm
  have ok0 := hval 0 56 v0 rfl rfl
  obtain ⟨l0, R0, wf0⟩ := open_ops ok0 h0
  clear hA0 hval0
  refine (plays_any v0 l0 W R0).mono fun e W' ⟨he, bel⟩ => ?_
  subst he
  exact ⟨_, rfl, _, _, _, [], _, [], hW', trodAll_mk1 (shut_bool Try.underlying4 _), (trodAll_cons_mk (Below.trod laidOut (by kernel_rfl) (of_decide_eq_true (by kernel_rfl)) k0 bel lt0) trodAll_mk0), rfl, bel.frame _, fun h => by cases h⟩

/-- The statement. -/
theorem heapPlays_holds : Rows.HeapPlaysSaid :=
  OpenClaim.holds_of_wide 9 Try.f9 rfl rfl rfl rfl rfl rfl rfl ⟨rfl, rfl, rfl, rfl, rfl⟩ rfl rfl rfl rfl rfl (by kernel_rfl) Try.func9 (by kernel_rfl)
    (of_decide_eq_true (by kernel_rfl)) (by unfold Func.isWrapper; first | (rw [if_pos (by decide +kernel)]; kernel_rfl) | (rw [if_neg (by decide +kernel)]; exact ⟨rfl, rfl⟩))
    (fun os started H enc _ => heapPlays_lifted os started H enc)


end Go.Proofs.Ytekdjjfbkcgmhaa
