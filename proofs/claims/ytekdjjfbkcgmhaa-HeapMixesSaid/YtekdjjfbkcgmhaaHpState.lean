/-
  What is proved here: what New, Push, Pop, Len and Peek do to a heap, the heap being told as the list in the order of popping.
-/
import Derived.Test.YtekdjjfbkcgmhaaHpSort
namespace Go.Proofs.Ytekdjjfbkcgmhaa
open Go.RowKit Hp
set_option linter.unusedVariables false
set_option linter.unusedSimpArgs false

/-- Every block of cells of another type than a heap's own two is as it was. -/
def Keeps (w w' : World) : Prop := ∀ (k : Nat) (cur : Array Value) (t : TypeId) (f : Nat × Nat), w.heap[k]? = some (Obj.cells cur t f) → t ≠ 67 → t ≠ 65 → w'.heap[k]? = w.heap[k]?
theorem Keeps.refl (w : World) : Keeps w w := fun _ _ _ _ _ _ _ => rfl
theorem Keeps.trans {a b c : World} (h : Keeps a b) (k : Keeps b c) : Keeps a c := fun i cur t f hi h1 h2 => by
  have e := h i cur t f hi h1 h2
  rw [k i cur t f (e.trans hi) h1 h2, e]
theorem Keeps.of_below {w w' : World} (h : Below w.heap.size w w') : Keeps w w' := fun k _ _ _ hk _ _ => h.block k (lt_of_block hk)
theorem Keeps.own {w w' : World} (h : Keeps w w') {B n size : Nat} {e : TypeId} {v : Value} {xs : List Value} (ho : w.ownsRow B e size v n xs) (h1 : e ≠ 67) (h2 : e ≠ 65) : w'.ownsRow B e size v n xs := by
  refine ⟨ho.1, ?_⟩
  rcases ho.2 with h0 | ⟨g, cap, cur, rfl, hb, hk, hr⟩
  · exact .inl h0
  · exact .inr ⟨g, cap, cur, rfl, hb, (h g cur e _ hk h1 h2).trans hk, hr⟩
theorem Keeps.block {w w' : World} (h : Keeps w w') {k : Nat} {cur : Array Value} {t : TypeId} {fz : Nat × Nat} (hk : w.heap[k]? = some (.cells cur t fz)) (h1 : t ≠ 67) (h2 : t ≠ 65) : w'.heap[k]? = some (.cells cur t fz) := (h k cur t fz hk h1 h2).trans hk

/-- A heap, told as the list in the order of popping. 'ov': the block of its row. -/
structure HpS (w : World) (B hb : Nat) (fid : FuncId) (f : Int → Int) (S : List It) (nx : Int) (ov : Option Nat) : Prop where
  ex : ∃ v L, HpAt w B hb fid v L nx ∧ v.ownBlock = ov ∧ Same f L S
theorem HpS.blk {w : World} {B hb : Nat} {fid : FuncId} {f : Int → Int} {S : List It} {nx : Int} {ov : Option Nat} (h : HpS w B hb fid f S nx ov) : hb < w.heap.size := by
  obtain ⟨v, L, H, _⟩ := h.ex
  exact lt_of_block H.blk
theorem HpS.ov_ge {w : World} {B hb : Nat} {fid : FuncId} {f : Int → Int} {S : List It} {nx : Int} {ov : Option Nat} (h : HpS w B hb fid f S nx ov) : ∀ k, ov = some k → B ≤ k := by
  obtain ⟨v, L, H, rfl, _⟩ := h.ex
  exact fun k hk => (H.row.lt k hk).1
theorem HpS.ov_lt {w : World} {B hb : Nat} {fid : FuncId} {f : Int → Int} {S : List It} {nx : Int} {ov : Option Nat} (h : HpS w B hb fid f S nx ov) : ∀ k, ov = some k → k < w.heap.size := by
  obtain ⟨v, L, H, rfl, _⟩ := h.ex
  exact fun k hk => (H.row.lt k hk).2
theorem HpS.ne {w : World} {B hb : Nat} {fid : FuncId} {f : Int → Int} {S : List It} {nx : Int} {ov : Option Nat} (h : HpS w B hb fid f S nx ov) : ov ≠ some hb := by
  obtain ⟨v, L, H, rfl, _⟩ := h.ex
  exact H.ne
theorem HpS.keeps {w w' : World} {B hb : Nat} {fid : FuncId} {f : Int → Int} {S : List It} {nx : Int} {ov : Option Nat} (h : HpS w B hb fid f S nx ov) (t : Touch hb ov w w') : Keeps w w' := by
  obtain ⟨v, L, H, rfl, _⟩ := h.ex
  intro k cur ty fz hk h1 h2
  refine t.block k (lt_of_block hk) (fun e => ?_) (fun e => ?_)
  · subst e
    have := hk.symm.trans H.blk
    simp only [Option.some.injEq, Obj.cells.injEq] at this
    exact h2 this.2.1
  · rcases H.row.2 with ⟨rfl, _⟩ | ⟨g, cap, cur', rfl, _, hg, _⟩
    · simp [Value.ownBlock] at e
    · simp only [Value.ownBlock, Option.some.injEq] at e
      subst e
      have := hk.symm.trans hg
      simp only [Option.some.injEq, Obj.cells.injEq] at this
      exact h1 this.2.1
/-- Another heap's change leaves this one alone. -/
theorem HpS.other {w w' : World} {B hb hb' : Nat} {fid : FuncId} {f : Int → Int} {S : List It} {nx : Int} {ov ov' : Option Nat} (h : HpS w B hb fid f S nx ov) (t : Touch hb' ov' w w') (h1 : hb ≠ hb') (h2 : some hb ≠ ov') (h3 : ov ≠ some hb') (h4 : ov = none ∨ ov ≠ ov') : HpS w' B hb fid f S nx ov := by
  obtain ⟨v, L, H, rfl, hs⟩ := h.ex
  exact ⟨⟨v, L, ⟨by rw [t.block hb (lt_of_block H.blk) h1 h2]; exact H.blk, own_touch H.row t h3 h4⟩, rfl, hs⟩⟩
theorem HpS.later {w w' : World} {B hb : Nat} {fid : FuncId} {f : Int → Int} {S : List It} {nx : Int} {ov : Option Nat} (h : HpS w B hb fid f S nx ov) (b : Below w.heap.size w w') : HpS w' B hb fid f S nx ov := by
  obtain ⟨v, L, H, rfl, hs⟩ := h.ex
  exact ⟨⟨v, L, H.ext ⟨w', b⟩, rfl, hs⟩⟩
theorem HpS.drew {w : World} {B hb : Nat} {fid : FuncId} {f : Int → Int} {S : List It} {nx : Int} {ov : Option Nat} (h : HpS w B hb fid f S nx ov) : HpS w.drew B hb fid f S nx ov := h.later (Below.drew (Below.refl _ _))
theorem HpS.alloc {w : World} {B hb : Nat} {fid : FuncId} {f : Int → Int} {S : List It} {nx : Int} {ov : Option Nat} (h : HpS w B hb fid f S nx ov) (o : Obj) : HpS (w.alloc o) B hb fid f S nx ov := h.later (Below.alloc (Below.refl _ _) (Nat.le_refl _) o)
/-- A row of another type grows. -/
theorem HpS.grown {w w' : World} {B hb : Nat} {fid : FuncId} {f : Int → Int} {S : List It} {nx : Int} {ov row : Option Nat} (h : HpS w B hb fid f S nx ov) (g : w.grownBy w' row) (h1 : row ≠ some hb) (h2 : row = none ∨ row ≠ ov) : HpS w' B hb fid f S nx ov := by
  obtain ⟨v, L, H, rfl, hs⟩ := h.ex
  refine ⟨⟨v, L, ⟨by rw [g.block hb (lt_of_block H.blk) (fun e => h1 e.symm)]; exact H.blk, ⟨H.row.1, ?_⟩⟩, rfl, hs⟩⟩
  rcases H.row.2 with h0 | ⟨q, cap, cur, rfl, hb', hk, hr⟩
  · exact .inl h0
  · refine .inr ⟨q, cap, cur, rfl, hb', ?_, hr⟩
    rw [g.block q (lt_of_block hk) (fun e => ?_)]
    · exact hk
    · rcases h2 with h2 | h2
      · rw [h2] at e; cases e
      · exact h2 e.symm
/-- A row of another type than a heap's lies elsewhere. -/
theorem HpS.apart {w : World} {B B' hb n size : Nat} {fid : FuncId} {f : Int → Int} {S : List It} {nx : Int} {ov : Option Nat} {e : TypeId} {v : Value} {xs : List Value} (h : HpS w B hb fid f S nx ov) (ho : w.ownsRow B' e size v n xs) (h1 : e ≠ 67) (h2 : e ≠ 65) : v.ownBlock ≠ some hb ∧ (v.ownBlock = none ∨ v.ownBlock ≠ ov) := by
  obtain ⟨u, L, H, rfl, hs⟩ := h.ex
  rcases ho.2 with ⟨rfl, _⟩ | ⟨g, cap, cur, rfl, _, hk, _⟩
  · simp [Value.ownBlock]
  · refine ⟨fun e => ?_, .inr fun e => ?_⟩
    · simp only [Value.ownBlock, Option.some.injEq] at e
      subst e
      have := hk.symm.trans H.blk
      simp only [Option.some.injEq, Obj.cells.injEq] at this
      exact h2 this.2.1
    · rcases H.row.2 with ⟨rfl, _⟩ | ⟨q, cap, cur', rfl, _, hq, _⟩
      · simp [Value.ownBlock] at e
      · simp only [Value.ownBlock, Option.some.injEq] at e
        subst e
        have := hk.symm.trans hq
        simp only [Option.some.injEq, Obj.cells.injEq] at this
        exact h1 this.2.1

/-- What Push leaves. -/
def PushedS (f : Int → Int) (S : List It) (x : It) (B hb : Nat) (fid : FuncId) (ov : Option Nat) (w : World) (e : Ending) (w' : World) : Prop :=
  e = .returned (.tuple #[]) ∧ ∃ ov', HpS w' B hb fid f (ins f x S) (x.ord + 1) ov' ∧ Touch hb ov w w' ∧ Same_or_new w ov ov'
theorem push_s (hb : Nat) (fid : FuncId) (f : Int → Int) (HL : Less fid (lsOf f)) (S : List It) (hlen : S.length ≤ 1000000) (B : Nat) (x : It) (hnx : 0 ≤ x.ord) (hny : x.ord ≤ 1000000) (ov : Option Nat) (w : World) (hB : B ≤ w.heap.size) (hords : ∀ y ∈ S, y.ord < x.ord) (H : HpS w B hb fid f S x.ord ov) :
    Calls Try.prog 16 #[.pointer (some ⟨hb, 0, none⟩), .agg #[.int .i64 x.key, .int .i64 x.name]] w (PushedS f S x B hb fid ov w) := by
  obtain ⟨v, L, hp, rfl, hs⟩ := H.ex
  refine (push_any hb fid (lsOf f) HL L (by rw [hs.length]; exact hlen) B v x hnx hny w hB hp).mono ?_
  rintro e w' ⟨rfl, k, v', hk, hp', ht, hn⟩
  exact ⟨rfl, v'.ownBlock, ⟨⟨v', _, hp', rfl, hs.push hords hk⟩⟩, ht, hn⟩
/-- What Pop leaves. -/
def PoppedS (f : Int → Int) (S : List It) (s : It) (nx : Int) (B hb : Nat) (fid : FuncId) (ov : Option Nat) (w : World) (e : Ending) (w' : World) : Prop :=
  e = .returned (.tuple #[.agg #[.int .i64 s.key, .int .i64 s.name], .bool true]) ∧ HpS w' B hb fid f S nx ov ∧ Touch hb ov w w'
theorem pop_s (hb : Nat) (fid : FuncId) (f : Int → Int) (HL : Less fid (lsOf f)) (S : List It) (s : It) (hlen : S.length ≤ 1000000) (B : Nat) (nx : Int) (ov : Option Nat) (w : World) (H : HpS w B hb fid f (s :: S) nx ov) :
    Calls Try.prog 24 #[.pointer (some ⟨hb, 0, none⟩)] w (PoppedS f S s nx B hb fid ov w) := by
  obtain ⟨v, L, hp, rfl, hs⟩ := H.ex
  have hl := hs.length
  simp only [List.length_cons] at hl
  refine (pop_any hb fid (lsOf f) HL L S.length hl hlen B v nx w hp).mono ?_
  rintro e w' ⟨rfl, k, v', hk, hp', ht, hn⟩
  refine ⟨by rw [hs.first], ⟨⟨v', _, hp', hn, hs.pop hk⟩⟩, ht⟩
theorem pop_s_none (hb : Nat) (fid : FuncId) (f : Int → Int) (B : Nat) (nx : Int) (ov : Option Nat) (w : World) (H : HpS w B hb fid f [] nx ov) :
    Calls Try.prog 24 #[.pointer (some ⟨hb, 0, none⟩)] w fun e w' => e = .returned (.tuple #[.agg #[.int .i64 0, .int .i64 0], .bool false]) ∧ Below w.heap.size w w' := by
  obtain ⟨v, L, hp, rfl, hs⟩ := H.ex
  obtain rfl : L = [] := List.length_eq_zero_iff.1 hs.length
  exact pop_none hb fid B v nx w hp

set_option maxHeartbeats 400000 in
theorem new_any (fid : FuncId) (w : World) :
    Calls Try.prog 14 #[.func (.func fid) #[] #[]] w fun e w' => e = .returned (.pointer (some ⟨w.heap.size, 0, none⟩)) ∧ w' = w.alloc (.cells #[.func (.func fid) #[] #[], .slice none 0 0, .int .i64 0] 65) := by
  have hn := eql_fn fid
  go_enter Try.func14, Try.ntmps14
  go_wp2
  go_ret
  exact ⟨rfl, rfl⟩
theorem HpS.new (B : Nat) (fid : FuncId) (f : Int → Int) (w : World) : HpS (w.alloc (.cells #[.func (.func fid) #[] #[], .slice none 0 0, .int .i64 0] 65)) B w.heap.size fid f [] 0 none :=
  ⟨⟨.slice none 0 0, [], ⟨alloc_new _ _, ⟨rfl, .inl ⟨rfl, rfl⟩⟩⟩, rfl, Same.nil f⟩⟩
theorem new_s (B : Nat) (fid : FuncId) (f : Int → Int) (w : World) :
    Calls Try.prog 14 #[.func (.func fid) #[] #[]] w fun e w' => e = .returned (.pointer (some ⟨w.heap.size, 0, none⟩)) ∧ HpS w' B w.heap.size fid f [] 0 none ∧ Below w.heap.size w w' :=
  (new_any fid w).mono fun _ _ ⟨he, hw⟩ => ⟨he, hw ▸ HpS.new B fid f w, hw ▸ Below.alloc (Below.refl _ _) (Nat.le_refl _) _⟩

theorem HpS.len {w : World} {B hb : Nat} {fid : FuncId} {f : Int → Int} {S : List It} {nx : Int} {ov : Option Nat} (h : HpS w B hb fid f S nx ov) :
    ∃ av cap, w.cell? ⟨hb, 1, none⟩ = some (.slice av S.length cap) ∧ w.cell? ⟨hb, 0, none⟩ = some (.func (.func fid) #[] #[]) ∧ hb < w.heap.size := by
  obtain ⟨v, L, H, rfl, hs⟩ := h.ex
  obtain ⟨h1, h2, h3, h4, h5, h6⟩ := H.cells
  obtain ⟨av, cap, rfl⟩ := own_len H.row
  exact ⟨av, cap, by rw [← hs.length]; exact h2, h1, h6⟩
set_option maxHeartbeats 400000 in
theorem len_s (hb : Nat) (fid : FuncId) (f : Int → Int) (S : List It) (hlen : S.length ≤ 1000001) (B : Nat) (nx : Int) (ov : Option Nat) (w : World) (H : HpS w B hb fid f S nx ov) :
    Calls Try.prog 27 #[.pointer (some ⟨hb, 0, none⟩)] w fun e w' => e = .returned (.int .i64 S.length) ∧ w = w' := by
  obtain ⟨av, cap, h1, h0, h2⟩ := H.len
  go_enter Try.func27, Try.ntmps27
  go_wp2
  all_goals
    go_ret
    exact ⟨rfl, rfl⟩
theorem HpS.top {w : World} {B hb : Nat} {fid : FuncId} {f : Int → Int} {S : List It} {s : It} {nx : Int} {ov : Option Nat} (h : HpS w B hb fid f (s :: S) nx ov) :
    ∃ g cap, w.cell? ⟨hb, 1, none⟩ = some (.slice (some ⟨g, 0, none⟩) (S.length + 1) cap) ∧ w.cell? ⟨g, 0, none⟩ = some (.int .i64 s.key) ∧ w.cell? ⟨g, 1, none⟩ = some (.int .i64 s.name) ∧ hb < w.heap.size ∧ g < w.heap.size := by
  obtain ⟨v, L, H, rfl, hs⟩ := h.ex
  obtain ⟨h1, h2, h3, h4, h5, h6⟩ := H.cells
  have hl := hs.length
  simp only [List.length_cons] at hl
  obtain ⟨g, cap, rfl, _, hg, _, _, _, hc⟩ := own_items H.row (by omega)
  obtain ⟨c1, c2, _⟩ := hc 0 (by omega)
  rw [hs.first, Nat.zero_mul] at c1 c2
  exact ⟨g, cap, by rw [← hl]; exact h2, c1, c2, h6, hg⟩
set_option maxHeartbeats 400000 in
theorem peek_s (hb : Nat) (fid : FuncId) (f : Int → Int) (S : List It) (s : It) (hlen : S.length ≤ 1000000) (B : Nat) (nx : Int) (ov : Option Nat) (w : World) (H : HpS w B hb fid f (s :: S) nx ov) :
    Calls Try.prog 25 #[.pointer (some ⟨hb, 0, none⟩)] w fun e w' => e = .returned (.tuple #[.agg #[.int .i64 s.key, .int .i64 s.name], .bool true]) ∧ Below w.heap.size w w' := by
  obtain ⟨g, cap, h1, h2, h3, h4, h5⟩ := H.top
  have hlen' : (s :: S).length ≤ 1000001 := by simp; omega
  go_enter Try.func25, Try.ntmps25
  go_wp2_with (go_at_call 27; refine (len_s hb fid f _ hlen' B nx ov _ (by first | exact H | exact H.alloc _)).mono ?_; rintro e _ ⟨rfl, rfl⟩)
  refine bodyPost_ret (v := .tuple #[.agg #[.int .i64 s.key, .int .i64 s.name], .bool true]) (by simp [results, Try.results25, go_sem]) rfl ⟨rfl, ?_⟩
  (repeat (first | exact Below.refl _ _ | refine Below.setCell ?_ ?_ _ | refine Below.alloc ?_ ?_ _)) <;> (first | (simp; done) | (simp; omega) | omega)
set_option maxHeartbeats 400000 in
theorem peek_s_none (hb : Nat) (fid : FuncId) (f : Int → Int) (B : Nat) (nx : Int) (ov : Option Nat) (w : World) (H : HpS w B hb fid f [] nx ov) :
    Calls Try.prog 25 #[.pointer (some ⟨hb, 0, none⟩)] w fun e w' => e = .returned (.tuple #[.agg #[.int .i64 0, .int .i64 0], .bool false]) ∧ Below w.heap.size w w' := by
  have hlen' : ([] : List It).length ≤ 1000001 := by simp
  go_enter Try.func25, Try.ntmps25
  go_wp2_with (go_at_call 27; refine (len_s hb fid f _ hlen' B nx ov _ (by first | exact H | exact H.alloc _)).mono ?_; rintro e _ ⟨rfl, rfl⟩)
  refine bodyPost_ret (v := .tuple #[.agg #[.int .i64 0, .int .i64 0], .bool false]) (by simp [results, Try.results25, go_sem]) rfl ⟨rfl, ?_⟩
  (repeat (first | exact Below.refl _ _ | refine Below.setCell ?_ ?_ _ | refine Below.alloc ?_ ?_ _)) <;> (first | (simp; done) | (simp; omega) | omega)

end Go.Proofs.Ytekdjjfbkcgmhaa
