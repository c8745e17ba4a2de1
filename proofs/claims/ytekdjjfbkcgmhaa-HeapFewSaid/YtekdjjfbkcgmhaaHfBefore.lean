/-
  What is proved here: the heap of uint16 whose function counts its calls: how it lies in memory, and what before does to the count.
-/
import Derived.Test.YtekdjjfbkcgmhaaHpAwake
namespace Go.Proofs.Ytekdjjfbkcgmhaa
open Go.RowKit Hp
set_option linter.unusedVariables false
set_option linter.unusedSimpArgs false

/-- An item: value and number. -/
structure Iu where
  key : Int
  ord : Int
deriving Inhabited
def Iu.cells (x : Iu) : List Value := [.int .u16 x.key, .int .i64 x.ord]
abbrev iuv (x : Iu) : Value := .agg #[.int .u16 x.key, .int .i64 x.ord]
def flatU (L : List Iu) : List Value := L.flatMap Iu.cells
theorem flatU_cons (a : Iu) (L : List Iu) : flatU (a :: L) = .int .u16 a.key :: .int .i64 a.ord :: flatU L := rfl
theorem flatU_length (L : List Iu) : (flatU L).length = L.length * 2 := by
  induction L with
  | nil => rfl
  | cons a L ih => rw [flatU_cons]; simp only [List.length_cons]; rw [ih]; omega
theorem flatU_append (L M : List Iu) : flatU (L ++ M) = flatU L ++ flatU M := by simp [flatU]
theorem flatU_get (L : List Iu) : ∀ (i : Nat), i < L.length → (flatU L)[i * 2]? = some (.int .u16 (at_ L i).key) ∧ (flatU L)[i * 2 + 1]? = some (.int .i64 (at_ L i).ord) := by
  induction L with
  | nil => intro i h; simp at h
  | cons a L ih =>
    intro i h
    rw [flatU_cons]
    cases i with
    | zero => simp [at_]
    | succ i =>
      have := ih i (by simpa using h)
      have e : at_ (a :: L) (i + 1) = at_ L i := by simp [at_, List.getD]
      rw [e, show (i + 1) * 2 = i * 2 + 2 by omega]
      simpa using this
theorem flatU_set (L : List Iu) : ∀ (i : Nat) (x : Iu), ((flatU L).set (i * 2) (.int .u16 x.key)).set (i * 2 + 1) (.int .i64 x.ord) = flatU (L.set i x) := by
  induction L with
  | nil => intro i x; rfl
  | cons a L ih =>
    intro i x
    cases i with
    | zero => simp [flatU_cons]
    | succ i =>
      rw [List.set_cons_succ, flatU_cons, flatU_cons, ← ih i x, show (i + 1) * 2 = i * 2 + 2 by omega]
      rfl
theorem flatU_take (L : List Iu) (n : Nat) : flatU (L.take n) = (flatU L).take (n * 2) := by
  induction L generalizing n with
  | nil => simp [flatU]
  | cons a L ih =>
    cases n with
    | zero => simp [flatU]
    | succ n => rw [List.take_succ_cons, flatU_cons, ih, flatU_cons, show (n + 1) * 2 = n * 2 + 2 by omega]; rfl
def cfn (kb : Nat) : Value := .func (.func 18) #[] #[.pointer (some ⟨kb, 0, none⟩)]
/-- The heap and the count. -/
structure HpU (w : World) (B hb kb : Nat) (v : Value) (L : List Iu) (nx c : Int) : Prop where
  blk : w.heap[hb]? = some (.cells #[cfn kb, v, .int .i64 nx] 71 (0, 0))
  row : w.ownsRow B 73 2 v L.length (flatU L)
  cnt : w.heap[kb]? = some (.cells #[.int .i64 c] 3 (0, 0))
  lowh : B ≤ hb
  lowk : B ≤ kb
theorem HpU.cells {w : World} {B hb kb : Nat} {v : Value} {L : List Iu} {nx c : Int} (h : HpU w B hb kb v L nx c) :
    w.cell? ⟨hb, 0, none⟩ = some (.func (.func 18) #[] #[.pointer (some ⟨kb, 0, none⟩)]) ∧ w.cell? ⟨hb, 1, none⟩ = some v ∧ w.cell? ⟨hb, 2, none⟩ = some (.int .i64 nx) ∧ w.frozen? ⟨hb, 1, none⟩ = false ∧ w.frozen? ⟨hb, 2, none⟩ = false ∧ hb < w.heap.size ∧
    w.cell? ⟨kb, 0, none⟩ = some (.int .i64 c) ∧ w.frozen? ⟨kb, 0, none⟩ = false ∧ kb < w.heap.size := by
  refine ⟨?_, ?_, ?_, ?_, ?_, lt_of_block h.blk, ?_, ?_, lt_of_block h.cnt⟩ <;> simp [World.cell?, World.frozen?, h.blk, h.cnt, cfn]
theorem own_itemsU {w : World} {B : Nat} {v : Value} {L : List Iu} (h : w.ownsRow B 73 2 v L.length (flatU L)) (hne : 0 < L.length) :
    ∃ g cap, v = .slice (some ⟨g, 0, none⟩) L.length cap ∧ B ≤ g ∧ g < w.heap.size ∧ L.length ≤ cap ∧ cap ≤ maxLen ∧ (∃ cur, w.heap[g]? = some (.cells cur 73 (0, 0)) ∧ cur.size = cap * 2 ∧ cur.toList.take (L.length * 2) = flatU L) ∧
      ∀ i, i < L.length → w.cell? ⟨g, i * 2, none⟩ = some (.int .u16 (at_ L i).key) ∧ w.cell? ⟨g, i * 2 + 1, none⟩ = some (.int .i64 (at_ L i).ord) ∧ w.frozen? ⟨g, i * 2, none⟩ = false ∧ w.frozen? ⟨g, i * 2 + 1, none⟩ = false := by
  rcases h.2 with ⟨_, h0⟩ | ⟨g, cap, cur, hv, hb, hg, hn, hm, hsz, ht⟩
  · omega
  · refine ⟨g, cap, hv, hb, lt_of_block hg, hn, hm, ⟨cur, hg, hsz, ht⟩, fun i hi => ?_⟩
    have key : ∀ j, j < L.length * 2 → cur.toList[j]? = (flatU L)[j]? := by
      intro j hj
      have := congrArg (fun x => x[j]?) ht
      simp only [List.getElem?_take, hj, if_true] at this
      exact this
    obtain ⟨f1, f2⟩ := flatU_get L i hi
    refine ⟨?_, ?_, by simp [World.frozen?, hg], by simp [World.frozen?, hg]⟩
    · have := (key (i * 2) (by omega)).trans f1
      simpa [World.cell?, hg] using this
    · have := (key (i * 2 + 1) (by omega)).trans f2
      simpa [World.cell?, hg] using this

/-- All blocks but the count's are as they were; the count is c'. -/
structure Cx (kb : Nat) (w w' : World) (c' : Int) : Prop where
  os : w'.os = w.os
  tape : w'.tape = w.tape
  output : w'.output = w.output
  size : w.heap.size ≤ w'.heap.size
  block : ∀ k, k < w.heap.size → k ≠ kb → w'.heap[k]? = w.heap[k]?
  cnt : w'.heap[kb]? = some (.cells #[.int .i64 c'] 3 (0, 0))
theorem Cx.refl {kb : Nat} {w : World} {c : Int} (h : w.heap[kb]? = some (.cells #[.int .i64 c] 3 (0, 0))) : Cx kb w w c := ⟨rfl, rfl, rfl, Nat.le_refl _, fun _ _ _ => rfl, h⟩
theorem Cx.trans {kb : Nat} {a b d : World} {c c' : Int} (h : Cx kb a b c) (k : Cx kb b d c') : Cx kb a d c' :=
  ⟨k.os.trans h.os, k.tape.trans h.tape, k.output.trans h.output, Nat.le_trans h.size k.size, fun i hi hn => (k.block i (by have := h.size; omega) hn).trans (h.block i hi hn), k.cnt⟩
theorem Cx.later {kb : Nat} {a b d : World} {c : Int} (h : Cx kb a b c) (k : Below b.heap.size b d) : Cx kb a d c :=
  h.trans ⟨k.os, k.tape, k.output, k.size, fun i hi _ => k.block i hi, (k.block kb (lt_of_block h.cnt)).trans h.cnt⟩
theorem Cx.below {kb B : Nat} {a b : World} {c : Int} (h : Cx kb a b c) (h1 : B ≤ kb) (h2 : B ≤ a.heap.size) : Below B a b :=
  ⟨h.os, h.tape, h.output, h.size, fun k hk => h.block k (by omega) (by omega)⟩
theorem Cx.cell {kb : Nat} {a b : World} {c : Int} (h : Cx kb a b c) (q o : Nat) (hq : q < a.heap.size) (hn : q ≠ kb) : b.cell? ⟨q, o, none⟩ = a.cell? ⟨q, o, none⟩ := by unfold World.cell?; simp only [h.block q hq hn]
theorem Cx.own {kb : Nat} {a b : World} {c : Int} (h : Cx kb a b c) {B n size : Nat} {e : TypeId} {v : Value} {xs : List Value} (ho : a.ownsRow B e size v n xs) (hn : v.ownBlock ≠ some kb) : b.ownsRow B e size v n xs := by
  refine ⟨ho.1, ?_⟩
  rcases ho.2 with h0 | ⟨g, cap, cur, rfl, hb, hk, hr⟩
  · exact .inl h0
  · exact .inr ⟨g, cap, cur, rfl, hb, (h.block g (lt_of_block hk) (by simpa [Value.ownBlock] using hn)).trans hk, hr⟩
theorem HpU.ne {w : World} {B hb kb : Nat} {v : Value} {L : List Iu} {nx c : Int} (h : HpU w B hb kb v L nx c) : v.ownBlock ≠ some kb ∧ v.ownBlock ≠ some hb ∧ hb ≠ kb := by
  refine ⟨fun e => ?_, fun e => ?_, fun e => ?_⟩
  · rcases h.row.2 with ⟨rfl, _⟩ | ⟨g, cap, cur, rfl, _, hk, _⟩
    · simp [Value.ownBlock] at e
    · simp only [Value.ownBlock, Option.some.injEq] at e
      subst e
      have := hk.symm.trans h.cnt
      simp at this
  · rcases h.row.2 with ⟨rfl, _⟩ | ⟨g, cap, cur, rfl, _, hk, _⟩
    · simp [Value.ownBlock] at e
    · simp only [Value.ownBlock, Option.some.injEq] at e
      subst e
      have := hk.symm.trans h.blk
      simp at this
  · subst e
    have := h.blk.symm.trans h.cnt
    simp at this
theorem HpU.step {w W : World} {B hb kb : Nat} {v : Value} {L : List Iu} {nx c c' : Int} (h : HpU w B hb kb v L nx c) (k : Cx kb w W c') : HpU W B hb kb v L nx c' := by
  obtain ⟨n1, n2, n3⟩ := h.ne
  exact ⟨(k.block hb (lt_of_block h.blk) n3).trans h.blk, k.own h.row n1, k.cnt, h.lowh, h.lowk⟩
theorem HpU.later {w W : World} {B hb kb : Nat} {v : Value} {L : List Iu} {nx c : Int} (h : HpU w B hb kb v L nx c) (k : Below w.heap.size w W) : HpU W B hb kb v L nx c := h.step ((Cx.refl h.cnt).later k)

set_option maxHeartbeats 400000 in
theorem less_c (a b c : Int) (kb : Nat) (w : World) (h0 : 0 ≤ c) (h1 : c ≤ 1000000) (hc : w.heap[kb]? = some (.cells #[.int .i64 c] 3 (0, 0))) :
    Calls Try.prog 18 #[.int .u16 a, .int .u16 b, .pointer (some ⟨kb, 0, none⟩)] w fun e w' => e = .returned (.bool (decide (a < b))) ∧ Cx kb w w' (c + 1) := by
  have c1 : w.cell? ⟨kb, 0, none⟩ = some (.int .i64 c) := by simp [World.cell?, hc]
  have c2 : w.frozen? ⟨kb, 0, none⟩ = false := by simp [World.frozen?, hc]
  have c3 := lt_of_block hc
  have HC := Lib.hid hc
  clear hc
  go_enter Try.func18, Try.ntmps18
  go_wp2
  go_ret
  refine ⟨rfl, ⟨rfl, rfl, rfl, by simp, fun k hk hn => heap_setCell_other w ⟨kb, 0, none⟩ k _ (by simpa using hn), ?_⟩⟩
  have := heap_setCell_same w kb 0 _ _ (.int .i64 (c + 1)) HC.out
  simpa using this

theorem neq_cfn (kb : Nat) (w : World) : (binOp .neq 39 (.func (.func 18) #[] #[.pointer (some ⟨kb, 0, none⟩)]) .nilFunc).run Try.prog w = .ok (.bool true) w := by kernel_rfl
set_option maxHeartbeats 400000 in
theorem usable_u (hb kb : Nat) (w : World) (hc : w.cell? ⟨hb, 0, none⟩ = some (.func (.func 18) #[] #[.pointer (some ⟨kb, 0, none⟩)])) :
    Calls Try.prog 39 #[.pointer (some ⟨hb, 0, none⟩)] w fun e w' => e = .returned (.bool true) ∧ w = w' := by
  have hn := neq_cfn kb
  go_enter Try.func39, Try.ntmps39
  go_wp2
  all_goals
    go_ret
    exact ⟨rfl, rfl⟩

def RetBefore (kb : Nat) (w : World) (c : Int) (e : Ending) (w' : World) : Prop := ∃ r, e = .returned (.bool r) ∧ Cx kb w w' (c + 1)
set_option maxRecDepth 100000 in
set_option maxHeartbeats 1000000 in
theorem before_u (hb kb : Nat) (a b : Iu) (c : Int) (w : World) (h0 : 0 ≤ c) (h1 : c ≤ 1000000) (hc : w.cell? ⟨hb, 0, none⟩ = some (.func (.func 18) #[] #[.pointer (some ⟨kb, 0, none⟩)])) (hs : hb < w.heap.size) (hk : w.heap[kb]? = some (.cells #[.int .i64 c] 3 (0, 0))) :
    Calls Try.prog 41 #[.pointer (some ⟨hb, 0, none⟩), iuv a, iuv b] w (RetBefore kb w c) := by
  have he : ∀ (args : Array Value) (w : World), (callFunc 18 args).run Try.prog w = .ok (.enter 18 args) w := fun _ _ => by kernel_rfl
  have hs1 : hb < w.heap.size + 1 := by omega
  have hs2 : hb < w.heap.size + 1 + 1 := by omega
  have HK := Lib.hid hk
  clear hk
  by_cases ho : a.ord < b.ord
  · have d := decide_eq_true ho
    go_enter Try.func41, Try.ntmps41
    go_wp2_with fail
    refine wp_region_ext_tail 8 (by kernel_rfl) (by kernel_rfl) ?_
    simp only [List.take_succ_cons, List.take_zero, List.drop_succ_cons, List.drop_zero]
    repeat (go_big_quiet_step (fail))
    refine wpQuiet_nil ?_
    rintro _ ⟨y, rfl⟩
    have hC := (((Cx.refl HK.out).later (Below.two w (Obj.cells #[.int .u16 a.key, .int .i64 a.ord] 73) (Obj.cells #[.int .u16 b.key, .int .i64 b.ord] 73))).later y.h)
    go_wp2_with (go_at_call 18; refine (less_c _ _ c kb y.w h0 h1 hC.cnt).mono ?_; rintro e W ⟨rfl, hW⟩)
    go_ret
    exact ⟨_, rfl, hC.trans hW⟩
  · have d := decide_eq_false ho
    go_enter Try.func41, Try.ntmps41
    go_wp2_with fail
    refine wp_region_ext_tail 8 (by kernel_rfl) (by kernel_rfl) ?_
    simp only [List.take_succ_cons, List.take_zero, List.drop_succ_cons, List.drop_zero]
    repeat (go_big_quiet_step (fail))
    refine wpQuiet_nil ?_
    rintro _ ⟨y, rfl⟩
    have hC := (((Cx.refl HK.out).later (Below.two w (Obj.cells #[.int .u16 a.key, .int .i64 a.ord] 73) (Obj.cells #[.int .u16 b.key, .int .i64 b.ord] 73))).later y.h)
    go_wp2_with (go_at_call 18; refine (less_c _ _ c kb y.w h0 h1 hC.cnt).mono ?_; rintro e W ⟨rfl, hW⟩)
    go_ret
    exact ⟨_, rfl, hC.trans hW⟩

end Go.Proofs.Ytekdjjfbkcgmhaa
