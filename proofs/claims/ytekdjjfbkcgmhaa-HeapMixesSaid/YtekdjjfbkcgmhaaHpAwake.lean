/-
  What is proved here: Same of the reference at equal lists, and awake, return true.
-/
import Derived.Test.YtekdjjfbkcgmhaaHpLists
namespace Go.Proofs.Ytekdjjfbkcgmhaa
open Go.RowKit Hp
set_option linter.unusedVariables false
set_option linter.unusedSimpArgs false

theorem eqIn_int {P : Program} (d : Nat) {t : TypeId} {k : IntKind} (h : P.underlying t = some (.int k)) (a b : Int) (w : World) : (Op.equalIn (d + 1) t (.int k a) (.int k b)).run P w = .ok (a == b) w := by
  simp [Op.equalIn, run_underlying h]
theorem part0 (a b : Int) (w : World) : (part 3 #[.int .i64 a, .int .i64 b] 0).run Try.prog w = .ok (.int .i64 a) w := by kernel_rfl
theorem part1 (a b : Int) (w : World) : (part 3 #[.int .i64 a, .int .i64 b] 1).run Try.prog w = .ok (.int .i64 b) w := by kernel_rfl
theorem eqIn_it (d : Nat) (a b c e : Int) (w : World) : (Op.equalIn (d + 1 + 1) 26 (.agg #[.int .i64 a, .int .i64 b]) (.agg #[.int .i64 c, .int .i64 e])).run Try.prog w = .ok (a == c && b == e) w := by
  rw [Op.equalIn]
  simp [run_underlying Try.underlying26, eqIn_int d Try.underlying3, part0, part1, Sem.run_bind]
  by_cases h1 : a = c <;> by_cases h2 : b = e <;> simp [h1, h2]
theorem eq_it (a b c d : Int) (w : World) : (binOp .eql 26 (.agg #[.int .i64 a, .int .i64 b]) (.agg #[.int .i64 c, .int .i64 d])).run Try.prog w = .ok (.bool (a == c && b == d)) w := by
  simp only [binOp]
  simp [Op.equal, Op.maxDepth, eqIn_it 9998]
theorem ne_it (a b c d : Int) (w : World) : (binOp .neq 26 (.agg #[.int .i64 a, .int .i64 b]) (.agg #[.int .i64 c, .int .i64 d])).run Try.prog w = .ok (.bool (!(a == c && b == d))) w := by
  simp only [binOp]
  simp [Op.equal, Op.maxDepth, eqIn_it 9998]

set_option maxHeartbeats 1000000 in
theorem same_yes (u v : Value) (l : List (Int × Int)) (hlen : l.length ≤ 1000000) (w : World) (B : Nat) (hB : B ≤ w.heap.size) (H1 : Reads2 w B u l) (H2 : Reads2 w B v l) :
    Calls Try.prog 30 #[u, v] w fun e w' => e = .returned (.bool true) ∧ Below w.heap.size w w' := by
  obtain ⟨A, cap, rfl, hA⟩ := H1
  obtain ⟨C, cap2, rfl, hC⟩ := H2
  have HA := Lib.hid hA
  have HC := Lib.hid hC
  have hne : ∀ (a b : Int) (w : World), (binOp .neq 26 (.agg #[.int .i64 a, .int .i64 b]) (.agg #[.int .i64 a, .int .i64 b])).run Try.prog w = .ok (.bool false) w := fun a b w => by rw [ne_it]; simp
  clear hA hC
  go_enter Try.func30, Try.ntmps30
  go_wp2_with fail
  go_loopw [5] (fun i wr => ∃ k : Nat, k ≤ l.length ∧ i = .int .i64 (k : Int) ∧ Below w.heap.size w wr) (fun i _ => l.length - (intOf i).toNat)
  case atStart => exact ⟨0, Nat.zero_le _, rfl, Below.refl _ _⟩
  case round =>
    obtain ⟨k, hk, rfl, hW⟩ := hrel
    by_cases hlt : k < l.length
    · obtain ⟨b, off, rfl, had, hc⟩ := HA.out (by omega)
      obtain ⟨b', off', rfl, had', hc'⟩ := HC.out (by omega)
      obtain ⟨⟨x1, x2⟩, hx⟩ : ∃ x, l[k]? = some x := ⟨_, List.getElem?_eq_getElem hlt⟩
      obtain ⟨c1, c2⟩ := hc k _ hx
      obtain ⟨d1, d2⟩ := hc' k _ hx
      simp only at c1 c2 d1 d2
      rw [← hW.cell (p := ⟨b, off + k * 2, none⟩) (by simp; omega)] at c1
      rw [← hW.cell (p := ⟨b, off + k * 2 + 1, none⟩) (by simp; omega)] at c2
      rw [← hW.cell (p := ⟨b', off' + k * 2, none⟩) (by simp; omega)] at d1
      rw [← hW.cell (p := ⟨b', off' + k * 2 + 1, none⟩) (by simp; omega)] at d2
      have hs := hW.size
      have hb1 : b < wr.heap.size := by omega
      have hb2 : b' < wr.heap.size := by omega
      clear hc hc' hx
      go_wp2_with fail
      refine wp_region_ext (by kernel_rfl) (by kernel_rfl) ?_
      repeat (go_big_quiet_step (fail))
      refine wpQuiet_nil ?_
      rintro _ ⟨y, rfl⟩
      go_wp2_with fail
      go_roundw
      case rel => exact ⟨k + 1, by omega, by go_num, Ext.below hW hs y⟩
      case measure => simp [intOf]; omega
    · obtain rfl : k = l.length := by omega
      go_wp2_with fail
      go_ret
      exact ⟨rfl, hW⟩

def ex0 : List (Int × Int) := [(2, 0), (1, 1), (2, 2), (1, 3)]
def ex1 : List (Int × Int) := [(1, 1), (1, 3), (2, 0), (2, 2)]
theorem ex_srt : (srt id (tag ex0)).map It.kn = ex1 := by decide
theorem ex_get : ∀ k, k < 4 → ex0[k]? = some ((#[2, 1, 2, 1] : Array Int).getD k 0, (k : Int)) := by decide
theorem ex_cell (k : Nat) (h : k < 4) : (#[Value.int .i64 2, .int .i64 1, .int .i64 2, .int .i64 1] : Array Value)[k]? = some (.int .i64 ((#[2, 1, 2, 1] : Array Int).getD k 0)) := by
  match k, h with
  | 0, _ => rfl
  | 1, _ => rfl
  | 2, _ => rfl
  | 3, _ => rfl
theorem ex_reads (W : World) : Reads2 (W.alloc (Obj.cells #[.int .i64 1, .int .i64 1, .int .i64 1, .int .i64 3, .int .i64 2, .int .i64 0, .int .i64 2, .int .i64 2] 26)) (W.alloc (Obj.cells #[.int .i64 1, .int .i64 1, .int .i64 1, .int .i64 3, .int .i64 2, .int .i64 0, .int .i64 2, .int .i64 2] 26)).heap.size (.slice (some ⟨W.heap.size, 0, none⟩) 4 4) ex1 := by
  refine ⟨_, 4, rfl, fun _ => ⟨W.heap.size, 0, rfl, by simp, fun i x hi => ?_⟩⟩
  have hb := alloc_new W (Obj.cells #[.int .i64 1, .int .i64 1, .int .i64 1, .int .i64 3, .int .i64 2, .int .i64 0, .int .i64 2, .int .i64 2] 26)
  have hil : i < 4 := (List.getElem?_eq_some_iff.1 hi).1
  unfold World.cell?
  simp only [hb]
  match i, hil with
  | 0, _ => simp [ex1] at hi; subst hi; exact ⟨rfl, rfl⟩
  | 1, _ => simp [ex1] at hi; subst hi; exact ⟨rfl, rfl⟩
  | 2, _ => simp [ex1] at hi; subst hi; exact ⟨rfl, rfl⟩
  | 3, _ => simp [ex1] at hi; subst hi; exact ⟨rfl, rfl⟩
set_option maxRecDepth 100000 in
set_option maxHeartbeats 1000000 in
theorem awake_any (w : World) : Calls Try.prog 11 #[] w fun e w' => e = .returned (.bool true) ∧ Below w.heap.size w w' := by
  go_enter Try.func11, Try.ntmps11
  go_wp2_with (go_at_call 14; refine (new_s w.heap.size 23 id w).mono ?_; rintro e W ⟨rfl, hS, hW⟩)
  have hS1 := hS.alloc (Obj.cells #[.int .i64 2, .int .i64 1, .int .i64 2, .int .i64 1] 3)
  have hk1 := alloc_new W (Obj.cells #[.int .i64 2, .int .i64 1, .int .i64 2, .int .i64 1] 3)
  have hB1 := hW.alloc (by exact hW.size) (Obj.cells #[.int .i64 2, .int .i64 1, .int .i64 2, .int .i64 1] 3)
  have H1 := Lib.hid hS1
  have H2 := Lib.hid hk1
  have H3 := Lib.hid hB1
  clear hS hS1 hk1 hB1
  go_loopw [2, 3, 9] (fun a b i wr => ∃ (k : Nat) (ov : Option Nat), k ≤ 4 ∧ i = .int .i64 (k : Int) ∧ HpS wr w.heap.size w.heap.size 23 id (srt id (tag (ex0.take k))) k ov ∧ wr.heap[W.heap.size]? = some (.cells #[.int .i64 2, .int .i64 1, .int .i64 2, .int .i64 1] 3 (0, 0)) ∧ Below w.heap.size w wr) (fun _ _ i _ => 4 - (intOf i).toNat)
  case atStart => exact ⟨0, none, by omega, rfl, H1.out, H2.out, H3.out⟩
  case round =>
    obtain ⟨k, ov, hk, rfl, hS, hblk, hB⟩ := hrel
    have HS := Lib.hid hS
    have HB := Lib.hid hB
    by_cases hlt : k < 4
    · have hsz := lt_of_block hblk
      have c1 : wr.cell? ⟨W.heap.size, k, none⟩ = some (.int .i64 ((#[2, 1, 2, 1] : Array Int).getD k 0)) := by
        have := ex_cell k hlt
        unfold World.cell?
        rw [hblk]
        exact this
      have hx := ex_get k hlt
      have HK := Lib.hid hblk
      obtain ⟨c, hc⟩ : ∃ c, (#[2, 1, 2, 1] : Array Int).getD k 0 = c := ⟨_, rfl⟩
      rw [hc] at c1 hx
      have HX := Lib.hid hx
      clear hx hc hS hB hblk H1 H2 H3 hW
      have hws := HB.out.size
      go_wp2_with (go_at_call 16; refine (push_s w.heap.size 23 id byKey_lessOf _ (by rw [srt_length, tag_length]; simp; omega) w.heap.size ⟨c, k, k⟩ (by simp) (by simp; omega) ov _ hws (srt_ords _ _ _ hk _ _) HS.out).mono ?_; rintro e W' ⟨rfl, ov', hS', hT, hn⟩)
      have hb' : Below w.heap.size w W' := HB.out.trans (hT.below (Nat.le_refl _) hws HS.out.ov_ge)
      go_roundw
      case rel => exact ⟨k + 1, ov', by omega, by go_num, by rw [tag_take ex0 k hlt _ HX.out, srt_snoc]; exact hS', (HS.out.keeps hT).block HK.out (by decide) (by decide), hb'⟩
      case measure => simp [intOf]; omega
    · obtain rfl : k = 4 := by omega
      clear H1 H2 H3 hW hblk hS hB
      go_wp2_with (go_at_call 12; refine (popped_s w.heap.size 23 id byKey_lessOf (srt id (tag ex0)) (by decide) w.heap.size _ ov _ HS.out).mono ?_; rintro e W' ⟨v, rfl, hown, hS', hT⟩)
      have hown1 : W'.ownsRow wr.heap.size 26 2 v ex1.length (flat2 ex1) := by rw [← ex_srt]; rw [List.length_map]; exact hown
      have hb' : Below w.heap.size w W' := HB.out.trans (hT.below (Nat.le_refl _) HB.out.size HS.out.ov_ge)
      refine (same_yes _ _ ex1 (by decide) _ _ (Nat.le_refl _) (Reads2.of_own (hown1.alloc _)) (ex_reads W')).mono ?_
      rintro e W2 ⟨rfl, hW2⟩
      go_wp2_with fail
      go_ret
      exact ⟨rfl, (hb'.alloc hb'.size _).trans (hW2.mono (by have := hb'.size; simp; omega))⟩

end Go.Proofs.Ytekdjjfbkcgmhaa
