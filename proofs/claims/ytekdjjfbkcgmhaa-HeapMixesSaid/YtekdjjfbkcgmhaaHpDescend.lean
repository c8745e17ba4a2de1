/-
  What is proved here: what (*Heap).descend returns (instance Item): the places on the way down.
-/
import Derived.Test.YtekdjjfbkcgmhaaHpWorld
import Derived.Deep.DeepCutAuto
namespace Go.Proofs.Ytekdjjfbkcgmhaa
open Go.RowKit Hp
set_option linter.unusedVariables false
set_option linter.unusedSimpArgs false

def pathV (lt : It → It → Bool) (L : List It) (n k : Nat) : List Value := (List.range k).map fun i => .int .i64 (des lt L n (i + 1))
theorem pathV_succ (lt : It → It → Bool) (L : List It) (n k : Nat) : pathV lt L n (k + 1) = pathV lt L n k ++ [.int .i64 (des lt L n (k + 1))] := by
  simp [pathV, List.range_succ]
/-- A new slice of places comes back. -/
def RetPath (lt : It → It → Bool) (L : List It) (n : Nat) (w : World) (e : Ending) (w' : World) : Prop :=
  ∃ k v, e = .returned v ∧ Hp.Ends lt L n k ∧ w'.ownsRow w.heap.size 3 1 v k (pathV lt L n k) ∧ Below w.heap.size w w'
theorem infoI : (Try.prog.info? 3).map (fun i => (i.zero, i.size, i.bytes)) = some (some (.int .i64 0), 1, 8) := by kernel_rfl
abbrev itv (x : It) : Value := .agg #[.int .i64 x.key, .int .i64 x.name, .int .i64 x.ord]

/-- What the function's memory holds: the heap and the item that sinks. -/
structure Dsc (w V : World) (B hb : Nat) (fid : FuncId) (v : Value) (L : List It) (nx : Int) (x : It) : Prop where
  below : Below w.heap.size w V
  hp : HpAt V B hb fid v L nx
  bx : V.heap[w.heap.size]? = some (.cells #[.int .i64 x.key, .int .i64 x.name, .int .i64 x.ord] 67 (0, 0))
theorem alloc_block {W : World} (ob : Obj) {k : Nat} {ob' : Obj} (h : W.heap[k]? = some ob') : (W.alloc ob).heap[k]? = some ob' := by
  have hlt := lt_of_block h
  show (W.heap.push ob)[k]? = _
  rw [Array.getElem?_push, if_neg (Nat.ne_of_lt hlt)]; exact h
theorem alloc_new (W : World) (ob : Obj) : (W.alloc ob).heap[W.heap.size]? = some ob := by
  show (W.heap.push ob)[W.heap.size]? = _
  rw [Array.getElem?_push, if_pos rfl]
theorem HpAt.alloc {W : World} {B hb : Nat} {fid : FuncId} {v : Value} {L : List It} {nx : Int} (h : HpAt W B hb fid v L nx) (ob : Obj) : HpAt (W.alloc ob) B hb fid v L nx :=
  ⟨alloc_block ob h.blk, h.row.alloc ob⟩
theorem Dsc.start {w : World} {B hb : Nat} {fid : FuncId} {v : Value} {L : List It} {nx : Int} (h : HpAt w B hb fid v L nx) (x : It) : ∃ V, w.alloc (Obj.cells #[.int .i64 x.key, .int .i64 x.name, .int .i64 x.ord] 67) = V ∧ Dsc w V B hb fid v L nx x ∧ w.heap.size < V.heap.size :=
  ⟨_, rfl, ⟨Below.alloc (Below.refl _ _) (Nat.le_refl _) _, h.alloc _, alloc_new _ _⟩, by rw [World.size_alloc]; omega⟩
theorem Dsc.later {w V W : World} {B hb : Nat} {fid : FuncId} {v : Value} {L : List It} {nx : Int} {x : It} (D : Dsc w V B hb fid v L nx x) (hs : w.heap.size < V.heap.size) (h : Below V.heap.size V W) : Dsc w W B hb fid v L nx x :=
  ⟨D.below.trans (h.mono (by omega)), D.hp.ext ⟨W, h⟩, ext_block ⟨W, h⟩ D.bx⟩
theorem Dsc.cells {w V : World} {B hb : Nat} {fid : FuncId} {v : Value} {L : List It} {nx : Int} {x : It} (D : Dsc w V B hb fid v L nx x) :
    V.cell? ⟨w.heap.size, 0, none⟩ = some (.int .i64 x.key) ∧ V.cell? ⟨w.heap.size, 1, none⟩ = some (.int .i64 x.name) ∧ V.cell? ⟨w.heap.size, 2, none⟩ = some (.int .i64 x.ord) ∧ w.heap.size < V.heap.size := by
  refine ⟨?_, ?_, ?_, lt_of_block D.bx⟩ <;> simp [World.cell?, D.bx]

theorem own_low {W : World} {B B' n size : Nat} {e : TypeId} {v : Value} {xs : List Value} (h : W.ownsRow B e size v n xs) (hB : B' ≤ B) : W.ownsRow B' e size v n xs := by
  refine ⟨h.1, ?_⟩
  rcases h.2 with h0 | ⟨g, c, cur, r1, r2, r3⟩
  · exact .inl h0
  · exact .inr ⟨g, c, cur, r1, by omega, r3⟩
theorem lit_of {P : Program} {f : FuncId} {args : Array Value} {w : World} {b c : Bool} (h : Calls P f args w fun e w' => e = .returned (.bool b) ∧ Below w.heap.size w w') (hb : b = c) :
    Calls P f args w fun e w' => e = .returned (.bool c) ∧ Below w.heap.size w w' := hb ▸ h
theorem grown_below {V W W' : World} (x : Ext W) (h : Below V.heap.size V W) {e : TypeId} {size n : Nat} {v : Value} {xs : List Value} {o : Obj} (hown : x.w.ownsRow V.heap.size e size v n xs) (hg : (x.w.alloc o).grownBy W' v.ownBlock) : Below V.heap.size V W' := by
  have hs := h.size
  have hx := x.h.size
  refine ((h.trans (x.h.mono hs)).alloc (by omega) o).grown hg (by rw [World.size_alloc]; omega) ?_
  intro k hk
  rcases hown.2 with ⟨rfl, _⟩ | ⟨g, cap, cur, rfl, hb, _⟩
  · cases hk
  · cases hk; exact hb
theorem sink_succ {lt : It → It → Bool} {L : List It} {n k d : Nat} (h : Sinks lt L n k) (hd : des lt L n (k + 1) = d) (hn : d < n) (hl : lt (at_ L d) (at_ L n) = true) : Sinks lt L n (k + 1) := by
  intro i hi
  by_cases e : i = k
  · subst e; rw [hd]; exact ⟨hn, hl⟩
  · exact h i (by omega)
theorem des_le {lt : It → It → Bool} {L : List It} {n k : Nat} (h : Sinks lt L n k) : des lt L n k ≤ n := by
  cases k with
  | zero => exact Nat.zero_le _
  | succ k => exact Nat.le_of_lt (h k (by omega)).1
theorem sink_le {lt : It → It → Bool} {L : List It} {n k : Nat} (h : Sinks lt L n k) (hn : 0 < n) : k ≤ n := by
  have key : ∀ j, j ≤ k → j ≤ des lt L n j := by
    intro j
    induction j with
    | zero => intro _; exact Nat.zero_le _
    | succ j ih => intro hj; have := ih (by omega); have := des_succ (lt := lt) L n j; omega
  have h1 := key k (Nat.le_refl _)
  have h2 := des_bound h hn k (Nat.le_refl _)
  omega

set_option maxRecDepth 100000 in
set_option maxHeartbeats 4000000 in
theorem descend_any (hb : Nat) (fid : FuncId) (ls : Int → Int → Int → Int → Bool) (HL : Less fid ls) (L : List It) (n : Nat) (hn : L.length = n + 1) (hlen : n ≤ 1000000) (B : Nat) (v : Value) (nx : Int) (w : World) (H : HpAt w B hb fid v L nx) :
    Calls Try.prog 45 #[.pointer (some ⟨hb, 0, none⟩), itv (at_ L n), .int .i64 n] w (RetPath (bfr ls) L n w) := by
  obtain ⟨i0, hi, hz0, hz1, hz2⟩ := info_parts infoI
  generalize hx : at_ L n = x at *
  have HX := Lib.hid hx
  clear hx
  have HH := Lib.hid H
  go_enter Try.func45, Try.ntmps45
  go_wp2_with fail
  obtain ⟨V, hV, D, sV⟩ := Dsc.start HH.out x
  rw [hV]
  clear hV
  have hown0 : V.ownsRow V.heap.size 3 1 (.slice none 0 0) 0 (pathV (bfr ls) L n 0) := ⟨rfl, .inl ⟨rfl, rfl⟩⟩
  have HD := Lib.hid D
  clear D H
  go_loopw [7, 8, 9] (fun p a d wr => ∃ k : Nat, Sinks (bfr ls) L n k ∧ a = .int .i64 (des (bfr ls) L n k) ∧ wr.ownsRow V.heap.size 3 1 p k (pathV (bfr ls) L n k) ∧ Below V.heap.size V wr) (fun _ a _ _ => n - (intOf a).toNat)
  case atStart => exact ⟨0, fun i hi => by omega, rfl, hown0, Below.refl _ _⟩
  case round =>
    obtain ⟨k, hk, rfl, hown, bV⟩ := hrel
    have bd : 0 < n → des (bfr ls) L n k < n := fun h => des_bound hk h k (Nat.le_refl _)
    have bl : des (bfr ls) L n k ≤ n := des_le hk
    have D := HD.out.later sV bV
    obtain ⟨x1, x2, x3, x4⟩ := D.cells
    obtain ⟨h1, h2, h3, h4, h5, h6⟩ := D.hp.cells
    obtain ⟨g, cap, hv, hg, hgs, hcap, hmax, _, hcs⟩ := own_items D.hp.row (by omega)
    subst hv
    have HC := Lib.hid hcs
    have KB := Lib.hid D.below
    have CH := Lib.hid (cho_cases (bfr ls) L n (des (bfr ls) L n k))
    have DS := Lib.hid (show des (bfr ls) L n (k + 1) = cho (bfr ls) L n (des (bfr ls) L n k) from rfl)
    have SK := Lib.hid hk
    clear D hcs hk h3 h4 h5
    obtain ⟨a, ha⟩ : ∃ a, des (bfr ls) L n k = a := ⟨_, rfl⟩
    rw [ha] at bd bl CH DS ⊢
    have HA := Lib.hid ha
    clear ha
    by_cases c0 : n ≤ 2 * a + 1
    · have d0 : (n : Int) ≤ 2 * (a : Int) + 1 := by omega
      have d0' := decide_eq_true d0
      clear bd
      go_wp2_with fail
      go_ret
      exact ⟨k, _, rfl, ⟨SK.out, .inl (by rw [HA.out]; exact c0)⟩, ⟨hown.1, by
        rcases hown.2 with h | ⟨g', c', cur', r1, r2, r3⟩
        · exact .inl h
        · exact .inr ⟨g', c', cur', r1, by omega, r3⟩⟩, KB.out⟩
    · have d0 : ¬ (n : Int) ≤ 2 * (a : Int) + 1 := by omega
      have abd : a < n := bd (by omega)
      clear bd
      by_cases c1 : 2 * a + 2 < n
      · have d1 : decide (2 * (a : Int) + 1 + 1 < (n : Int)) = true := by simp; omega
        obtain ⟨p1, p2, p3⟩ := HC.out (2 * a + 1) (by omega)
        obtain ⟨q1, q2, q3⟩ := HC.out (2 * a + 1 + 1) (by omega)
        cases ct : bfr ls (at_ L (2 * a + 1 + 1)) (at_ L (2 * a + 1))
        · have hd : cho (bfr ls) L n a = 2 * a + 1 := by rcases CH.out with h | h; exact h.1; rw [h.2.2] at ct; cases ct
          have CT := Lib.hid ct
          clear ct
          have DE := Lib.hid (DS.out.trans hd)
          clear CH DS hd
          obtain ⟨e1, e2, e3⟩ := HC.out (2 * a + 1) (by omega)
          cases cb : bfr ls (at_ L (2 * a + 1)) x
          · have CB := Lib.hid cb
            clear cb
            go_wp2_with fail
            refine wp_region_ext (by kernel_rfl) (by kernel_rfl) ?_
            repeat (go_big_quiet_step ((go_at_call 38; exact Calls.extq (lit_of (before_any hb fid ls HL (at_ L (2 * a + 1 + 1)) (at_ L (2 * a + 1)) _ (by simp [go_sem, *]) (by simp [go_sem, *])) CT.out))))
            refine wpQuiet_nil ?_
            rintro _ ⟨y0, rfl⟩
            go_wp2_with fail
            refine wp_region_extq (by kernel_rfl) (by kernel_rfl) ?_
            repeat (go_big_quiet_step ((go_at_call 38; exact Calls.extq (lit_of (before_any hb fid ls HL (at_ L (2 * a + 1)) x _ (by simp [go_sem, *]) (by simp [go_sem, *])) CB.out))))
            refine wpQuiet_nil ?_
            rintro _ ⟨y, rfl⟩
            go_wp2_with fail
            go_ret
            exact ⟨k, _, rfl, ⟨SK.out, .inr (by rw [DE.out, HX.out]; exact CB.out)⟩, own_low (own_ext y hown) (by omega), Ext.below KB.out (by omega) y⟩
          · have CB := Lib.hid cb
            clear cb
            go_wp2_with fail
            refine wp_region_ext (by kernel_rfl) (by kernel_rfl) ?_
            repeat (go_big_quiet_step ((go_at_call 38; exact Calls.extq (lit_of (before_any hb fid ls HL (at_ L (2 * a + 1 + 1)) (at_ L (2 * a + 1)) _ (by simp [go_sem, *]) (by simp [go_sem, *])) CT.out))))
            refine wpQuiet_nil ?_
            rintro _ ⟨y0, rfl⟩
            go_wp2_with fail
            refine wp_region_extq (by kernel_rfl) (by kernel_rfl) ?_
            repeat (go_big_quiet_step ((go_at_call 38; exact Calls.extq (lit_of (before_any hb fid ls HL (at_ L (2 * a + 1)) x _ (by simp [go_sem, *]) (by simp [go_sem, *])) CB.out))))
            refine wpQuiet_nil ?_
            rintro _ ⟨y, rfl⟩
            have ho := own_ext y hown
            go_wp2_with (at_builtin; refine wpList_append_own _ rfl (.tmp 54) (.tmp 56) 22 rfl V.heap.size 3 i0 (.int .i64 0) 1 8 Try.underlying22 hi hz0 hz1 hz2 rfl (by decide) _ _ _ rfl (ho.alloc _) ⟨World.heap y.w |>.size, 0, none⟩ 1 1 [.int .i64 ((2 * a + 1 : Nat) : Int)] rfl rfl (cell_one_new _ _ _) (by simp [Value.oneCell']) (by unfold maxLen; have := sink_le SK.out (by omega); omega) (by have := sink_le SK.out (by omega); omega) (by have := bV.size; have := y.h.size; rw [World.size_alloc]; omega) ?_; intro v' W' hown' hgrow _)
            have bW := grown_below y bV ho hgrow
            clear hgrow ho
            go_roundw
            case rel => exact ⟨k + 1, sink_succ SK.out DE.out (by omega) (by rw [HX.out]; exact CB.out), by rw [DE.out]; simp, by rw [pathV_succ, DE.out]; simpa using hown', bW⟩
            case measure => simp [intOf]; omega
        · have hd : cho (bfr ls) L n a = 2 * a + 1 + 1 := by rcases CH.out with h | h; rw [h.2 c1] at ct; cases ct; exact h.1
          have CT := Lib.hid ct
          clear ct
          have DE := Lib.hid (DS.out.trans hd)
          clear CH DS hd
          obtain ⟨e1, e2, e3⟩ := HC.out (2 * a + 1 + 1) (by omega)
          cases cb : bfr ls (at_ L (2 * a + 1 + 1)) x
          · have CB := Lib.hid cb
            clear cb
            go_wp2_with fail
            refine wp_region_ext (by kernel_rfl) (by kernel_rfl) ?_
            repeat (go_big_quiet_step ((go_at_call 38; exact Calls.extq (lit_of (before_any hb fid ls HL (at_ L (2 * a + 1 + 1)) (at_ L (2 * a + 1)) _ (by simp [go_sem, *]) (by simp [go_sem, *])) CT.out))))
            refine wpQuiet_nil ?_
            rintro _ ⟨y0, rfl⟩
            go_wp2_with fail
            refine wp_region_extq (by kernel_rfl) (by kernel_rfl) ?_
            repeat (go_big_quiet_step ((go_at_call 38; exact Calls.extq (lit_of (before_any hb fid ls HL (at_ L (2 * a + 1 + 1)) x _ (by simp [go_sem, *]) (by simp [go_sem, *])) CB.out))))
            refine wpQuiet_nil ?_
            rintro _ ⟨y, rfl⟩
            go_wp2_with fail
            go_ret
            exact ⟨k, _, rfl, ⟨SK.out, .inr (by rw [DE.out, HX.out]; exact CB.out)⟩, own_low (own_ext y hown) (by omega), Ext.below KB.out (by omega) y⟩
          · have CB := Lib.hid cb
            clear cb
            go_wp2_with fail
            refine wp_region_ext (by kernel_rfl) (by kernel_rfl) ?_
            repeat (go_big_quiet_step ((go_at_call 38; exact Calls.extq (lit_of (before_any hb fid ls HL (at_ L (2 * a + 1 + 1)) (at_ L (2 * a + 1)) _ (by simp [go_sem, *]) (by simp [go_sem, *])) CT.out))))
            refine wpQuiet_nil ?_
            rintro _ ⟨y0, rfl⟩
            go_wp2_with fail
            refine wp_region_extq (by kernel_rfl) (by kernel_rfl) ?_
            repeat (go_big_quiet_step ((go_at_call 38; exact Calls.extq (lit_of (before_any hb fid ls HL (at_ L (2 * a + 1 + 1)) x _ (by simp [go_sem, *]) (by simp [go_sem, *])) CB.out))))
            refine wpQuiet_nil ?_
            rintro _ ⟨y, rfl⟩
            have ho := own_ext y hown
            go_wp2_with (at_builtin; refine wpList_append_own _ rfl (.tmp 54) (.tmp 56) 22 rfl V.heap.size 3 i0 (.int .i64 0) 1 8 Try.underlying22 hi hz0 hz1 hz2 rfl (by decide) _ _ _ rfl (ho.alloc _) ⟨World.heap y.w |>.size, 0, none⟩ 1 1 [.int .i64 ((2 * a + 1 + 1 : Nat) : Int)] rfl rfl (cell_one_new _ _ _) (by simp [Value.oneCell']) (by unfold maxLen; have := sink_le SK.out (by omega); omega) (by have := sink_le SK.out (by omega); omega) (by have := bV.size; have := y.h.size; rw [World.size_alloc]; omega) ?_; intro v' W' hown' hgrow _)
            have bW := grown_below y bV ho hgrow
            clear hgrow ho
            go_roundw
            case rel => exact ⟨k + 1, sink_succ SK.out DE.out (by omega) (by rw [HX.out]; exact CB.out), by rw [DE.out]; simp, by rw [pathV_succ, DE.out]; simpa using hown', bW⟩
            case measure => simp [intOf]; omega
      · have d1 : decide (2 * (a : Int) + 1 + 1 < (n : Int)) = false := by simp; omega
        have hd : cho (bfr ls) L n a = 2 * a + 1 := by rcases CH.out with h | h <;> omega
        have DE := Lib.hid (DS.out.trans hd)
        clear CH DS hd
        obtain ⟨e1, e2, e3⟩ := HC.out (2 * a + 1) (by omega)
        cases cb : bfr ls (at_ L (2 * a + 1)) x
        · have CB := Lib.hid cb
          clear cb
          go_wp2_with fail
          refine wp_region_ext (by kernel_rfl) (by kernel_rfl) ?_
          repeat (go_big_quiet_step (fail))
          refine wpQuiet_nil ?_
          rintro _ ⟨y0, rfl⟩
          go_wp2_with fail
          refine wp_region_extq (by kernel_rfl) (by kernel_rfl) ?_
          repeat (go_big_quiet_step ((go_at_call 38; exact Calls.extq (lit_of (before_any hb fid ls HL (at_ L (2 * a + 1)) x _ (by simp [go_sem, *]) (by simp [go_sem, *])) CB.out))))
          refine wpQuiet_nil ?_
          rintro _ ⟨y, rfl⟩
          go_wp2_with fail
          go_ret
          exact ⟨k, _, rfl, ⟨SK.out, .inr (by rw [DE.out, HX.out]; exact CB.out)⟩, own_low (own_ext y hown) (by omega), Ext.below KB.out (by omega) y⟩
        · have CB := Lib.hid cb
          clear cb
          go_wp2_with fail
          refine wp_region_ext (by kernel_rfl) (by kernel_rfl) ?_
          repeat (go_big_quiet_step (fail))
          refine wpQuiet_nil ?_
          rintro _ ⟨y0, rfl⟩
          go_wp2_with fail
          refine wp_region_extq (by kernel_rfl) (by kernel_rfl) ?_
          repeat (go_big_quiet_step ((go_at_call 38; exact Calls.extq (lit_of (before_any hb fid ls HL (at_ L (2 * a + 1)) x _ (by simp [go_sem, *]) (by simp [go_sem, *])) CB.out))))
          refine wpQuiet_nil ?_
          rintro _ ⟨y, rfl⟩
          have ho := own_ext y hown
          go_wp2_with (at_builtin; refine wpList_append_own _ rfl (.tmp 54) (.tmp 56) 22 rfl V.heap.size 3 i0 (.int .i64 0) 1 8 Try.underlying22 hi hz0 hz1 hz2 rfl (by decide) _ _ _ rfl (ho.alloc _) ⟨World.heap y.w |>.size, 0, none⟩ 1 1 [.int .i64 ((2 * a + 1 : Nat) : Int)] rfl rfl (cell_one_new _ _ _) (by simp [Value.oneCell']) (by unfold maxLen; have := sink_le SK.out (by omega); omega) (by have := sink_le SK.out (by omega); omega) (by have := bV.size; have := y.h.size; rw [World.size_alloc]; omega) ?_; intro v' W' hown' hgrow _)
          have bW := grown_below y bV ho hgrow
          clear hgrow ho
          go_roundw
          case rel => exact ⟨k + 1, sink_succ SK.out DE.out (by omega) (by rw [HX.out]; exact CB.out), by rw [DE.out]; simp, by rw [pathV_succ, DE.out]; simpa using hown', bW⟩
          case measure => simp [intOf]; omega

end Go.Proofs.Ytekdjjfbkcgmhaa
