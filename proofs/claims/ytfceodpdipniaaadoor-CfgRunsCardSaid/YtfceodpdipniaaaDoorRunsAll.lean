/-
  What is proved here: the statement CfgRuns: for every image, task, data, shared memory and input it returns true and leaves its input as it was; the tables of formats and of operators are as the program's text lays them.
-/
import Derived.Test.YtfceodpdipniaaaDoorCoRel
import Derived.Laws.MakeOwn
import Derived.Handy
import Derived.Test.YtfceodpdipniaaaDoorRowRes
import Derived.Laws.CopyOwn
import Derived.Test.YtfceodpdipniaaaDoorCgOut
import Derived.Test.YtfceodpdipniaaaDoorCgQ
import Derived.Test.YtfceodpdipniaaaDoorCgSoundP
import Derived.Test.YtfceodpdipniaaaDoorCgFrame
import Derived.Test.YtfceodpdipniaaaDoorCoStep0
import Derived.Test.YtfceodpdipniaaaDoorCoStep
import Derived.Test.YtfceodpdipniaaaDoorCgAwake
import Derived.Test.YtfceodpdipniaaaDoorCgOpen2
import Derived.Deep.WholeRow
import Derived.Deep.QuietTactic
import Derived.BigQuiet
import Derived.Test.YtfceodpdipniaaaDoorCards
import Derived.Test.YtfceodpdipniaaaDoorTie
namespace Go.Proofs.YtfceodpdipniaaaDoor
open Go.RowKit
set_option linter.unusedVariables false
set_option linter.unusedSimpArgs false

theorem infoW32 : (Tryd.prog.info? 21).map (fun i => (i.zero, i.size, i.bytes)) = some (some (.int .i32 0), 1, 4) := by kernel_rfl
theorem setRow_same (w : World) (g : Nat) (t : TypeId) (c : Array Value) {old : Array Value} (h : w.heap[g]? = some (.cells old t (0, 0))) : (w.setRow g c).heap[g]? = some (.cells c t (0, 0)) := by
  simp [World.setRow, Array.getElem?_modify, h]
theorem setRow_fr (w : World) (g : Nat) (c : Array Value) : Fr (· = g) w (w.setRow g c) :=
  ⟨rfl, rfl, rfl, by simp [World.setRow], fun k h1 h2 => by simp [World.setRow, Array.getElem?_modify]; intro e; exact absurd e.symm h2⟩
/-- The zero registers. -/
abbrev zregs : List Value := [.int .i32 0, .int .i32 0, .int .i32 0, .int .i32 0, .int .i32 0, .int .i32 0, .int .i32 0, .int .i32 0, .int .i32 0, .int .i32 0, .int .i32 0, .int .i32 0, .int .i32 0, .int .i32 0, .int .i32 0, .int .i32 0]
theorem made_row (w : World) (n : Nat) (hn : n ≤ 512) : (w.alloc (.cells (madeCells (Value.int .i32 0).cells (n * 1)) 21)).ownsRow 0 21 1 (.slice (some ⟨w.heap.size, 0, none⟩) n n) n (i32s (List.replicate n 0)) := by
  have hs : madeCells (Value.int .i32 0).cells (n * 1) = (List.replicate n (Value.int .i32 0)).toArray := by
    rw [Nat.mul_one]
    apply Array.ext
    · simp [madeCells]
    · intro i h1 h2
      simp [madeCells, Value.cells, Nat.mod_one]
  refine ⟨by simp, .inr ⟨w.heap.size, n, _, rfl, Nat.zero_le _, heap_alloc_new w _, Nat.le_refl _, by unfold maxLen; omega, by rw [hs]; simp, ?_⟩⟩
  rw [hs]
  simp [i32s]
set_option maxRecDepth 20000 in
set_option maxHeartbeats 4000000 in
theorem new_any (cv ev : Value) (sh lk : Int) (ents : List Ent) (k : Nat) (e : Ent) (w : World) (HE : Ents w ev ents) (he : ents[k]? = some e) (h0 : 0 ≤ e.da) (h1 : e.da ≤ 512) :
    Calls Tryd.prog 32 #[.agg #[cv, ev, .int .i64 sh, .int .i64 lk], .int .i64 (k : Int)] w fun x w' => (∃ g, x = .returned (.tuple #[.agg #[.int .i64 e.st, .int .i32 0, .int .i32 0, .int .i32 0, .int .i32 0, .int .i32 0, .int .i32 0, .int .i32 0, .int .i32 0, .int .i32 0, .int .i32 0, .int .i32 0, .int .i32 0, .int .i32 0, .int .i32 0, .int .i32 0, .int .i32 0, .slice (some ⟨g, 0, none⟩) e.da.toNat e.da.toNat, .bool false, .int .i64 (-1)], .int .i64 0]) ∧ w.heap.size ≤ g ∧ w'.ownsRow 0 21 1 (.slice (some ⟨g, 0, none⟩) e.da.toNat e.da.toNat) e.da.toNat (i32s (List.replicate e.da.toNat 0))) ∧ Below w.heap.size w w' := by
  have hk := (List.getElem?_eq_some_iff.1 he).1
  obtain ⟨EA, ecap, hev, he1, he2, hed⟩ := HE.at_
  obtain ⟨eb, eoff, rfl, hbl, hc⟩ := hed (by omega)
  obtain ⟨e0, e1, e2, e3⟩ := hc k e he
  subst hev
  obtain ⟨nm, st, en, da⟩ := e
  simp only at e0 e1 e2 e3 h0 h1 ⊢
  obtain ⟨n, rfl⟩ : ∃ n : Nat, da = (n : Int) := ⟨da.toNat, by omega⟩
  rw [Int.toNat_natCast]
  obtain ⟨W, hW⟩ : ∃ W, (w.alloc (.cells #[cv, .slice (some ⟨eb, eoff, none⟩) ents.length ecap, .int .i64 sh, .int .i64 lk] 25)).alloc (.cells #[.int .i64 0, .int .i32 0, .int .i32 0, .int .i32 0, .int .i32 0, .int .i32 0, .int .i32 0, .int .i32 0, .int .i32 0, .int .i32 0, .int .i32 0, .int .i32 0, .int .i32 0, .int .i32 0, .int .i32 0, .int .i32 0, .int .i32 0, .slice none 0 0, .bool false, .int .i64 0] 77) = W := ⟨_, rfl⟩
  have b0 : Below w.heap.size w W := hW ▸ ((Below.refl _ _).alloc (Nat.le_refl _) _).alloc (by simp) _
  have d1 : decide ((k : Int) < 0) = false := decide_eq_false (by omega)
  have d2 : decide ((ents.length : Int) ≤ (k : Int)) = false := decide_eq_false (by omega)
  have d3 : decide (ents.length ≤ k) = false := decide_eq_false (by omega)
  have d4 : decide ((n : Int) < 0) = false := decide_eq_false (by omega)
  have d5 : decide ((512 : Int) < (n : Int)) = false := decide_eq_false (by omega)
  have d6 : decide (512 < n) = false := decide_eq_false (by omega)
  go_enter Tryd.func32, Tryd.ntmps32
  go_upto_region 1 with fail
  have kS : W.heap[w.heap.size + 1]? = some (.cells #[.int .i64 0, .int .i32 0, .int .i32 0, .int .i32 0, .int .i32 0, .int .i32 0, .int .i32 0, .int .i32 0, .int .i32 0, .int .i32 0, .int .i32 0, .int .i32 0, .int .i32 0, .int .i32 0, .int .i32 0, .int .i32 0, .int .i32 0, .slice none 0 0, .bool false, .int .i64 0] 77) := by rw [← hW]; exact heap_alloc_at _ _ (by simp)
  have kI : W.heap[w.heap.size]? = some (.cells #[cv, .slice (some ⟨eb, eoff, none⟩) ents.length ecap, .int .i64 sh, .int .i64 lk] 25) := by rw [← hW, heap_alloc_old _ _ (by simp)]; exact heap_alloc_new _ _
  have sW : W.heap.size = w.heap.size + 2 := by rw [← hW]; simp
  have y1 : W.cell? ⟨w.heap.size, 1, none⟩ = some (.slice (some ⟨eb, eoff, none⟩) ents.length ecap) := by simp [World.cell?, kI]
  have E0 : W.cell? ⟨eb, eoff + k * 4, none⟩ = some (.string nm) := by rw [b0.cell (p := ⟨eb, _, none⟩) hbl]; exact e0
  have E1 : W.cell? ⟨eb, eoff + k * 4 + 1, none⟩ = some (.int .i64 st) := by rw [b0.cell (p := ⟨eb, _, none⟩) hbl]; exact e1
  have E2 : W.cell? ⟨eb, eoff + k * 4 + 2, none⟩ = some (.int .i64 en) := by rw [b0.cell (p := ⟨eb, _, none⟩) hbl]; exact e2
  have E3 : W.cell? ⟨eb, eoff + k * 4 + 3, none⟩ = some (.int .i64 (n : Int)) := by rw [b0.cell (p := ⟨eb, _, none⟩) hbl]; exact e3
  have leb : eb < W.heap.size := by omega
  have SW := Lib.hid sW
  have lw : w.heap.size < W.heap.size := by omega
  have B0 := Lib.hid b0
  have KS := Lib.hid kS
  have hki : (k : Int) < (ents.length : Int) := by omega
  clear sW hW hed hc e0 e1 e2 e3 HE he kS kI b0
  obtain ⟨X, hX⟩ : ∃ X, W.alloc (.cells #[.string nm, .int .i64 st, .int .i64 en, .int .i64 (n : Int)] 39) = X := ⟨_, rfl⟩
  go_upto_region 4 with fail
  try rw [hX]
  have bX : Below W.heap.size W X := hX ▸ (Below.refl _ _).alloc (Nat.le_refl _) _
  have kX : X.heap[W.heap.size]? = some (.cells #[.string nm, .int .i64 st, .int .i64 en, .int .i64 (n : Int)] 39) := hX ▸ heap_alloc_new _ _
  have sX : X.heap.size = W.heap.size + 1 := by rw [← hX]; simp
  have sW := SW.out
  obtain ⟨xb, hxb⟩ : ∃ xb, W.heap.size = xb := ⟨_, rfl⟩
  obtain ⟨rb, hrb⟩ : ∃ rb, w.heap.size + 1 = rb := ⟨_, rfl⟩
  rw [hxb] at kX sX
  try rw [hxb]
  try rw [hrb]
  rw [hrb] at KS
  obtain ⟨i1, hi, hz0, hz1, hz2⟩ := info_parts infoW32
  have hr := run_make (P := Tryd.prog) X.drew 74 21 i1 _ Tryd.underlying74 hi hz0 .i64 .i64 (n : Int) (n : Int) (by omega) (Int.le_refl _) (by rw [hz2]; omega) (by omega)
  have sXr : xb < X.heap.size ∧ rb < X.heap.size := by omega
  obtain ⟨lx, lr⟩ := sXr
  rw [hz1, Int.toNat_natCast] at hr
  obtain ⟨Z, hZ⟩ : ∃ Z, X.drew.alloc (.cells (madeCells (Value.int .i32 0).cells (n * 1)) 21) = Z := ⟨_, rfl⟩
  have bZ : Below X.heap.size X Z := hZ ▸ ((Below.drew (Below.refl _ _)).alloc (by simp) _)
  have kZ : Z.heap[rb]? = some (.cells #[.int .i64 0, .int .i32 0, .int .i32 0, .int .i32 0, .int .i32 0, .int .i32 0, .int .i32 0, .int .i32 0, .int .i32 0, .int .i32 0, .int .i32 0, .int .i32 0, .int .i32 0, .int .i32 0, .int .i32 0, .int .i32 0, .int .i32 0, .slice none 0 0, .bool false, .int .i64 0] 77) := by rw [bZ.block _ (by omega), bX.block _ (by omega)]; exact KS.out
  have kZx : Z.heap[xb]? = some (.cells #[.string nm, .int .i64 st, .int .i64 en, .int .i64 (n : Int)] 39) := by rw [bZ.block _ (by omega)]; exact kX
  have HRO := Lib.hid (show Z.ownsRow 0 21 1 (.slice (some ⟨X.heap.size, 0, none⟩) n n) n (i32s (List.replicate n 0)) from by rw [← hZ]; exact made_row X.drew n (by omega))
  rw [hZ] at hr
  clear hX hZ
  have lx' : xb < Z.heap.size := by have := bZ.size; omega
  have lr' : rb < Z.heap.size := by have := bZ.size; omega
  have HXS := Lib.hid (show rb < X.heap.size ∧ w.heap.size ≤ rb ∧ W.heap.size ≤ X.heap.size ∧ w.heap.size ≤ W.heap.size from by omega)
  have BX := Lib.hid bX
  have BZ := Lib.hid bZ
  have KZ := Lib.hid kZ
  have q1 : X.cell? ⟨xb, 1, none⟩ = some (.int .i64 st) := by simp [World.cell?, kX]
  have q3 : X.cell? ⟨xb, 3, none⟩ = some (.int .i64 (n : Int)) := by simp [World.cell?, kX]
  have q1' : Z.cell? ⟨xb, 1, none⟩ = some (.int .i64 st) := by simp [World.cell?, kZx]
  obtain ⟨Z2, hZ2⟩ : ∃ Z2, Z.setRow rb #[.int .i64 st, .int .i32 0, .int .i32 0, .int .i32 0, .int .i32 0, .int .i32 0, .int .i32 0, .int .i32 0, .int .i32 0, .int .i32 0, .int .i32 0, .int .i32 0, .int .i32 0, .int .i32 0, .int .i32 0, .int .i32 0, .int .i32 0, .slice (some ⟨X.heap.size, 0, none⟩) n n, .bool false, .int .i64 (-1)] = Z2 := ⟨_, rfl⟩
  have hs1 := run_storeVar_row (P := Tryd.prog) Z rb 77 77 _ #[.int .i64 st, .int .i32 0, .int .i32 0, .int .i32 0, .int .i32 0, .int .i32 0, .int .i32 0, .int .i32 0, .int .i32 0, .int .i32 0, .int .i32 0, .int .i32 0, .int .i32 0, .int .i32 0, .int .i32 0, .int .i32 0, .int .i32 0, .slice (some ⟨X.heap.size, 0, none⟩) n n, .bool false, .int .i64 (-1)] kZ (by kernel_rfl) rfl (by simp [Value.oneCell'])
  have hs2 := run_storeAt_mid (P := Tryd.prog)
  rw [hZ2] at hs1
  obtain ⟨vS, hV⟩ : ∃ vS, Value.agg #[.int .i64 st, .int .i32 0, .int .i32 0, .int .i32 0, .int .i32 0, .int .i32 0, .int .i32 0, .int .i32 0, .int .i32 0, .int .i32 0, .int .i32 0, .int .i32 0, .int .i32 0, .int .i32 0, .int .i32 0, .int .i32 0, .int .i32 0, .slice (some ⟨X.heap.size, 0, none⟩) n n, .bool false, .int .i64 (-1)] = vS := ⟨_, rfl⟩
  have hvc : vS.cells.size = 20 := by rw [← hV]; rfl
  have hs4 : (storeCells ⟨rb, 0, none⟩ vS.cells.toList).run Tryd.prog Z = .ok () Z2 := by
    rw [← hV, ← hZ2]
    exact run_storeCells_from (P := Tryd.prog) rb 77 #[.int .i64 st, .int .i32 0, .int .i32 0, .int .i32 0, .int .i32 0, .int .i32 0, .int .i32 0, .int .i32 0, .int .i32 0, .int .i32 0, .int .i32 0, .int .i32 0, .int .i32 0, .int .i32 0, .int .i32 0, .int .i32 0, .int .i32 0, .slice (some ⟨X.heap.size, 0, none⟩) n n, .bool false, .int .i64 (-1)].toList 0 _ Z kZ rfl (by simp [Value.oneCell'])
  clear hs2 hs1
  unfold Value.cells at hvc hs4
  have kZ2 : Z2.heap[rb]? = some (.cells #[.int .i64 st, .int .i32 0, .int .i32 0, .int .i32 0, .int .i32 0, .int .i32 0, .int .i32 0, .int .i32 0, .int .i32 0, .int .i32 0, .int .i32 0, .int .i32 0, .int .i32 0, .int .i32 0, .int .i32 0, .int .i32 0, .int .i32 0, .slice (some ⟨X.heap.size, 0, none⟩) n n, .bool false, .int .i64 (-1)] 77 (0, 0)) := by rw [← hZ2]; exact setRow_same Z rb _ _ kZ
  have FZ2 := Lib.hid (show Fr (· = rb) Z Z2 from by rw [← hZ2]; exact setRow_fr Z rb _)
  have KZ2 := Lib.hid kZ2
  have z0 : Z2.cell? ⟨rb, 0, none⟩ = some (.int .i64 st) := by simp [World.cell?, kZ2]
  have z1 : Z2.cell? ⟨rb, 1, none⟩ = some (.int .i32 0) := by simp [World.cell?, kZ2]
  have z2 : Z2.cell? ⟨rb, 2, none⟩ = some (.int .i32 0) := by simp [World.cell?, kZ2]
  have z3 : Z2.cell? ⟨rb, 3, none⟩ = some (.int .i32 0) := by simp [World.cell?, kZ2]
  have z4 : Z2.cell? ⟨rb, 4, none⟩ = some (.int .i32 0) := by simp [World.cell?, kZ2]
  have z5 : Z2.cell? ⟨rb, 5, none⟩ = some (.int .i32 0) := by simp [World.cell?, kZ2]
  have z6 : Z2.cell? ⟨rb, 6, none⟩ = some (.int .i32 0) := by simp [World.cell?, kZ2]
  have z7 : Z2.cell? ⟨rb, 7, none⟩ = some (.int .i32 0) := by simp [World.cell?, kZ2]
  have z8 : Z2.cell? ⟨rb, 8, none⟩ = some (.int .i32 0) := by simp [World.cell?, kZ2]
  have z9 : Z2.cell? ⟨rb, 9, none⟩ = some (.int .i32 0) := by simp [World.cell?, kZ2]
  have z10 : Z2.cell? ⟨rb, 10, none⟩ = some (.int .i32 0) := by simp [World.cell?, kZ2]
  have z11 : Z2.cell? ⟨rb, 11, none⟩ = some (.int .i32 0) := by simp [World.cell?, kZ2]
  have z12 : Z2.cell? ⟨rb, 12, none⟩ = some (.int .i32 0) := by simp [World.cell?, kZ2]
  have z13 : Z2.cell? ⟨rb, 13, none⟩ = some (.int .i32 0) := by simp [World.cell?, kZ2]
  have z14 : Z2.cell? ⟨rb, 14, none⟩ = some (.int .i32 0) := by simp [World.cell?, kZ2]
  have z15 : Z2.cell? ⟨rb, 15, none⟩ = some (.int .i32 0) := by simp [World.cell?, kZ2]
  have z16 : Z2.cell? ⟨rb, 16, none⟩ = some (.int .i32 0) := by simp [World.cell?, kZ2]
  have z17 : Z2.cell? ⟨rb, 17, none⟩ = some (.slice (some ⟨X.heap.size, 0, none⟩) n n) := by simp [World.cell?, kZ2]
  have z18 : Z2.cell? ⟨rb, 18, none⟩ = some (.bool false) := by simp [World.cell?, kZ2]
  have z19 : Z2.cell? ⟨rb, 19, none⟩ = some (.int .i64 (-1)) := by simp [World.cell?, kZ2]
  clear kZ2 hZ2 sX sW hxb hrb bX bZ kX kZ kZx E0 E1 E2 E3 y1 hz0 hz1 hz2 hi
  go_upto_region 6 with fail
  go_region
  all_goals
    clear hr hvc hs4 q1 q3 q1'
    have HV := Lib.hid hV
    clear z0 z1 z2 z3 z4 z5 z6 z7 z8 z9 z10 z11 z12 z13 z14 z15 z16 z17 z18 z19
    go_wp2_with fail
    refine bodyPost_ret (results_cell_tmp (P := Tryd.prog) Tryd.results32 _ Z2 rb [.int .i64 st, .int .i32 0, .int .i32 0, .int .i32 0, .int .i32 0, .int .i32 0, .int .i32 0, .int .i32 0, .int .i32 0, .int .i32 0, .int .i32 0, .int .i32 0, .int .i32 0, .int .i32 0, .int .i32 0, .int .i32 0, .int .i32 0, .slice (some ⟨X.heap.size, 0, none⟩) n n, .bool false, .int .i64 (-1)] _ rfl (rangeAt_block KZ2.out) Tryd.underlying77 rfl (by kernel_rfl)) rfl ?_
    refine ⟨⟨X.heap.size, ?_, by have := HXS.out; omega, FZ2.out.own HRO.out (fun q hq e => by have := HXS.out; simp [Value.ownBlock] at hq; omega)⟩, B0.out.trans ((BX.out.mono (by have := HXS.out; omega)).trans ((BZ.out.mono (by have := HXS.out; omega)).trans (FZ2.out.below (by have := HXS.out; have := BZ.out.size; omega) (fun q hq => by have := HXS.out; omega))))⟩
    first | rfl | (rw [← HV.out]) | trace_state

end Go.Proofs.YtfceodpdipniaaaDoor

namespace Go.Proofs.YtfceodpdipniaaaDoor
open Go.RowKit
set_option linter.unusedVariables false
set_option linter.unusedSimpArgs false

/-- A slice of words that came in. -/
structure I32s (w : World) (v : Value) (l : List Int) : Prop where
  wd : ∀ x ∈ l, W32 x
  at_ : ∃ A cap, v = .slice A l.length cap ∧ l.length ≤ cap ∧ cap ≤ maxLen ∧ (0 < l.length → ∃ b off, A = some ⟨b, off, none⟩ ∧ b < w.heap.size ∧ ∀ i, i < l.length → w.cell? ⟨b, off + i, none⟩ = some (.int .i32 (l.getD i 0)))
theorem I32s.later {w w' : World} {v : Value} {l : List Int} {S : Nat → Prop} (h : I32s w v l) (f : Fr S w w') (hS : ∀ k, k < w.heap.size → ¬ S k) : I32s w' v l := by
  obtain ⟨A, cap, h1, h2, h3, h4⟩ := h.at_
  refine ⟨h.wd, A, cap, h1, h2, h3, fun h0 => ?_⟩
  obtain ⟨b, off, ha, hlt, hc⟩ := h4 h0
  exact ⟨b, off, ha, Nat.lt_of_lt_of_le hlt f.size, fun i hi => (f.cell _ hlt (hS b hlt)).trans (hc i hi)⟩
theorem I32s.below {w w' : World} {v : Value} {l : List Int} (h : I32s w v l) (hb : Below w.heap.size w w') : I32s w' v l := h.later (S := fun _ => False) (Fr.of hb) (fun _ _ h => h)
theorem addAt' (b off j : Nat) : (⟨b, off, none⟩ : Addr).add j = ⟨b, off + j, none⟩ := by cases j <;> simp [Addr.add]
theorem wpList_copy_words {w : World} {ops : Array Oper} {rest : List Oper} {o : Oper} {a : Act} {Q : Exit → Act → World → Prop} (hgd : o.guard = none) (d s : Operand)
    (ho : o.op = .call { callee := .builtin .copy, args := #[d, s], argTypes := #[74, 74] }) (g n cap : Nat) (ml : List Int) (l : List Int) (sv : Value)
    (hd : a.eval d = .slice (some ⟨g, 0, none⟩) n cap) (hs : a.eval s = sv) (hr : w.ownsRow 0 21 1 (.slice (some ⟨g, 0, none⟩) n cap) n (i32s ml)) (hm : ∀ x ∈ ml, W32 x) (hl : I32s w sv l)
    (h : ∀ (w' : World) (ml' : List Int) (k : Int), ml'.length = ml.length → (∀ x ∈ ml', W32 x) → w'.ownsRow 0 21 1 (.slice (some ⟨g, 0, none⟩) n cap) n (i32s ml') → Fr (· = g) w w' → wpList Tryd.prog ops Q rest (a.put o.dst (.int .i64 k)) w') :
    wpList Tryd.prog ops Q (o :: rest) a w := by
  obtain ⟨A, c, rfl, h1, h2, h3⟩ := hl.at_
  have hml : ml.length = n := by have := hr.1; simpa using this
  obtain ⟨m, hmm⟩ : ∃ m, Nat.min l.length n = m := ⟨_, rfl⟩
  have hmin : m ≤ n := hmm ▸ Nat.min_le_right _ _
  have hmin2 : m ≤ l.length := hmm ▸ Nat.min_le_left _ _
  by_cases h0 : m = 0
  · refine wpList_copy_nothing hgd d s _ _ ho 21 Tryd.underlying74 (by kernel_rfl) _ _ _ _ _ _ hd hs (by rw [hmm]; exact h0) ?_
    exact h w ml 0 rfl hm hr (Fr.refl _ _)
  · obtain ⟨b, off, rfl, hb, hc⟩ := h3 (by omega)
    rcases hr.2 with ⟨h, _⟩ | ⟨g', cap', cur, hv, hb0, hg, hn, hcm, hsz, htk⟩
    · cases h
    · cases hv
      have hcl : (i32s (l.take m)).length = m := by simp; omega
      refine wpList_copy_own hgd d s _ _ ho 21 Tryd.underlying74 (by kernel_rfl) g 0 n cap ⟨b, off, none⟩ l.length c hd hs cur 21 hg (i32s (l.take m)) (by rw [hcl, hmm]) (fun j v hv => ?_) (by rw [hcl]; omega) (fun v hv => by obtain ⟨x, _, rfl⟩ := List.mem_map.1 hv; rfl) ?_
      · have hj : j < m := by have := (List.getElem?_eq_some_iff.1 hv).1; omega
        rw [addAt', hc j (by omega), ← hv]
        simp [i32s, List.getElem?_take, hj, List.getElem?_map, List.getD, List.getElem?_eq_getElem (show j < l.length by omega)]
      · refine h _ (l.take m ++ ml.drop m) _ (by simp; omega) (fun x hx => ?_) ?_ ?_
        · rcases List.mem_append.1 hx with hx | hx
          · exact hl.wd x (List.mem_of_mem_take hx)
          · exact hm x (List.mem_of_mem_drop hx)
        · refine ⟨by simp; omega, .inr ⟨g, cap, _, rfl, Nat.zero_le _, setRow_heap w g _ _ _ _ hg, hn, hcm, ?_, ?_⟩⟩
          · simp; omega
          · simp only [List.take_zero, List.nil_append, Nat.zero_add]
            rw [hcl, List.take_append, hcl, List.take_of_length_le (by rw [hcl]; omega), ← List.drop_take, htk]
            simp [i32s, List.map_drop]
        · exact ⟨rfl, rfl, rfl, by simp [World.setRow], fun k h1 h2 => setRow_other w g k _ h2⟩

end Go.Proofs.YtfceodpdipniaaaDoor

namespace Go.Proofs.YtfceodpdipniaaaDoor
open Go.RowKit
set_option linter.unusedVariables false
set_option linter.unusedSimpArgs false

set_option maxHeartbeats 1000000 in
theorem runsFn_any (x q : Int) (nb ib : Nat) (iv : Value) (il : List Int) (w0 W : World) (HI : I32s w0 iv il) (hl : il.length ≤ 100) (hb : Below w0.heap.size w0 W) (hnb : w0.heap.size ≤ nb) (hq0 : 0 ≤ q) (hq1 : q ≤ 1000000)
    (hn : W.heap[nb]? = some (.cells #[.int .i64 q] 3 (0, 0))) (hi : W.cell? ⟨ib, 0, none⟩ = some iv) (hlt : ib < W.heap.size) (hne : nb ≠ ib) :
    Calls Tryd.prog 33 #[.int .i64 x, .pointer (some ⟨nb, 0, none⟩), .pointer (some ⟨ib, 0, none⟩)] W fun e w' => (∃ v, W32 v ∧ e = .returned (.int .i32 v)) ∧ Fr (· = nb) W w' ∧ w'.heap[nb]? = some (.cells #[.int .i64 (q + 1)] 3 (0, 0)) := by
  obtain ⟨A, cap, rfl, h1, h2, h3⟩ := HI.at_
  have HWD := Lib.hid HI.wd
  have n0 : W.cell? ⟨nb, 0, none⟩ = some (.int .i64 q) := by simp [World.cell?, hn]
  have nf : W.frozen? ⟨nb, 0, none⟩ = false := by simp [World.frozen?, hn]
  have ln := lt_of_blk' hn
  have HN := Lib.hid hn
  have HF := Lib.hid (show Fr (· = nb) W (W.setCell ⟨nb, 0, none⟩ (.int .i64 (q + 1))) ∧ (W.setCell ⟨nb, 0, none⟩ (.int .i64 (q + 1))).heap[nb]? = some (.cells #[.int .i64 (q + 1)] 3 (0, 0)) from
    ⟨(Fr.refl (· = nb) W).set _ (.inl rfl), by rw [heap_setCell_same W nb 0 _ _ _ hn]; rfl⟩)
  have wq : IntKind.i64.wrap (q + 1) = q + 1 := IntWalk.i64_in _ (by omega)
  have wq2 : IntKind.i64.wrap (q + 1 - 1) = q := by rw [show q + 1 - 1 = q by omega]; exact IntWalk.i64_in _ (by omega)
  have wq3 : IntKind.i64.wrap q = q := IntWalk.i64_in _ (by omega)
  clear hn HI
  by_cases hgt : (il.length : Int) < q + 1
  · have d := decide_eq_true hgt
    clear h3 hgt
    go_enter Tryd.func33, Tryd.ntmps33
    go_wp2
    go_ret
    exact ⟨⟨0, by unfold W32; omega, rfl⟩, HF.out⟩
  · have d := decide_eq_false hgt
    obtain ⟨k, rfl⟩ : ∃ k : Nat, q = (k : Int) := ⟨q.toNat, by omega⟩
    obtain ⟨b, off, rfl, hbb, hc⟩ := h3 (by omega)
    have c0 : W.cell? ⟨b, off + k, none⟩ = some (.int .i32 (il.getD k 0)) := by rw [hb.cell (p := ⟨b, off + k, none⟩) hbb]; exact hc k (by omega)
    have hbn : nb ≠ b := by omega
    have HGT := Lib.hid (show k < il.length by omega)
    have g1 : (k : Int) < (il.length : Int) := by omega
    have g2 : decide ((il.length : Int) ≤ (k : Int)) = false := decide_eq_false (by omega)
    have lb : b < W.heap.size := by have := hb.size; omega
    have hv : W32 (il.getD k 0) := by
      have e : il.getD k 0 = il[k]'HGT.out := by simp [List.getD, List.getElem?_eq_getElem HGT.out]
      rw [e]
      exact HWD.out _ (List.getElem_mem _)
    obtain ⟨v, hve⟩ : ∃ v, il.getD k 0 = v := ⟨_, rfl⟩
    rw [hve] at c0 hv
    clear h3 hc hgt hve
    go_enter Tryd.func33, Tryd.ntmps33
    go_wp2
    go_ret
    exact ⟨⟨v, hv, rfl⟩, HF.out⟩

/-- What the count may be. -/
def RunCnt (nb : Nat) (q : Int) (W : World) : Prop := ∃ q', 0 ≤ q' ∧ q' ≤ q + 1 ∧ W.heap[nb]? = some (.cells #[.int .i64 q'] 3 (0, 0))
theorem runs_port {w0 w : World} {nb ib : Nat} {q : Int} {iv : Value} {il : List Int} (HI : I32s w0 iv il) (hl : il.length ≤ 100) (hb : Below w0.heap.size w0 w) (hnb : w0.heap.size ≤ nb) (hq0 : 0 ≤ q) (hq1 : q ≤ 1000000)
    (hn : w.heap[nb]? = some (.cells #[.int .i64 q] 3 (0, 0))) (hi : w.cell? ⟨ib, 0, none⟩ = some iv) (hlt : ib < w.heap.size) (hne : nb ≠ ib) :
    Port w (.func (.func 33) #[] #[.pointer (some ⟨nb, 0, none⟩), .pointer (some ⟨ib, 0, none⟩)]) (· = nb) (RunCnt nb q) := by
  refine ⟨fun k hk => by have h9 : k = nb := hk; have := lt_of_blk' hn; omega, fun S W W' ⟨q', h1, h2, h3⟩ f hs => ⟨q', h1, h2, (f.block nb (lt_of_blk' h3) (hs nb rfl)).trans h3⟩, .inr ⟨_, _, rfl, fun _ _ => by kernel_rfl, fun _ => by kernel_rfl, fun x W hW => ?_⟩⟩
  refine (runsFn_any x q nb ib iv il w0 W HI hl (hb.trans (hW.mono hb.size)) hnb hq0 hq1 ((hW.block nb (lt_of_blk' hn)).trans hn) ((hW.cell (p := ⟨ib, 0, none⟩) hlt).trans hi) (Nat.lt_of_lt_of_le hlt hW.size) hne).mono fun e w' ⟨⟨v, h1, h2⟩, h3, h4⟩ => ⟨v, h1, h2, h3, q + 1, by omega, Int.le_refl _, h4⟩

end Go.Proofs.YtfceodpdipniaaaDoor

namespace Go.Proofs.YtfceodpdipniaaaDoor
open Go.RowKit
set_option linter.unusedVariables false
set_option linter.unusedSimpArgs false

/-- Behind an instruction: it has halted, or the next one is a successor. -/
theorem StepOk.next {I : Ins} {lk : Int} {s : St} {dl sl : List Int} {nx : Int} {s' : St} {dl' sl' : List Int} (h : StepOk I lk s dl sl nx s' dl' sl') (hh : s.hal = false) (ho : 0 ≤ I.op) :
    (s'.hal = true ∧ I.op = 1) ∨ (s'.hal = false ∧ I.op ≠ 1 ∧ nx ∈ succI I s.pc ∧ (isBr I.op = false → nx = s.pc + 1)) := by
  have plain : I.op ≠ 1 → isBr I.op = false → s.pc + 1 ∈ succI I s.pc := fun h1 h2 => by
    unfold succI
    unfold isBr at h2
    simp only [Bool.or_eq_false_iff, decide_eq_false_iff_not] at h2
    rw [if_neg h1, if_neg h2.2, if_neg (by omega)]
    simp
  cases h with
  | plain h => exact .inr ⟨hh, by omega, plain (by omega) (by unfold isBr; simp; omega), fun _ => rfl⟩
  | set v h =>
    have : I.op ≠ 1 ∧ ¬ (I.op = 22 ∨ I.op = 23 ∨ I.op = 24) := by rcases h with h | h | h | h | h | h | h | h <;> omega
    exact .inr ⟨hh, this.1, plain this.1 (by unfold isBr; simp; omega), fun _ => rfl⟩
  | st h => exact .inr ⟨hh, by omega, plain (by omega) (by unfold isBr; simp; omega), fun _ => rfl⟩
  | sts h => exact .inr ⟨hh, by omega, plain (by omega) (by unfold isBr; simp; omega), fun _ => rfl⟩
  | br h =>
    have hb := h
    unfold isBr at hb
    simp only [Bool.or_eq_true, decide_eq_true_eq] at hb
    refine .inr ⟨hh, by omega, ?_, fun e => by rw [h] at e; cases e⟩
    unfold succI
    rw [if_neg (by omega)]
    by_cases h24 : I.op = 24
    · rw [if_pos h24, if_pos (by unfold taken; simp [h24])]
      simp
    · rw [if_neg h24, if_pos (by omega)]
      split <;> simp
  | lock h => exact .inr ⟨hh, by omega, plain (by omega) (by unfold isBr; simp; omega), fun _ => rfl⟩
  | unlock h => exact .inr ⟨hh, by omega, plain (by omega) (by unfold isBr; simp; omega), fun _ => rfl⟩
  | halt h => exact .inl ⟨rfl, h⟩
section
variable {c : Int → Ins} {st en : Int} {D : List Int}
/-- The block that an instruction lies in. -/
structure At (c : Int → Ins) (D : List Int) (L : List (Int × Int)) (pc : Int) (b : Nat) : Prop where
  lt : b < L.length
  lo : (L[b]).1 ≤ pc
  hi : pc < (L[b]).2
  mem : pc ∈ D
theorem find_first {L : List (Int × Int)} (h : GInv c st en D L) {b : Nat} (hb : b < L.length) : findB (gBlks c L) (L[b]).1 = some b := by
  have hlo := h.b.lo _ (List.getElem_mem hb)
  refine findB_some (gBlks_at c L hb) ⟨Int.le_refl _, hlo.2.1⟩ (fun y hy => ?_)
  obtain ⟨i, hi, e⟩ := List.getElem_of_mem hy
  rw [List.getElem_take] at e
  have hib : i < b := by simp at hi; omega
  have hiL : i < L.length := by omega
  have hx := gBlks_at c L hiL
  have he : (gBlks c L)[i]? = some y := by rw [List.getElem?_eq_getElem (by rw [gBlks_len]; exact hiL), e]
  rw [hx] at he
  cases he
  rintro ⟨h1, h2⟩
  have := (List.pairwise_iff_getElem.1 h.b.ordd) i b hiL hb hib
  simp only at h1 h2
  omega
/-- The next instruction, behind one that does not halt. -/
theorem At.step {L : List (Int × Int)} (hL : blk c st D (en - st).toNat = L) (h : GInv c st en D L) {pc : Int} {b : Nat} (ha : At c D L pc b) {nx : Int} (ho : (c pc).op ≠ 1) (hn : nx ∈ succI (c pc) pc) (hp : isBr (c pc).op = false → nx = pc + 1) :
    (pc < (L[b]'ha.lt).2 - 1 → nx = pc + 1 ∧ At c D L nx b) ∧
    (pc = (L[b]'ha.lt).2 - 1 → ∃ k : Nat, k < L.length ∧ (L.getD k (0, 0)).1 = nx ∧ findB (gBlks c L) nx = some k ∧ (k : Int) ∈ nextOf c L b ∧ At c D L nx k) := by
  subst hL
  have hlt := ha.lt
  refine ⟨fun hlt' => ?_, fun he => ?_⟩
  · have hin := h.inn (List.getElem_mem hlt) (x := pc + 1) (by have := ha.lo; omega) (by omega)
    have hbr := hin.2.br
    rw [show pc + 1 - 1 = pc by omega] at hbr
    have e := hp hbr
    subst e
    exact ⟨rfl, hlt, by have := ha.lo; omega, by omega, hin.1⟩
  · have hn' : nx ∈ succI (c ((blk c st D (en - st).toNat)[b].2 - 1)) ((blk c st D (en - st).toNat)[b].2 - 1) := by rw [← he]; exact hn
    obtain ⟨hD, q, hq, e⟩ := h.succ (List.getElem_mem hlt) hn'
    obtain ⟨k, hk, e2⟩ := List.getElem_of_mem hq
    have e3 : ((blk c st D (en - st).toNat)[k]).1 = nx := by rw [e2]; exact e
    refine ⟨k, hk, by simp [List.getD, List.getElem?_eq_getElem hk, e3], by rw [← e3]; exact find_first h hk, ?_, hk, by rw [e3]; exact Int.le_refl _, by have := h.b.lo _ (List.getElem_mem hk); omega, hD⟩
    unfold nextOf
    rw [mem_nxl]
    refine ⟨nx, ?_, ?_⟩
    · have hla : lastI (blk c st D (en - st).toNat) b = (blk c st D (en - st).toNat)[b].2 - 1 := by simp [lastI, List.getD, List.getElem?_eq_getElem hlt]
      rw [hla]
      exact hn'
    · rw [← e3, idx_of h hk]
/-- A halt is the last instruction of its block, which has no successors. -/
theorem At.halt {L : List (Int × Int)} (hL : blk c st D (en - st).toNat = L) (h : GInv c st en D L) {pc : Int} {b : Nat} (ha : At c D L pc b) (ho : (c pc).op = 1) : pc = (L[b]'ha.lt).2 - 1 ∧ nextOf c L b = [] := by
  subst hL
  have hlt := ha.lt
  have he : pc = ((blk c st D (en - st).toNat)[b]).2 - 1 := by
    rcases Int.lt_or_le pc (((blk c st D (en - st).toNat)[b]).2 - 1) with h1 | h1
    · have hin := h.inn (List.getElem_mem hlt) (x := pc + 1) (by have := ha.lo; omega) (by omega)
      have := hin.2.halt
      rw [show pc + 1 - 1 = pc by omega] at this
      exact absurd ho this
    · have := ha.hi; omega
  exact ⟨he, GInv.halts hlt (by rw [← he]; exact ho)⟩
end

end Go.Proofs.YtfceodpdipniaaaDoor

namespace Go.Proofs.YtfceodpdipniaaaDoor
open Go.ChangeShapes Go.WideShapes Go.ChangeAt Go.RowKit
set_option linter.unusedVariables false
set_option linter.unusedSimpArgs false

theorem laidMet_head {P : Program} {x : String × DataW Unit} {r : List (String × DataW Unit)} {W : World} (h : laidMet P (x :: r) W) : laidMet P [x] W := by
  obtain ⟨ps, ⟨g, t, cs, fuel, p, q, hg, ht, hv, hd, hq, rfl⟩, hn, hm⟩ := h
  refine ⟨_, ⟨g, t, cs, fuel, p, [], hg, ht, hv, hd, rfl, rfl⟩, ?_, fun b off hb => hm b off ?_⟩
  · rw [List.append_nil]
    exact (List.nodup_append.1 hn).1
  · rw [List.append_nil] at hb
    exact List.mem_append_left _ hb
theorem laidMet_tail {P : Program} {x : String × DataW Unit} {r : List (String × DataW Unit)} {W : World} (h : laidMet P (x :: r) W) : laidMet P r W := by
  obtain ⟨ps, ⟨g, t, cs, fuel, p, q, hg, ht, hv, hd, hq, rfl⟩, hn, hm⟩ := h
  exact ⟨q, hq, (List.nodup_append.1 hn).2.1, fun b off hb => hm b off (List.mem_append_right _ hb)⟩

def opv : List Int := [0, 0, 6, 7, 8, 9, 10, 11, 12, 13, 14, 15, 16, 18, 0, 0, 0, 0, 0, 0, 0, 0, 0, 0, 0, 0, 0, 0, 0, 0]
theorem laid_opv {H : Type} : (Rows.laid_ontime_core_operators : DataW H) = .agg (opv.map fun n => .lit (.int .u8 n)) := by kernel_rfl
def opCells : List Value := opv.map (.int .u8)
theorem ops_of_laid {W : World} (h : laidMet Tryd.prog [("ontime/core.operators", Rows.laid_ontime_core_operators)] W) : W.var? Tryd.prog "ontime/core.operators" = some opCells.toArray := by
  obtain ⟨ps, ⟨g, t, cs, fuel, p, q, hg, ht, hvar, hd, _, _⟩, _⟩ := h
  obtain rfl := Option.some.inj ((show Tryd.prog.globalNamed "ontime/core.operators" = some 1 by kernel_rfl).symm.trans hg)
  obtain rfl := Option.some.inj ((show (Tryd.prog.globals[1]?).map (·.type) = some 134 by kernel_rfl).symm.trans ht)
  rw [hvar]
  congr 1
  obtain ⟨l⟩ := cs
  cases fuel with
  | zero => simp [DataW.trod] at hd
  | succ fuel =>
    rw [DataW.trod_step] at hd
    unfold DataW.trodStep at hd
    have c0 : Tryd.prog.cellsOf 134 = 30 := by kernel_rfl
    have c1 : Tryd.prog.cellsOf 5 = 1 := by kernel_rfl
    simp only [Tryd.underlying134] at hd
    rw [c0, c1] at hd
    split at hd
    · rename_i hl
      rw [laid_opv] at hd
      simp only [Option.map_eq_some_iff, Prod.mk.injEq, DataW.agg.injEq] at hd
      obtain ⟨xs, hx, e1, e2⟩ := hd
      obtain ⟨l1, l2⟩ := mapM_rows hx
      have hrow : ∀ i r, (opv.map fun n => [Value.int .u8 n])[i]? = some r → (l.drop (i * 1)).take 1 = r := by
        intro i r hr
        rw [List.getElem?_map] at hr
        obtain ⟨f, hf, rfl⟩ := Option.map_eq_some_iff.mp hr
        have hi : i < 30 := by
          have := (List.getElem?_eq_some_iff.mp hf).1
          exact this
        obtain ⟨a, b, ha, hb, hab⟩ := l2 i (by simpa using hi)
        rw [List.getElem?_range hi] at ha
        obtain rfl := Option.some.inj ha
        have hb' : (xs.map (·.1))[i]? = some b.1 := by rw [List.getElem?_map, hb]; rfl
        rw [e1, List.getElem?_map, hf] at hb'
        have hb2 : DataW.lit (.int .u8 f) = b.1 := Option.some.inj hb'
        obtain ⟨z, hz, hzz, _⟩ := DataW.trod_int Tryd.underlying5 hab
        rw [hzz] at hb2
        simp only [DataW.lit.injEq, Lit.int.injEq, true_and] at hb2
        rw [hb2]
        exact hz
      have := chunks_eq 1 (opv.map fun n => [Value.int .u8 n]) l (by rw [show (opv.map fun n => [Value.int .u8 n]).length = 30 from rfl]; exact hl) hrow
      rw [this]
      rfl
    · cases hd

abbrev LAID2 : List (String × DataW Unit) := [("ontime/isa.formats", Rows.laid_ontime_isa_formats), ("ontime/core.operators", Rows.laid_ontime_core_operators)]
theorem tab_of_laid2 {W : World} (h : laidMet Tryd.prog LAID2 W) : Tab W := tab_of_laid (laidMet_head h)
theorem opv_at : ∀ k, 2 ≤ k → k ≤ 13 → opCells.toArray[k]? = some (.int .u8 (opr (k : Int))) := by
  intro k h1 h2
  have : k = 2 ∨ k = 3 ∨ k = 4 ∨ k = 5 ∨ k = 6 ∨ k = 7 ∨ k = 8 ∨ k = 9 ∨ k = 10 ∨ k = 11 ∨ k = 12 ∨ k = 13 := by omega
  rcases this with rfl | rfl | rfl | rfl | rfl | rfl | rfl | rfl | rfl | rfl | rfl | rfl <;> rfl
theorem optab_of_laid2 {W : World} (h : laidMet Tryd.prog LAID2 W) : OpTab W := by
  have hv := ops_of_laid (laidMet_tail h)
  have hg : Tryd.prog.globalNamed "ontime/core.operators" = some 1 := by kernel_rfl
  have hc : ∀ k, W.cell? ⟨1, k, none⟩ = opCells.toArray[k]? := fun k => World.var?_cell hg hv k
  refine ⟨?_, fun k h1 h2 => (hc k).trans (opv_at k h1 h2)⟩
  have h0 : W.cell? ⟨1, 0, none⟩ = some (.int .u8 0) := by rw [hc 0]; rfl
  exact block_of_cell h0

def layB (c : Array Value) : Obj → Obj
  | .cells _ t frozen => .cells c t frozen
  | o => o
noncomputable def laidWorld2 (os : Os) : World :=
  { World.holding Tryd.prog os ⟨#[], #[], []⟩ with heap := ((World.holding Tryd.prog os ⟨#[], #[], []⟩).heap.modify 0 (layB fmCells.toArray)).modify 1 (layB opCells.toArray) }
theorem laidWorld2_row0 (os : Os) (args : Array Value) : ((laidWorld2 os).forCall (fun _ _ => 0) ⟨#[], args, []⟩).memory.heap[0]? = some (.cells fmCells.toArray 110 (0, 0)) := by kernel_rfl
theorem laidWorld2_row1 (os : Os) (args : Array Value) : ((laidWorld2 os).forCall (fun _ _ => 0) ⟨#[], args, []⟩).memory.heap[1]? = some (.cells opCells.toArray 134 (0, 0)) := by kernel_rfl
set_option maxRecDepth 100000 in
theorem laid_met2 (os : Os) (args : Array Value) : laidMet Tryd.prog LAID2 ((laidWorld2 os).forCall (fun _ _ => 0) ⟨#[], args, []⟩).memory := by
  refine ⟨_, ⟨0, 110, fmCells.toArray, 8, [], _, by kernel_rfl, by kernel_rfl, by kernel_rfl, by kernel_rfl, ⟨1, 134, opCells.toArray, 8, [], [], by kernel_rfl, by kernel_rfl, by kernel_rfl, by kernel_rfl, rfl, rfl⟩, rfl⟩, by decide +kernel, fun b off h => ?_⟩
  have hb : b = 0 ∨ b = 1 := by
    have h' : MemPlace.cell b off ∈ (List.range 180).map (fun i => MemPlace.cell 0 (0 + i)) ++ (List.range 30).map (fun i => MemPlace.cell 1 (0 + i)) := by
      have e : (MemPlace.row ⟨0, 0, none⟩ fmCells.toArray.size ++ [] ++ (MemPlace.row ⟨1, 0, none⟩ opCells.toArray.size ++ [] ++ []) : List MemPlace) = (List.range 180).map (fun i => MemPlace.cell 0 (0 + i)) ++ (List.range 30).map (fun i => MemPlace.cell 1 (0 + i)) := by decide +kernel
      rw [e] at h
      exact h
    rcases List.mem_append.1 h' with h2 | h2
    · obtain ⟨i, _, e⟩ := List.mem_map.1 h2
      cases e
      exact .inl rfl
    · obtain ⟨i, _, e⟩ := List.mem_map.1 h2
      cases e
      exact .inr rfl
  rcases hb with rfl | rfl
  · refine ⟨⟨fmCells.toArray, 110, laidWorld2_row0 os args⟩, fun u v hc => ?_⟩
    simp only [World.cell?, laidWorld2_row0 os args] at hc
    exfalso
    have hm : Value.iface u v ∈ fmCells := List.mem_of_getElem? (by simpa using hc)
    unfold fmCells at hm
    obtain ⟨f, _, hf⟩ := List.mem_flatMap.1 hm
    simp [Fm.cells] at hf
  · refine ⟨⟨opCells.toArray, 134, laidWorld2_row1 os args⟩, fun u v hc => ?_⟩
    simp only [World.cell?, laidWorld2_row1 os args] at hc
    exfalso
    have hm : Value.iface u v ∈ opCells := List.mem_of_getElem? (by simpa using hc)
    unfold opCells at hm
    obtain ⟨f, _, hf⟩ := List.mem_map.1 hm
    cases hf

theorem i32_in {p : Int} (h : (Lit.int .i32 p).wf = true) : W32 p := by
  simp [Lit.wf] at h
  have e1 : IntKind.i32.min = -2147483648 := by decide
  have e2 : IntKind.i32.max = 2147483647 := by decide
  unfold W32
  omega
set_option maxRecDepth 100000 in
theorem open_i32s {H : Type} {enc : TypeId × Value → H} {w : World} {base : Nat} {spare : Nat → Bool} {held : Bool} {r : Reach} {b0 : Nat} {v : Value} {d : DataW H} {p : List MemPlace} (hv : Value.okWide Tryd.prog w r b0 74 v) (h : DataW.Trod enc Tryd.prog w base spare held 74 v d p) : ∃ l, I32s w v l := by
  obtain ⟨l, ⟨A, cap, rfl, h1, h2, hc⟩, hw⟩ := open_ints_as Tryd.underlying74 Tryd.underlying21 (by kernel_rfl) hv h
  refine ⟨l, fun x hx => i32_in (hw x hx), A, cap, rfl, h1, h2, fun h0 => ?_⟩
  obtain ⟨b, off, rfl, hb, hx⟩ := hc h0
  refine ⟨b, off, rfl, hb, fun i hi => ?_⟩
  obtain ⟨cs, rfl, _, hj⟩ := hx i hi
  simpa using hj 0 (by omega)

end Go.Proofs.YtfceodpdipniaaaDoor

namespace Go.Proofs.YtfceodpdipniaaaDoor
open Go.RowKit
set_option linter.unusedVariables false
set_option linter.unusedSimpArgs false

theorem WordsN.belowR {w w' : World} {v : Value} {n : Nat} {cd : Nat → Int} (h : WordsN w v n cd) (hb : Below w.heap.size w w') : WordsN w' v n cd := by
  obtain ⟨A, cap, h1, h2, h3, h4⟩ := h.at_
  refine ⟨h.wd, A, cap, h1, h2, h3, fun h0 => ?_⟩
  obtain ⟨b, off, ha, hlt, hc⟩ := h4 h0
  exact ⟨b, off, ha, by have := hb.size; omega, fun i hi => (hb.cell (p := ⟨b, off + i, none⟩) hlt).trans (hc i hi)⟩
/-- What Build says, in two cases. -/
def BuildTwo (w0 : World) (n : Nat) (cd : Nat → Int) (ents : List Ent) (sh lk task : Int) (x : Ending) (w' : World) : Prop :=
  (∃ at_ er, er ≠ 0 ∧ x = .returned (.tuple #[.agg #[.slice none 0 0, .slice none 0 0], .int .i64 at_, .int .i64 er]) ∧ Below w0.heap.size w0 w') ∨
  (∃ (k : Nat) (e : Ent) (D : List Int) (L : List (Int × Int)) (bA pA : Option Addr) (bcap pcap pl : Nat), task = (k : Int) ∧ ents[k]? = some e ∧ GoodI n cd ents sh lk ∧ GInv (insAt cd) e.st e.en D L ∧ blk (insAt cd) e.st D (e.en - e.st).toNat = L ∧ e.st ∈ D ∧
    x = .returned (.tuple #[.agg #[.slice bA L.length bcap, .slice pA pl pcap], .int .i64 (-1), .int .i64 0]) ∧ Blks w' (.slice bA L.length bcap) (gBlks (insAt cd) L) ∧ bcap ≤ 2 ^ 63 - 1 ∧ L.length ≤ 4096 ∧ Below w0.heap.size w0 w')
theorem build_two (cv ev : Value) (sh lk : Int) (n : Nat) (cd : Nat → Int) (ents : List Ent) (task : Int) (w0 w : World) (hw : Below w0.heap.size w0 w) (T : Tab w) (HW : Words w cv n cd) (HE : Ents w ev ents) :
    Calls Tryd.prog 12 #[.agg #[cv, ev, .int .i64 sh, .int .i64 lk], .int .i64 task] w (BuildTwo w0 n cd ents sh lk task) := by
  refine (build_any cv ev sh lk n cd ents task w T HW HE).mono fun x w' h => ?_
  rcases h with ⟨_, h1, h2⟩ | ⟨_, _, h1, h2⟩ | ⟨_, k, en, D, bad, _, _, _, _, h1, h2⟩ | ⟨hg, k, e, D, L, bv, pv, hk, he, hR, hL, h1, h2, h3, h4⟩
  · exact .inl ⟨_, _, by decide, h1, hw.trans (h2.mono hw.size)⟩
  · exact .inl ⟨_, _, by decide, h1, hw.trans (h2.mono hw.size)⟩
  · exact .inl ⟨_, _, by decide, h1, hw.trans (h2.mono hw.size)⟩
  · obtain ⟨bA, bcap, rfl, gg1, gg2⟩ := h2.slice
    obtain ⟨pA, pcap, rfl, pp1, pp2⟩ := h3.slice
    obtain ⟨g1, g2, g3⟩ := hg.ch.bounds e (List.mem_of_getElem? he)
    have GI := GInv.of g1 g2 hR
    rw [hL] at GI
    have hst : e.st ∈ D := by rcases hR.s with h | h; exact h; cases h
    have hll : L.length ≤ 4096 := by rw [← hL]; have := blk_len (insAt cd) e.st D (e.en - e.st).toNat; have := hg.code; omega
    rw [gBlks_len] at h1 h2
    exact .inr ⟨k, e, D, L, bA, pA, bcap, pcap, _, hk, he, hg, GI, hL, hst, h1, h2, gg2, hll, hw.trans (h4.mono hw.size)⟩

theorem blks_cells {w : World} {bA : Option Addr} {cap : Nat} {c : Int → Ins} {L : List (Int × Int)} (h : Blks w (.slice bA L.length cap) (gBlks c L)) (h0 : 0 < L.length) : ∃ bb off, bA = some ⟨bb, off, none⟩ ∧ bb < w.heap.size ∧ ∀ W, Below w.heap.size w W → ∀ (k : Nat) (hk : k < L.length),
    W.cell? ⟨bb, off + k * 3, none⟩ = some (.int .i64 (L[k]).1) ∧ W.cell? ⟨bb, off + k * 3 + 1, none⟩ = some (.int .i64 (L[k]).2) ∧ ∃ NA ncap, W.cell? ⟨bb, off + k * 3 + 2, none⟩ = some (.slice NA (nextOf c L k).length ncap) ∧ Ints w (.slice NA (nextOf c L k).length ncap) (nextOf c L k) ∧ (nextOf c L k).length ≤ ncap ∧ ncap ≤ 2 ^ 63 - 1 := by
  have e := gBlks_len c L
  obtain ⟨A, cap', hv, _, _, h4⟩ := h
  simp only [e, Value.slice.injEq, true_and] at hv
  obtain ⟨rfl, rfl⟩ := hv
  obtain ⟨b, off, rfl, hlt, hc⟩ := h4 (by omega)
  refine ⟨b, off, rfl, hlt, fun W hb k hk => ?_⟩
  obtain ⟨c0, c1, nv, c2, c3⟩ := hc k _ (gBlks_at c L hk)
  obtain ⟨NA, ncap, rfl, n1, n2⟩ := c3.slice
  exact ⟨(hb.cell (p := ⟨b, _, none⟩) hlt).trans c0, (hb.cell (p := ⟨b, _, none⟩) hlt).trans c1, NA, ncap, (hb.cell (p := ⟨b, _, none⟩) hlt).trans c2, c3, n1, n2⟩
/-- The job between two steps. -/
structure RunS (X wr : World) (sb nb : Nat) (dv sv : Value) (i : Nat) (s : St) (ml ml2 : List Int) : Prop where
  j : Job wr sb s ml sv ml2
  d : s.d = dv
  bx : Below X.heap.size X wr
  n : ∃ q : Int, 0 ≤ q ∧ q ≤ (i : Int) ∧ wr.heap[nb]? = some (.cells #[.int .i64 q] 3 (0, 0))
theorem RunS.later {X wr w' : World} {sb nb : Nat} {dv sv : Value} {i : Nat} {s : St} {ml ml2 : List Int} (h : RunS X wr sb nb dv sv i s ml ml2) (b : Below wr.heap.size wr w') : RunS X w' sb nb dv sv i s ml ml2 := by
  obtain ⟨q, q1, q2, q3⟩ := h.n
  exact ⟨h.j.later b, h.d, h.bx.trans (b.mono h.bx.size), q, q1, q2, (b.block nb (lt_of_blk' q3)).trans q3⟩
theorem RunS.step {X wr W5 : World} {sb nb : Nat} {dv sv : Value} {i : Nat} {s s' : St} {ml ml2 ml' ml2' : List Int} {I : Ins} {lk nx q : Int} (h : RunS X wr sb nb dv sv i s ml ml2) (hjb : ∀ k, Jb sb dv sv k → X.heap.size ≤ k ∧ k ≠ nb) (hnb : X.heap.size ≤ nb)
    (q1 : 0 ≤ q) (q2 : q ≤ (i : Int)) (q3 : wr.heap[nb]? = some (.cells #[.int .i64 q] 3 (0, 0))) (hok : StepOk I lk s ml ml2 nx s' ml' ml2') (hJ : Job W5 sb { s' with pc := nx } ml' sv ml2') (hf : Fr (fun k => Jb sb s.d sv k ∨ k = nb) wr W5) (hor : Fr (Jb sb s.d sv) wr W5 ∨ RunCnt nb q W5) :
    RunS X W5 sb nb dv sv (i + 1) { s' with pc := nx } ml' ml2' := by
  have hb : Below X.heap.size wr W5 := hf.below h.bx.size (fun k hk => by
    rcases hk with hk | hk
    · rw [h.d] at hk; exact (hjb k hk).1
    · omega)
  refine ⟨hJ, hok.dat.trans h.d, h.bx.trans hb, ?_⟩
  rcases hor with h1 | ⟨q', h1, h2, h3⟩
  · refine ⟨q, q1, by omega, (h1.block nb (lt_of_blk' q3) (fun hk => ?_)).trans q3⟩
    rw [h.d] at hk
    exact (hjb nb hk).2 rfl
  · exact ⟨q', h1, by omega, h3⟩
theorem drewN_below (w : World) (n : Nat) : Below w.heap.size w (w.drewN n) := ⟨rfl, rfl, rfl, Nat.le_refl _, fun _ _ => rfl⟩
theorem ins_op {n : Nat} {cd : Nat → Int} {cv : Value} {w : World} (h : WordsN w cv n cd) {pc : Int} (h0 : 0 ≤ pc) (h1 : pc < n) : 0 ≤ (insAt cd pc).op := by
  unfold insAt
  have := h.wd pc.toNat (by omega)
  exact (decI_op _ this.1 this.2).1

set_option maxHeartbeats 4000000 in
set_option maxRecDepth 20000 in
theorem runs_any (cv ev : Value) (sh lk : Int) (n : Nat) (cd : Nat → Int) (ents : List Ent) (task : Int) (dv sv0 iv : Value) (dl sl il : List Int) (w : World) (T : Tab w) (OT : OpTab w) (HW : WordsN w cv n cd) (HE : Ents w ev ents) (HD : I32s w dv dl) (HS : I32s w sv0 sl) (HI : I32s w iv il) :
    Calls Tryd.prog 9 #[.agg #[cv, ev, .int .i64 sh, .int .i64 lk], .int .i64 task, dv, sv0, iv] w fun e w' => e = .returned (.bool true) ∧ Below w.heap.size w w' := by
  obtain ⟨A, cap, hcv, hc1, hc2, -⟩ := HW.at_
  obtain ⟨EA, ecap, hev, he1, he2, -⟩ := HE.at_
  obtain ⟨dA, dcap, hdv, hd1, hd2, -⟩ := HD.at_
  obtain ⟨sA, scap, hsv, hs1, hs2, -⟩ := HS.at_
  obtain ⟨iA, icap, hiv, hi1, hi2, -⟩ := HI.at_
  have h63 : ents.length ≤ 2 ^ 63 - 1 := by unfold maxLen at he2; omega
  have HWH := Lib.hid HW
  have HEH := Lib.hid HE
  have HT := Lib.hid T
  have HO := Lib.hid OT
  have HDH := Lib.hid HD
  have HSH := Lib.hid HS
  have HIH := Lib.hid HI
  clear HW HE T OT HD HS HI
  subst hcv hev hdv hsv hiv
  obtain ⟨V0, hV0⟩ : ∃ V0, (w.alloc (.cells #[.slice A n cap, .slice EA ents.length ecap, .int .i64 sh, .int .i64 lk] 25)).alloc (.cells #[.slice iA il.length icap] 74) = V0 := ⟨_, rfl⟩
  have b0 : Below w.heap.size w V0 := hV0 ▸ ((Below.refl _ _).alloc (Nat.le_refl _) _).alloc (by simp) _
  have k0 : V0.heap[w.heap.size]? = some (.cells #[.slice A n cap, .slice EA ents.length ecap, .int .i64 sh, .int .i64 lk] 25) := by rw [← hV0, heap_alloc_old _ _ (by simp)]; exact heap_alloc_new _ _
  have k1 : V0.heap[w.heap.size + 1]? = some (.cells #[.slice iA il.length icap] 74) := by rw [← hV0]; exact heap_alloc_at _ _ (by simp)
  have s0 : w.heap.size < V0.heap.size := lt_of_blk' k0
  have s1 : w.heap.size + 1 < V0.heap.size := lt_of_blk' k1
  have y0 : V0.cell? ⟨w.heap.size, 0, none⟩ = some (.slice A n cap) := by simp [World.cell?, k0]
  have y1 : V0.cell? ⟨w.heap.size, 1, none⟩ = some (.slice EA ents.length ecap) := by simp [World.cell?, k0]
  have y2 : V0.cell? ⟨w.heap.size, 2, none⟩ = some (.int .i64 sh) := by simp [World.cell?, k0]
  have y3 : V0.cell? ⟨w.heap.size, 3, none⟩ = some (.int .i64 lk) := by simp [World.cell?, k0]
  have y4 : V0.cell? ⟨w.heap.size + 1, 0, none⟩ = some (.slice iA il.length icap) := by simp [World.cell?, k1]
  have B0 := Lib.hid b0
  have K0 := Lib.hid k0
  have K1 := Lib.hid k1
  have HAW := Lib.hid (Calls.ext (awake_any V0 (HT.out.below b0)))
  clear k0 k1 b0
  go_enter Tryd.func9, Tryd.ntmps9
  go_upto_region 1 with fail
  clear hV0
  have HGR := Lib.hid (show ∀ y : Ext V0, Calls Tryd.prog 11 #[.agg #[.slice A n cap, .slice EA ents.length ecap, .int .i64 sh, .int .i64 lk]] y.w fun e w' => e = .returned (.int .i64 (greatI n ents)) ∧ ∃ z : Ext V0, z.w = w' from fun y => (great_any _ _ sh lk n cd ents y.w (HWH.out.belowR (Ext.below B0.out B0.out.size y)) (HEH.out.below (Ext.below B0.out B0.out.size y))).mono fun e w' ⟨h1, h2⟩ => ⟨h1, ⟨w', y.h.trans (h2.mono y.h.size)⟩, rfl⟩)
  by_cases hgt : 300 < n ∨ 4 < ents.length
  case pos =>
    have hg1 : greatI n ents = 1 := by unfold greatI; rw [if_pos hgt]
    rw [hg1] at HGR
    clear hgt hg1
    go_wp2_with (first | (go_at_call 10; refine HAW.out.mono ?_; rintro e w' ⟨rfl, y, rfl⟩) | (go_at_call 11; refine (HGR.out _).mono ?_; rintro e w' ⟨rfl, z, rfl⟩))
    go_ret
    exact ⟨rfl, Ext.below B0.out B0.out.size z⟩
  have hg0 : greatI n ents = 0 := by unfold greatI; rw [if_neg hgt]
  rw [hg0] at HGR
  have hn3 : n ≤ 300 := by omega
  clear hgt hg0
  by_cases c1 : (512 : Int) < (dl.length : Int)
  case pos =>
    have d1 := decide_eq_true c1
    have d1n : decide (512 < dl.length) = true := decide_eq_true (by omega)
    clear c1
    go_wp2_with (first | (go_at_call 10; refine HAW.out.mono ?_; rintro e w' ⟨rfl, y, rfl⟩) | (go_at_call 11; refine (HGR.out _).mono ?_; rintro e w' ⟨rfl, z, rfl⟩))
    go_ret
    exact ⟨rfl, Ext.below B0.out B0.out.size z⟩
  have d1 := decide_eq_false c1
  have d1n : decide (512 < dl.length) = false := decide_eq_false (by omega)
  clear c1
  by_cases c2 : (64 : Int) < (sl.length : Int)
  case pos =>
    have d2 := decide_eq_true c2
    have d2n : decide (64 < sl.length) = true := decide_eq_true (by omega)
    clear c2
    go_wp2_with (first | (go_at_call 10; refine HAW.out.mono ?_; rintro e w' ⟨rfl, y, rfl⟩) | (go_at_call 11; refine (HGR.out _).mono ?_; rintro e w' ⟨rfl, z, rfl⟩))
    go_ret
    exact ⟨rfl, Ext.below B0.out B0.out.size z⟩
  have d2 := decide_eq_false c2
  have d2n : decide (64 < sl.length) = false := decide_eq_false (by omega)
  clear c2
  by_cases c3 : (40 : Int) < (il.length : Int)
  case pos =>
    have d3 := decide_eq_true c3
    have d3n : decide (40 < il.length) = true := decide_eq_true (by omega)
    clear c3
    go_wp2_with (first | (go_at_call 10; refine HAW.out.mono ?_; rintro e w' ⟨rfl, y, rfl⟩) | (go_at_call 11; refine (HGR.out _).mono ?_; rintro e w' ⟨rfl, z, rfl⟩))
    go_ret
    exact ⟨rfl, Ext.below B0.out B0.out.size z⟩
  have d3 := decide_eq_false c3
  have d3n : decide (40 < il.length) = false := decide_eq_false (by omega)
  have hil : il.length ≤ 100 := by omega
  clear c3
  have HBU := Lib.hid (show ∀ W, Below V0.heap.size V0 W → Calls Tryd.prog 12 #[.agg #[.slice A n cap, .slice EA ents.length ecap, .int .i64 sh, .int .i64 lk], .int .i64 task] W (BuildTwo V0 n cd ents sh lk task) from fun W hW => build_two _ _ sh lk n cd ents task V0 W hW (HT.out.below (B0.out.trans (hW.mono B0.out.size))) ((HWH.out.belowR (B0.out.trans (hW.mono B0.out.size))).words (by omega)) (HEH.out.below (B0.out.trans (hW.mono B0.out.size))))
  unfold BuildTwo at HBU
  go_upto_region 5 with (first | (go_at_call 10; refine HAW.out.mono ?_; rintro e w' ⟨rfl, y, rfl⟩) | (go_at_call 11; refine (HGR.out _).mono ?_; rintro e w' ⟨rfl, z, rfl⟩))
  go_upto_region 6 with (go_at_call 12; refine (HBU.out z.w z.h).mono ?_; rintro e' W3 (⟨at_, er, hne, rfl, hb3⟩ | ⟨k, e, D, L, bA, pA, bcap, pcap, pl, rfl, he, hgd, hGI, hL, hst, rfl, hB, hbc, hll, hb3⟩))
  case _ =>
    have gz : (er != 0) = true := by simpa using hne
    go_wp2_with fail
    go_ret
    exact ⟨rfl, (B0.out.trans (hb3.mono B0.out.size)).alloc (by have := hb3.size; have := B0.out.size; omega) _⟩
  case _ =>
    obtain ⟨gb, hgb⟩ : ∃ gb, W3.heap.size = gb := ⟨_, rfl⟩
    obtain ⟨X, hX⟩ : ∃ X, W3.alloc (.cells #[.slice bA L.length bcap, .slice pA pl pcap] 31) = X := ⟨_, rfl⟩
    have bX : Below W3.heap.size W3 X := hX ▸ (Below.refl _ _).alloc (Nat.le_refl _) _
    have kX : X.heap[W3.heap.size]? = some (.cells #[.slice bA L.length bcap, .slice pA pl pcap] 31) := hX ▸ heap_alloc_new _ _
    have BX := Lib.hid (hb3.trans (bX.mono hb3.size))
    have HBX := Lib.hid (hB.below bX)
    have BWX := Lib.hid (B0.out.trans (BX.out.mono B0.out.size))
    rw [hX]
    rw [hgb] at kX ⊢
    have KX := Lib.hid kX
    have sX : gb < X.heap.size := lt_of_blk' kX
    have K0X := Lib.hid ((BX.out.block _ s0).trans K0.out)
    have K1X := Lib.hid ((BX.out.block _ s1).trans K1.out)
    have x0 : X.cell? ⟨w.heap.size, 0, none⟩ = some (.slice A n cap) := by rw [BX.out.cell (p := ⟨w.heap.size, 0, none⟩) s0]; exact y0
    have x1 : X.cell? ⟨w.heap.size, 1, none⟩ = some (.slice EA ents.length ecap) := by rw [BX.out.cell (p := ⟨w.heap.size, 1, none⟩) s0]; exact y1
    have x2 : X.cell? ⟨w.heap.size, 2, none⟩ = some (.int .i64 sh) := by rw [BX.out.cell (p := ⟨w.heap.size, 2, none⟩) s0]; exact y2
    have x3 : X.cell? ⟨w.heap.size, 3, none⟩ = some (.int .i64 lk) := by rw [BX.out.cell (p := ⟨w.heap.size, 3, none⟩) s0]; exact y3
    have HGD := Lib.hid hgd
    have HGI := Lib.hid hGI
    have HL := Lib.hid hL
    have HST := Lib.hid hst
    have HEN := Lib.hid he
    have hda := hgd.da e (List.mem_of_getElem? he)
    have hsb := hgd.shB
    have HNW := Lib.hid (new_any (.slice A n cap) _ sh lk ents k e X (HEH.out.below BWX.out) he hda.1 hda.2)
    obtain ⟨dn, hdn⟩ : ∃ dn, e.da.toNat = dn := ⟨_, rfl⟩
    rw [hdn] at HNW
    have hdn2 : dn ≤ 512 := by omega
    obtain ⟨st, hste⟩ : ∃ st, e.st = st := ⟨_, rfl⟩
    rw [hste] at HNW HGI HST HL
    have HSTE := Lib.hid hste
    clear hX bX kX hb3 hB hgb y0 y1 y2 y3 y4 HAW HGR HBU hgd hGI hL hst he hda hdn hste z
    have e1 : decide ((512 : Int) < (dn : Int)) = false := decide_eq_false (by omega)
    have e2 : decide (512 < dn) = false := decide_eq_false (by omega)
    go_upto_region 9 with (first | (go_at_call 32; refine HNW.out.mono ?_; rintro e' W4 ⟨⟨g, rfl, hgX, hrow⟩, hb4⟩) | (refine wpList_store_row rfl 77 (.tmp 14) (.tmp 62) rfl W4.heap.size #[.int .i64 st, .int .i32 0, .int .i32 0, .int .i32 0, .int .i32 0, .int .i32 0, .int .i32 0, .int .i32 0, .int .i32 0, .int .i32 0, .int .i32 0, .int .i32 0, .int .i32 0, .int .i32 0, .int .i32 0, .int .i32 0, .int .i32 0, .slice (some ⟨g, 0, none⟩) dn dn, .bool false, .int .i64 (-1)] rfl rfl 77 _ (heap_alloc_new _ _) (by kernel_rfl) rfl (by simp [Value.oneCell']) ?_))
    rw [World.setRow_alloc_new]
    obtain ⟨sb, hsbe⟩ : ∃ sb, W4.heap.size = sb := ⟨_, rfl⟩
    obtain ⟨Y, hY⟩ : ∃ Y, W4.alloc (.cells #[.int .i64 st, .int .i32 0, .int .i32 0, .int .i32 0, .int .i32 0, .int .i32 0, .int .i32 0, .int .i32 0, .int .i32 0, .int .i32 0, .int .i32 0, .int .i32 0, .int .i32 0, .int .i32 0, .int .i32 0, .int .i32 0, .int .i32 0, .slice (some ⟨g, 0, none⟩) dn dn, .bool false, .int .i64 (-1)] 77) = Y := ⟨_, rfl⟩
    have bY : Below W4.heap.size W4 Y := hY ▸ (Below.refl _ _).alloc (Nat.le_refl _) _
    have kY : Y.heap[W4.heap.size]? = some (.cells #[.int .i64 st, .int .i32 0, .int .i32 0, .int .i32 0, .int .i32 0, .int .i32 0, .int .i32 0, .int .i32 0, .int .i32 0, .int .i32 0, .int .i32 0, .int .i32 0, .int .i32 0, .int .i32 0, .int .i32 0, .int .i32 0, .int .i32 0, .slice (some ⟨g, 0, none⟩) dn dn, .bool false, .int .i64 (-1)] 77) := hY ▸ heap_alloc_new _ _
    rw [hY]
    rw [hsbe] at kY ⊢
    have hs4 := hb4.size
    have hXY : Below X.heap.size X Y := hb4.trans (bY.mono hs4)
    have BXY := Lib.hid hXY
    have HRY := Lib.hid (ownsRow_below hrow bY)
    have KY := Lib.hid kY
    have hgY : g < Y.heap.size := (HRY.out.lt g rfl).2
    have hsbY : sb < Y.heap.size := lt_of_blk' kY
    have hsbX : X.heap.size ≤ sb := by omega
    have yp : Y.cell? ⟨sb, 0, none⟩ = some (.int .i64 st) := by simp [World.cell?, kY]
    have yd : Y.cell? ⟨sb, 17, none⟩ = some (.slice (some ⟨g, 0, none⟩) dn dn) := by simp [World.cell?, kY]
    have hw3 : w.heap.size < X.heap.size := by have := BX.out.size; omega
    have v2 : Y.cell? ⟨w.heap.size, 2, none⟩ = some (.int .i64 sh) := by rw [hXY.cell (p := ⟨w.heap.size, 2, none⟩) hw3]; exact x2
    have BWY := Lib.hid (BWX.out.trans (hXY.mono BWX.out.size))
    clear hY bY kY hb4 hXY hrow hsbe HNW hs4
    go_upto_region 12 with (go_loud (refine wpList_copy_words rfl (.tmp 73) (.tmp 74) rfl g dn dn (List.replicate dn 0) dl _ rfl rfl HRY.out (fun x hx => by rw [(List.mem_replicate.1 hx).2]; unfold W32; omega) (HDH.out.below BWY.out) ?_); intro Z ml kk hml hmw hrz hfz)
    obtain ⟨sn, rfl⟩ : ∃ sn : Nat, sh = (sn : Int) := ⟨sh.toNat, by omega⟩
    have hsn : sn ≤ 64 := by omega
    have hwY : w.heap.size < Y.heap.size := Nat.lt_of_lt_of_le hw3 BXY.out.size
    have HFZ := Lib.hid hfz
    have HRZ := Lib.hid hrz
    have z2 : Z.cell? ⟨w.heap.size, 2, none⟩ = some (.int .i64 (sn : Int)) := (hfz.cell 2 hwY (fun h9 => by have h8 : w.heap.size = g := h9; omega)).trans v2
    have hmn : ml.length = dn := by rw [hml]; simp
    have HMN := Lib.hid hmn
    have HMW := Lib.hid hmw
    obtain ⟨i1, hi, hz0, hz1, hz2⟩ := info_parts infoW32
    have hr := run_make (P := Tryd.prog) Z 74 21 i1 _ Tryd.underlying74 hi hz0 .i64 .i64 (sn : Int) (sn : Int) (by omega) (Int.le_refl _) (by rw [hz2]; omega) (by omega)
    rw [hz1, Int.toNat_natCast] at hr
    obtain ⟨Z1, hZ1⟩ : ∃ Z1, Z.alloc (.cells (madeCells (Value.int .i32 0).cells (sn * 1)) 21) = Z1 := ⟨_, rfl⟩
    have bZ1 : Below Z.heap.size Z Z1 := hZ1 ▸ ((Below.refl _ _).alloc (Nat.le_refl _) _)
    have HRO := Lib.hid (show Z1.ownsRow 0 21 1 (.slice (some ⟨Z.heap.size, 0, none⟩) sn sn) sn (i32s (List.replicate sn 0)) from by rw [← hZ1]; exact made_row Z sn (by omega))
    rw [hZ1] at hr
    have sZ1 : Z.heap.size < Z1.heap.size := (HRO.out.lt _ rfl).2
    obtain ⟨wb, hwb⟩ : ∃ wb, Z.heap.size = wb := ⟨_, rfl⟩
    rw [hwb] at hr HRO sZ1
    have HWB := Lib.hid hwb
    have BZ1 := Lib.hid bZ1
    have BWZ1 := Lib.hid (BWY.out.trans (((HFZ.out.below (B := w.heap.size) (Nat.le_of_lt hwY) (fun q hq => by have h8 : q = g := hq; omega))).trans (bZ1.mono (by have := HFZ.out.size; omega))))
    have hmx : max (sn : Int) 0 = (sn : Int) := by omega
    have hmx2 : decide ((sn : Int) < 0) = false := decide_eq_false (by omega)
    clear hZ1 bZ1 hwb hz0 hz1 hz2 hi hfz hrz hmw hml hmn yp yd v2
    go_upto_region 13 with fail
    clear hr z2 hmx hmx2
    go_upto_region 14 with (go_loud (refine wpList_copy_words rfl (.tmp 80) (.tmp 81) rfl wb sn sn (List.replicate sn 0) sl _ rfl rfl HRO.out (fun x hx => by rw [(List.mem_replicate.1 hx).2]; unfold W32; omega) (HSH.out.below BWZ1.out) ?_); intro Z2 ml2 kk2 hml2 hmw2 hrz2 hfz2)
    go_upto_region 15 with fail
    obtain ⟨nb, hnbe⟩ : ∃ nb, Z2.heap.size = nb := ⟨_, rfl⟩
    obtain ⟨Q, hQ⟩ : ∃ Q, Z2.alloc (.cells #[.int .i64 0] 3) = Q := ⟨_, rfl⟩
    have bQ : Below Z2.heap.size Z2 Q := hQ ▸ (Below.refl _ _).alloc (Nat.le_refl _) _
    have kN : Q.heap[Z2.heap.size]? = some (.cells #[.int .i64 0] 3) := hQ ▸ heap_alloc_new _ _
    have hYZ := HFZ.out.size
    have hZZ := BZ1.out.size
    have hZ12 := hfz2.size
    have hwbg : wb ≠ g := by have := HWB.out; omega
    have hwbY : Y.heap.size ≤ wb := by have := HWB.out; omega
    -- from Y to Q: the block g is changed, those behind Y are new
    have HYQ := Lib.hid (show Fr (· = g) Y Q from (HFZ.out.since (S' := fun _ => False) (Fr.of BZ1.out) (fun k hk => hk.elim)).since hfz2 (fun k hk => .inr (by have h8 : k = wb := hk; omega)) |>.trans (Fr.of bQ))
    have HJQ := Lib.hid (show Job Q sb ⟨st, List.replicate 16 0, .slice (some ⟨g, 0, none⟩) dn dn, false, -1⟩ ml (.slice (some ⟨wb, 0, none⟩) sn sn) ml2 from
      ⟨⟨(HYQ.out.block sb hsbY (fun h9 => by
          have h8 : sb = g := h9
          rw [h8] at KY
          rcases HRY.out.2 with ⟨h, _⟩ | ⟨g', cap', cur, hv, _, hg', _⟩
          · cases h
          · cases hv; rw [KY.out] at hg'; simp at hg')).trans (KY.out.trans (by simp [St.cells, List.replicate])), by simp, fun x hx => by rw [(List.mem_replicate.1 hx).2]; unfold W32; omega⟩,
        by rw [HMN.out]; exact ownsRow_below ((hfz2.own (ownsRow_below HRZ.out BZ1.out) (fun q hq h9 => by have h8 : q = wb := h9; simp [Value.ownBlock] at hq; omega))) bQ,
        by rw [hml2, List.length_replicate]; exact ownsRow_below hrz2 bQ,
        fun q hq h9 => by simp only [Value.ownBlock, Option.some.injEq] at hq h9; omega, HMW.out, hmw2, by rw [HMN.out]; omega, by rw [hml2, List.length_replicate]; omega⟩)
    have BQ := Lib.hid (HYQ.out.below (B := X.heap.size) BXY.out.size (fun q hq => by have h8 : q = g := hq; omega))
    have BXQ := Lib.hid (BXY.out.trans BQ.out)
    have BWQ := Lib.hid (BWX.out.trans (BXQ.out.mono BWX.out.size))
    have KN := Lib.hid kN
    have hnX : Y.heap.size ≤ Z2.heap.size := by omega
    have hwbn : wb < nb := by omega
    rw [hQ]
    rw [hnbe] at KN hnX ⊢
    clear hQ
    have lnb : nb < Q.heap.size := lt_of_blk' KN.out
    have q0 : Q.cell? ⟨w.heap.size, 0, none⟩ = some (.slice A n cap) := by rw [BXQ.out.cell (p := ⟨w.heap.size, 0, none⟩) hw3]; exact x0
    have q1 : Q.cell? ⟨w.heap.size, 1, none⟩ = some (.slice EA ents.length ecap) := by rw [BXQ.out.cell (p := ⟨w.heap.size, 1, none⟩) hw3]; exact x1
    have q2 : Q.cell? ⟨w.heap.size, 2, none⟩ = some (.int .i64 (sn : Int)) := by rw [BXQ.out.cell (p := ⟨w.heap.size, 2, none⟩) hw3]; exact x2
    have q3 : Q.cell? ⟨w.heap.size, 3, none⟩ = some (.int .i64 lk) := by rw [BXQ.out.cell (p := ⟨w.heap.size, 3, none⟩) hw3]; exact x3
    have XC0 := Lib.hid (And.intro x0 (And.intro x1 (And.intro x2 x3)))
    have GC0 := Lib.hid (show X.cell? ⟨gb, 0, none⟩ = some (.slice bA L.length bcap) ∧ X.cell? ⟨gb, 1, none⟩ = some (.slice pA pl pcap) from ⟨by simp [World.cell?, KX.out], by simp [World.cell?, KX.out]⟩)
    have kgq := (BXQ.out.block gb sX).trans KX.out
    have qg0 : Q.cell? ⟨gb, 0, none⟩ = some (.slice bA L.length bcap) := by simp [World.cell?, kgq]
    have qg1 : Q.cell? ⟨gb, 1, none⟩ = some (.slice pA pl pcap) := by simp [World.cell?, kgq]
    have qp := HJQ.out.m.pc
    simp only at qp
    have HBQ := Lib.hid (HBX.out.below BXQ.out)
    have hL0 : 0 < L.length := List.length_pos_iff.2 (HGI.out.b.ne HST.out (by have := HGI.out.lt; omega))
    have hfirst := HGI.out.first HST.out hL0
    have hfb : findB (gBlks (insAt cd) L) st = some 0 := by rw [← hfirst]; exact find_first HGI.out hL0
    obtain ⟨b0, hb0⟩ : ∃ b0 : Nat, b0 = 0 := ⟨_, rfl⟩
    have HBK := Lib.hid (show Calls Tryd.prog 30 #[.agg #[.slice bA L.length bcap, .slice pA pl pcap], .int .i64 st] Q fun x w' => x = .returned (.tuple #[.int .i64 (b0 : Int), .bool true]) ∧ ∃ y : Ext Q, y.w = w' from (block_any _ (.slice pA pl pcap) (gBlks (insAt cd) L) st Q HBQ.out).mono fun x w' ⟨h1, h2⟩ => ⟨by rw [h1, hfb, hb0]; rfl, ⟨w', h2⟩, rfl⟩)
    have HL0 := Lib.hid hL0
    have HFI := Lib.hid (show ∀ h : 0 < L.length, (L[0]'h).1 = st from fun _ => hfirst)
    have hwQ : w.heap.size < Q.heap.size := Nat.lt_of_lt_of_le hw3 BXQ.out.size
    have hgQ : gb < Q.heap.size := Nat.lt_of_lt_of_le sX BXQ.out.size
    have hsQ := HJQ.out.m.lt
    clear kN kgq hfb hfirst hL0 bQ hml2 hmw2 hrz2 hfz2 x0 x1 x2 x3 hYZ hZZ hZ12
    go_upto_region 16 with fail
    have HB0 := Lib.hid hb0
    clear hb0
    go_upto_region 17 with (go_at_call 30; refine HBK.out.mono ?_; rintro e' w' ⟨rfl, y, rfl⟩)
    obtain ⟨bb, off, rfl, hbb, hbc0⟩ := blks_cells HBX.out HL0.out
    have HBC := Lib.hid hbc0
    clear hbc0
    obtain ⟨R, hR⟩ : ∃ R, y.w = R := ⟨_, rfl⟩
    have bR : Below Q.heap.size Q R := hR ▸ y.h
    rw [hR]
    have hbR := BXQ.out.trans (bR.mono BXQ.out.size)
    have HXR := Lib.hid (show RunS X R sb nb (.slice (some ⟨g, 0, none⟩) dn dn) (.slice (some ⟨wb, 0, none⟩) sn sn) 0 ⟨st, List.replicate 16 0, .slice (some ⟨g, 0, none⟩) dn dn, false, -1⟩ ml ml2 from
      ⟨HJQ.out.later bR, rfl, hbR, 0, Int.le_refl _, Int.le_refl _, (bR.block nb lnb).trans KN.out⟩)
    have hbl : b0 < L.length := by rw [HB0.out]; exact HL0.out
    have hst0 : (L[b0]).1 = st := by have h := HB0.out; subst h; exact HFI.out _
    have HAT := Lib.hid (show At (insAt cd) D L st b0 from ⟨hbl, by rw [hst0]; exact Int.le_refl _, by have := HGI.out.b.lo _ (List.getElem_mem hbl); omega, HST.out⟩)
    have HJB := Lib.hid (show ∀ k, Jb sb (.slice (some ⟨g, 0, none⟩) dn dn) (.slice (some ⟨wb, 0, none⟩) sn sn) k → X.heap.size ≤ k ∧ k ≠ nb from fun k hk => by
      have h1 := BXY.out.size
      have h2 := HWB.out
      have h3 := HJQ.out.lt hk
      have h4 := hnbe
      rcases hk with rfl | e | e
      · omega
      · simp only [Value.ownBlock, Option.some.injEq] at e; omega
      · simp only [Value.ownBlock, Option.some.injEq] at e; omega)
    obtain ⟨c0, -, -⟩ := HBC.out R hbR b0 hbl
    rw [hst0] at c0
    have r0 : R.cell? ⟨gb, 0, none⟩ = some (.slice (some ⟨bb, off, none⟩) L.length bcap) := by rw [bR.cell (p := ⟨gb, 0, none⟩) hgQ]; exact qg0
    have rp : R.cell? ⟨sb, 0, none⟩ = some (.int .i64 st) := by rw [bR.cell (p := ⟨sb, 0, none⟩) hsQ]; exact qp
    have hbd : (b0 : Int) < (L.length : Int) := by omega
    have hbd2 : decide (0 ≤ (b0 : Int)) = true := decide_eq_true (by omega)
    clear hst0 HBK q0 q1 q2 q3 qg0 qg1 qp hR
    go_quiet (fail)
    go_upto_region 20 with fail
    clear c0 r0 rp hbd hbd2
    have HXN := Lib.hid (HXR.out.later (drewN_below R nq))
    go_loopw [19, 21, 22, 23, 24, 25, 26, 28, 104] (fun a19 a21 a22 a23 a24 a25 a26 a28 a104 wr => ∃ (i b : Nat) (s : St) (ml ml2 : List Int), i ≤ 400 ∧ a104 = .int .i64 (i : Int) ∧ a19 = .int .i64 (b : Int) ∧ s.hal = false ∧ At (insAt cd) D L s.pc b ∧ RunS X wr sb nb (.slice (some ⟨g, 0, none⟩) dn dn) (.slice (some ⟨wb, 0, none⟩) sn sn) i s ml ml2) (fun _ _ _ _ _ _ _ _ a104 _ => 400 - (intOf a104).toNat)
    case atStart => exact ⟨0, b0, _, ml, ml2, by omega, rfl, rfl, rfl, HAT.out, HXN.out⟩
    case round =>
      obtain ⟨i, b, s, ml, ml2, hi, rfl, rfl, hhal, hat, hrs⟩ := hrel
      by_cases hlt : i < 400
      · obtain ⟨q, q1, q2, q3⟩ := hrs.n
        obtain ⟨pc, hpc⟩ : ∃ pc, s.pc = pc := ⟨_, rfl⟩
        have dl : decide ((i : Int) < 400) = true := decide_eq_true (by omega)
        have dln : decide (i < 400) = true := decide_eq_true (by omega)
        have BXw := Lib.hid hrs.bx
        have BWw := Lib.hid (BWX.out.trans (hrs.bx.mono BWX.out.size))
        have rp := hrs.j.m.pc
        rw [hpc] at rp
        have r0 : wr.cell? ⟨w.heap.size, 0, none⟩ = some (.slice A n cap) := by rw [BXw.out.cell (p := ⟨w.heap.size, 0, none⟩) hw3]; exact XC0.out.1
        have r1 : wr.cell? ⟨w.heap.size, 1, none⟩ = some (.slice EA ents.length ecap) := by rw [BXw.out.cell (p := ⟨w.heap.size, 1, none⟩) hw3]; exact XC0.out.2.1
        have r2 : wr.cell? ⟨w.heap.size, 2, none⟩ = some (.int .i64 (sn : Int)) := by rw [BXw.out.cell (p := ⟨w.heap.size, 2, none⟩) hw3]; exact XC0.out.2.2.1
        have r3 : wr.cell? ⟨w.heap.size, 3, none⟩ = some (.int .i64 lk) := by rw [BXw.out.cell (p := ⟨w.heap.size, 3, none⟩) hw3]; exact XC0.out.2.2.2
        have hib : wr.cell? ⟨w.heap.size + 1, 0, none⟩ = some (.slice iA il.length icap) := by rw [BXw.out.cell (p := ⟨w.heap.size + 1, 0, none⟩) (lt_of_blk' K1X.out)]; simp [World.cell?, K1X.out]
        have HPO := runs_port HIH.out hil BWw.out (by have := BXY.out.size; have := BWX.out.size; omega) q1 (by omega) q3 hib (Nat.lt_of_lt_of_le (lt_of_blk' K1X.out) BXw.out.size) (by have := BXY.out.size; have := lt_of_blk' K1X.out; omega)
        have HSP := Lib.hid (step_any (.slice A n cap) (.slice EA ents.length ecap) (sn : Int) lk n cd ents k e sb s ml (.slice (some ⟨wb, 0, none⟩) sn sn) ml2 _ (· = nb) (RunCnt nb q) wr (HT.out.below BWw.out) (HO.out.below BWw.out) (HWH.out.belowR BWw.out) (by omega) (HEH.out.below BWw.out) HEN.out hrs.j HPO (fun k hk => by rw [hrs.d] at hk; exact (HJB.out k hk).2))
        unfold StepPost at HSP
        have HHAL := Lib.hid hhal
        have HA := Lib.hid hat
        have HRS := Lib.hid hrs
        have HPC := Lib.hid hpc
        have HQ := Lib.hid (And.intro q1 (And.intro q2 q3))
        clear hhal hat hrs hpc q1 q2 q3 hib HPO
        go_upto_region 23 with (first | (go_at_call 34; refine HSP.out.mono ?_; rintro e' W5 (⟨er, hne, rfl, hb5⟩ | ⟨nx, tk, ad, vl, s', dl', sl', -, hl1, hl2, hdz, hok, -, rfl, hJ', hfr, hor⟩)) | (refine wpList_store_row rfl 82 (.tmp 22) (.tmp 114) rfl W5.heap.size #[.int .u8 0, .int .i64 0, .int .i64 0, .int .i64 0, .int .i64 0, .int .i64 0, .bool false, .int .i64 0, .int .i32 0] rfl rfl 82 _ (heap_alloc_new _ _) (by kernel_rfl) rfl (by simp [Value.oneCell']) ?_) | (refine wpList_store_row rfl 82 (.tmp 22) (.tmp 114) rfl W5.heap.size (effL (insAt cd s.pc) s.pc tk ad vl).toArray rfl rfl 82 _ (heap_alloc_new _ _) (by kernel_rfl) rfl (by simp [effL, Value.oneCell']) ?_))
        case _ =>
          have gz : (er != 0) = true := by simpa using hne
          rw [World.setRow_alloc_new]
          go_wp2_with fail
          go_ret
          exact ⟨rfl, (BWw.out.trans (hb5.mono BWw.out.size)).alloc (by have := hb5.size; have := BWw.out.size; omega) _⟩
        case _ =>
          rw [World.setRow_alloc_new]
          obtain ⟨W6, hW6⟩ : ∃ W6, W5.alloc (.cells (effL (insAt cd s.pc) s.pc tk ad vl).toArray 82) = W6 := ⟨_, rfl⟩
          have b6 : Below W5.heap.size W5 W6 := hW6 ▸ (Below.refl _ _).alloc (Nat.le_refl _) _
          rw [hW6]
          clear hW6
          have hrs6 := (HRS.out.step HJB.out (by have := BXY.out.size; omega) HQ.out.1 HQ.out.2.1 HQ.out.2.2 hok hJ' hfr hor).later b6
          clear hJ' hfr hor b6
          obtain ⟨s2, hs2⟩ : ∃ s2 : St, ({ s' with pc := nx } : St) = s2 := ⟨_, rfl⟩
          rw [hs2] at hrs6
          have hs2p : s2.pc = nx := by rw [← hs2]
          have hs2h : s2.hal = s'.hal := by rw [← hs2]
          have hat := HA.out
          rw [HPC.out] at hok hl1 hl2 hat
          obtain ⟨g1, g2, g3⟩ := HGD.out.ch.bounds e (List.mem_of_getElem? HEN.out)
          have hop := ins_op HWH.out (pc := pc) (by omega) (by omega)
          have hnext := hok.next HHAL.out hop
          rw [HPC.out] at hnext
          have hbL := hat.lt
          obtain ⟨_, hbl2, hbl3⟩ := HGI.out.b.lo _ (List.getElem_mem hbL)
          have hplo := hat.lo
          have hphi := hat.hi
          obtain ⟨c0, c1, NA, ncap, c2, hIN, hnc1, hnc2⟩ := HBC.out W6 hrs6.bx b hbL
          have p0 := hrs6.j.m.pc
          rw [hs2p] at p0
          have p18 := hrs6.j.m.hal
          rw [hs2h] at p18
          have m0 : W6.cell? ⟨gb, 0, none⟩ = some (.slice (some ⟨bb, off, none⟩) L.length bcap) := by rw [hrs6.bx.cell (p := ⟨gb, 0, none⟩) sX]; exact GC0.out.1
          have m1 : W6.cell? ⟨gb, 1, none⟩ = some (.slice pA pl pcap) := by rw [hrs6.bx.cell (p := ⟨gb, 1, none⟩) sX]; exact GC0.out.2
          have hbd : (b : Int) < (L.length : Int) := by omega
          have HA2 := Lib.hid hat
          have HR6 := Lib.hid hrs6
          have HS2 := Lib.hid hs2p
          have HIN := Lib.hid hIN
          rcases hnext with ⟨h1, h2⟩ | ⟨h1, h2, h3, h4⟩
          · obtain ⟨q1, q2⟩ := hat.halt HL.out HGI.out h2
            rw [show (L[b]).2 = pc + 1 by omega] at c1
            rw [q2] at c2
            rw [h1] at p18
            have wq2 : IntKind.i64.wrap (pc + 1 - 1) = pc := by rw [show pc + 1 - 1 = pc by omega]; exact IntWalk.i64_in _ (by omega)
            have wq3 : IntKind.i64.wrap pc = pc := IntWalk.i64_in _ (by omega)
            clear hs2 hs2p hs2h hat hok hl1 hl2 g1 g2 g3 hop hbl2 hbl3 hplo hphi hrs6 hIN h2 q1 q2 h1 c0
            go_wp2_with fail
            go_ret
            exact ⟨rfl, BWX.out.trans (HR6.out.bx.mono BWX.out.size)⟩
          · have hst := hat.step HL.out HGI.out h2 h3 h4
            rw [h1] at p18
            have hh2 : s2.hal = false := hs2h.trans h1
            obtain ⟨bh, hbh⟩ : ∃ bh, (L[b]).2 = bh := ⟨_, rfl⟩
            rw [hbh] at c1 hst hphi hbl2 hbl3
            have wq2 : IntKind.i64.wrap (bh - 1) = bh - 1 := IntWalk.i64_in _ (by omega)
            have hpcs : -1 ≤ pc ∧ pc ≤ 1000 := by omega
            by_cases hin : pc < bh - 1
            · obtain ⟨rfl, hat2⟩ := hst.1 hin
              have d2 := decide_eq_true hin
              have wq3 : IntKind.i64.wrap (pc + 1) = pc + 1 := IntWalk.i64_in _ (by omega)
              have HAT2 := Lib.hid hat2
              clear hst hs2 hs2p hs2h hat hok hl1 hl2 g1 g2 g3 hop hbl2 hbl3 hplo hphi hrs6 hIN h1 h2 h3 h4 c0 hat2 hbh
              go_wp2_with fail
              go_roundw
              case rel => exact ⟨i + 1, b, s2, _, _, by omega, by go_num, rfl, hh2, by rw [HS2.out]; exact HAT2.out, HR6.out⟩
              case measure => simp [intOf]; omega
            · obtain ⟨k2, hk2, hk3, hk4, hk5, hat2⟩ := hst.2 (by omega)
              have d2 := decide_eq_false hin
              have HAT2 := Lib.hid hat2
              have HK5 := Lib.hid hk5
              have HK3 := Lib.hid hk3
              have HBW := Lib.hid (show Calls Tryd.prog 30 #[.agg #[.slice (some ⟨bb, off, none⟩) L.length bcap, .slice pA pl pcap], .int .i64 nx] W6 fun x w' => x = .returned (.tuple #[.int .i64 (k2 : Int), .bool true]) ∧ Below W6.heap.size W6 w' from (block_any _ (.slice pA pl pcap) (gBlks (insAt cd) L) nx W6 (HBX.out.below hrs6.bx)).mono fun x w' ⟨r1, r2⟩ => ⟨by rw [r1, hk4]; rfl, r2⟩)
              clear hst hs2 hs2p hs2h hat hok hl1 hl2 g1 g2 g3 hop hbl2 hbl3 hplo hphi hrs6 hIN h1 h2 h3 h4 c0 hat2 hk4 hk5 hk3 hbh
              go_upto_region 31 with (go_at_call 30; refine HBW.out.mono ?_; rintro e' W7 ⟨rfl, hb7⟩)
              have hrs7 := HR6.out.later hb7
              have p0' : W7.cell? ⟨sb, 0, none⟩ = some (.int .i64 nx) := by have h := hrs7.j.m.pc; rw [HS2.out] at h; exact h
              have m0' : W7.cell? ⟨gb, 0, none⟩ = some (.slice (some ⟨bb, off, none⟩) L.length bcap) := by rw [hrs7.bx.cell (p := ⟨gb, 0, none⟩) sX]; exact GC0.out.1
              obtain ⟨-, -, NB, nbcap, c2', hIB, hnb1, hnb2⟩ := HBC.out W7 hrs7.bx b hbL
              obtain ⟨c0', -, -⟩ := HBC.out W7 hrs7.bx k2 hk2
              have HG3 := Lib.hid (show (L[k2]).1 = nx by have h := HK3.out; simpa [List.getD, List.getElem?_eq_getElem hk2] using h)
              rw [HG3.out] at c0'
              have hbd2 : (k2 : Int) < (L.length : Int) := by omega
              obtain ⟨xl, hxl⟩ : ∃ xl, nextOf (insAt cd) L b = xl := ⟨_, rfl⟩
              rw [hxl] at c2' hIB hnb1 HK5
              have HIB := Lib.hid hIB
              have HR7 := Lib.hid hrs7
              clear hrs7 hIB hxl m0 m1 c1 c2 p0 p18 hb7
              go_upto_region 33 with fail
              clear c2'
              obtain ⟨wo, rfl⟩ : ∃ wo : World, wo = wr := ⟨_, rfl⟩
              go_loopw [26, 28, 167] (fun a26 a28 a167 wx => ∃ j : Nat, j ≤ xl.length ∧ a167 = .int .i64 (j : Int) ∧ a26 = .bool (decide ((k2 : Int) ∈ xl.take j)) ∧ wx = W7) (fun _ _ a167 _ => xl.length - (intOf a167).toNat)
              case atStart => exact ⟨0, Nat.zero_le _, rfl, by simp, rfl⟩
              case round =>
                obtain ⟨j, hj, rfl, rfl, hw⟩ := hrel
                subst hw
                by_cases hjl : j < xl.length
                · obtain ⟨s8, nb8, noff, hs8, rfl, hnb, x1⟩ := HIB.out.at_ HR7.out.bx hjl
                  have dl2 : decide ((j : Int) < (xl.length : Int)) = true := decide_eq_true (by omega)
                  have HS8 := Lib.hid (take_snoc hs8)
                  obtain ⟨tb, htb⟩ : ∃ tb, decide ((k2 : Int) ∈ xl.take j) = tb := ⟨_, rfl⟩
                  rw [htb]
                  have HTB := Lib.hid htb
                  clear hs8 htb
                  cases tb
                  all_goals
                    go_wp2_with fail
                    go_roundw
                    case rel =>
                      refine ⟨j + 1, by omega, by go_num, ?_, by first | rfl | trivial⟩
                      have h := HTB.out
                      rw [HS8.out]
                      simp only [decide_eq_true_eq, decide_eq_false_iff_not] at h
                      first | (simp [List.mem_append, h, eq_comm]; done) | (simp [List.mem_append, h, eq_comm]; rfl)
                    case measure => simp [intOf]; omega
                · obtain rfl : j = xl.length := by omega
                  have dl2 : decide ((xl.length : Int) < (xl.length : Int)) = false := by simp
                  have dm : decide ((k2 : Int) ∈ xl.take xl.length) = true := decide_eq_true (by rw [List.take_length]; exact HK5.out)
                  rw [dm]
                  clear dm
                  go_upto_region 37 with fail
                  go_quiet (fail)
                  go_wp2_with fail
                  go_roundw
                  case rel => exact ⟨i + 1, k2, s2, _, _, by omega, by go_num, rfl, hh2, by rw [HS2.out]; exact HAT2.out, HR7.out.later (drewN_below _ _)⟩
                  case measure => simp [intOf]; omega
      · obtain rfl : i = 400 := by omega
        have HRS := Lib.hid hrs
        clear hrs hat hhal
        go_wp2_with fail
        go_ret
        exact ⟨rfl, BWX.out.trans (HRS.out.bx.mono BWX.out.size)⟩

end Go.Proofs.YtfceodpdipniaaaDoor

namespace Go.Proofs.YtfceodpdipniaaaDoor
open Go.ChangeShapes Go.WideShapes Go.ChangeAt Go.RowKit
set_option linter.unusedVariables false
set_option linter.unusedSimpArgs false

set_option maxRecDepth 100000 in
theorem cfgRuns_lifted (os : Os) (started : os.Started) (H : Type) (enc : TypeId × Value → H) :
    ReturnsInHanded {} Tryd.checked os 9 .any (fun w args => (Rows.cfgRunsSpec.pre enc Tryd.prog Tryd.f9 [] false w args ∧ laidMet Tryd.prog [("ontime/isa.formats", Rows.laid_ontime_isa_formats), ("ontime/core.operators", Rows.laid_ontime_core_operators)] w) ∧ sizedMet enc Tryd.prog Tryd.f9 (OpenSpec.ofChange Rows.cfgRunsSpec) false w args)
      (Rows.cfgRunsSpec.post enc Tryd.prog Tryd.f9 false true false false) := by
  refine returnsInHanded_of_change_and (C := Tryd.checked) (X := fun w _ => laidMet Tryd.prog [("ontime/isa.formats", Rows.laid_ontime_isa_formats), ("ontime/core.operators", Rows.laid_ontime_core_operators)] w) (fun _ _ _ hh h => h.of_heap hh) own started (by kernel_rfl) Tryd.func9
    (ChangeSpec.witness_at (enc := enc) (C := Tryd.checked) (os := os) (X := fun w _ => laidMet Tryd.prog [("ontime/isa.formats", Rows.laid_ontime_isa_formats), ("ontime/core.operators", Rows.laid_ontime_core_operators)] w) false (laidWorld2 os) #[.agg #[.slice none 0 0, .slice none 0 0, .int .i64 0, .int .i64 0], .int .i64 0, .slice none 0 0, .slice none 0 0, .slice none 0 0] 8 rfl (by kernel_rfl) (by kernel_rfl) (by kernel_rfl) (by kernel_rfl) (by kernel_rfl) (laid_met2 os _)) ?_
  intro W base args ds gs before hval0 hW hcnd _ hL _
  have hval : ∀ (j : Nat) t v, Tryd.f9.params[j]? = some t → args[j]? = some v → Value.okWide Tryd.prog W .any base t v := hval0
  have hW' := hW
  obtain ⟨p, q, hA0, hV, rfl, hfz, hnd⟩ := hW
  have hA : DataW.TrodAll enc Tryd.prog W 0 (fun _ => true) true Tryd.f9.params.toList args.toList ds p := hA0
  rw [Tryd.params9] at hA hval
  obtain ⟨v0, vs0, d0, ds0, p0, q0, hargs, rfl, rfl, h0, r0⟩ := trodAll_cons hA
  obtain ⟨v1, vs1, d1, ds1, p1, q1, rfl, rfl, rfl, h1, r1⟩ := trodAll_cons r0
  obtain ⟨v2, vs2, d2, ds2, p2, q2, rfl, rfl, rfl, h2, r2⟩ := trodAll_cons r1
  obtain ⟨v3, vs3, d3, ds3, p3, q3, rfl, rfl, rfl, h3, r3⟩ := trodAll_cons r2
  obtain ⟨v4, vs4, d4, ds4, p4, q4, rfl, rfl, rfl, h4, r4⟩ := trodAll_cons r3
  obtain ⟨rfl, rfl, rfl⟩ := trodAll_nil r4
  obtain rfl : args = #[v0, v1, v2, v3, v4] := by cases args; simp_all
  obtain ⟨rfl, rfl⟩ := trodVars_none hV
  have k0 := h0
  have lt0 : ∀ x ∈ p0, x.block < W.heap.size := by obtain ⟨m, hm⟩ := k0; exact DataW.trod_lt m _ _ _ hm
  have k1 := h1
  have lt1 : ∀ x ∈ p1, x.block < W.heap.size := by obtain ⟨m, hm⟩ := k1; exact DataW.trod_lt m _ _ _ hm
  have k2 := h2
  have lt2 : ∀ x ∈ p2, x.block < W.heap.size := by obtain ⟨m, hm⟩ := k2; exact DataW.trod_lt m _ _ _ hm
  have k3 := h3
  have lt3 : ∀ x ∈ p3, x.block < W.heap.size := by obtain ⟨m, hm⟩ := k3; exact DataW.trod_lt m _ _ _ hm
  have k4 := h4
  have lt4 : ∀ x ∈ p4, x.block < W.heap.size := by obtain ⟨m, hm⟩ := k4; exact DataW.trod_lt m _ _ _ hm
  obtain ⟨cv, ev, sh, lk, n, cd, ents, rfl, hWd, hEn⟩ := open_image (hval 0 25 v0 rfl rfl) h0
  obtain ⟨task, rfl, _⟩ := open_int Tryd.underlying3 (hval 1 3 v1 rfl rfl) h1
  obtain ⟨dl, hDa⟩ := open_i32s (hval 2 74 v2 rfl rfl) h2
  obtain ⟨sl, hSh⟩ := open_i32s (hval 3 74 v3 rfl rfl) h3
  obtain ⟨il, hIn⟩ := open_i32s (hval 4 74 v4 rfl rfl) h4
  clear hA0 hval0
  refine (runs_any cv ev sh lk n cd ents task v2 v3 v4 dl sl il W (tab_of_laid2 hL) (optab_of_laid2 hL) hWd hEn hDa hSh hIn).mono fun e W' ⟨he, bel⟩ => ?_
  subst he
  exact ⟨_, rfl, _, _, _, [], _, [], hW', trodAll_mk1 (shut_bool Tryd.underlying4 _), (trodAll_cons_mk (Below.trod laidOut (by kernel_rfl) (of_decide_eq_true (by kernel_rfl)) k0 bel lt0) (trodAll_cons_mk (Below.trod laidOut (by kernel_rfl) (of_decide_eq_true (by kernel_rfl)) k1 bel lt1) (trodAll_cons_mk (Below.trod laidOut (by kernel_rfl) (of_decide_eq_true (by kernel_rfl)) k2 bel lt2) (trodAll_cons_mk (Below.trod laidOut (by kernel_rfl) (of_decide_eq_true (by kernel_rfl)) k3 bel lt3) (trodAll_cons_mk (Below.trod laidOut (by kernel_rfl) (of_decide_eq_true (by kernel_rfl)) k4 bel lt4) trodAll_mk0))))), rfl, bel.frame _, fun h => by cases h⟩

theorem cfgRuns_row : Rows.CfgRunsSaid :=
  OpenClaim.holds_of_wide 9 Tryd.f9 rfl rfl rfl rfl rfl rfl rfl ⟨rfl, rfl, rfl, rfl, rfl⟩ rfl rfl rfl rfl rfl (by kernel_rfl) Tryd.func9 (by kernel_rfl)
    (of_decide_eq_true (by kernel_rfl)) (by unfold Func.isWrapper; first | (rw [if_pos (by decide +kernel)]; kernel_rfl) | (rw [if_neg (by decide +kernel)]; exact ⟨rfl, rfl⟩))
    (fun os started H enc _ => cfgRuns_lifted os started H enc)

/-- The statement. -/
theorem cfgRuns_holds : Rows.CfgRunsCardSaid :=
  Claim7.holds_tied_plain_at .later [] [.data, .data] true (true, "d8ad8d9058df3f2d1075a94f90b9fc955f4b1bd36fb63668ff2a870dd852cd82") false
    cfgRuns_row (fun _ h => by cases h) (by kernel_rfl) (fun _ h => by cases h) cfgRuns_row_tie rfl ⟨rfl, rfl⟩ (by kernel_rfl) rfl
    (fun f fn hf hfn => by
      obtain rfl : f = 9 := Option.some.inj ((show Tryd.prog.funcNamed "ontime/ontimelaw24.CfgRuns" = some 9 by kernel_rfl).symm.trans hf) |>.symm
      obtain rfl : fn = Tryd.f9 := (Option.some.inj (Tryd.func9.symm.trans hfn)).symm
      exact ⟨by kernel_rfl, fun j t ht => by
        rw [Tryd.params9] at ht
        rcases j with _ | _ | _ | _ | _ | j
        · obtain rfl : 25 = t := by simpa using ht
          exact (show Tryd.prog.wantsStandIn 25 = false by kernel_rfl)
        · obtain rfl : 3 = t := by simpa using ht
          exact (show Tryd.prog.wantsStandIn 3 = false by kernel_rfl)
        · obtain rfl : 74 = t := by simpa using ht
          exact (show Tryd.prog.wantsStandIn 74 = false by kernel_rfl)
        · obtain rfl : 74 = t := by simpa using ht
          exact (show Tryd.prog.wantsStandIn 74 = false by kernel_rfl)
        · obtain rfl : 74 = t := by simpa using ht
          exact (show Tryd.prog.wantsStandIn 74 = false by kernel_rfl)
        · simp at ht⟩)
    (by kernel_rfl)

end Go.Proofs.YtfceodpdipniaaaDoor
