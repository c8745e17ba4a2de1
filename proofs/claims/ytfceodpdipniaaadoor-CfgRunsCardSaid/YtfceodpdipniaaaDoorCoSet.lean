/-
  What is proved here: what the functions do that commit an instruction's effect.
-/
import Derived.Test.YtfceodpdipniaaaDoorCoDef
import Derived.Handy
namespace Go.Proofs.YtfceodpdipniaaaDoor
open Go.RowKit
set_option linter.unusedVariables false
set_option linter.unusedSimpArgs false

theorem x_cells {w : World} {xb sb : Nat} {I : Ins} {pc ad vl nx : Int} {tk : Bool} (h : w.heap[xb]? = some (.cells (xCells I pc tk ad vl sb nx) 119 (0, 0))) :
    w.cell? ⟨xb, 0, none⟩ = some (.int .u8 I.op) ∧ w.cell? ⟨xb, 1, none⟩ = some (.int .i64 I.a) ∧ w.cell? ⟨xb, 2, none⟩ = some (.int .i64 I.b) ∧ w.cell? ⟨xb, 3, none⟩ = some (.int .i64 I.c) ∧ w.cell? ⟨xb, 4, none⟩ = some (.int .i64 I.imm) ∧ w.cell? ⟨xb, 5, none⟩ = some (.int .i64 pc) ∧ w.cell? ⟨xb, 6, none⟩ = some (.bool tk) ∧ w.cell? ⟨xb, 7, none⟩ = some (.int .i64 ad) ∧ w.cell? ⟨xb, 8, none⟩ = some (.int .i32 vl) ∧ w.cell? ⟨xb, 9, none⟩ = some (.pointer (some ⟨sb, 0, none⟩)) ∧ w.cell? ⟨xb, 10, none⟩ = some (.int .i64 nx) ∧ ∀ o, w.frozen? ⟨xb, o, none⟩ = false := by
  refine ⟨?_, ?_, ?_, ?_, ?_, ?_, ?_, ?_, ?_, ?_, ?_, fun o => ?_⟩ <;> simp [World.cell?, World.frozen?, h, xCells]

theorem nothing_any (w : World) : Calls Tryd.prog 63 #[] w fun e w' => e = .returned (.tuple #[]) ∧ w = w' := by
  go_enter Tryd.func63, Tryd.ntmps63
  go_wp2
  go_returns
  exact ⟨rfl, rfl⟩

set_option maxHeartbeats 1000000 in
theorem setC_any (xb sb c0 c1 : Nat) (I : Ins) (pc ad vl nx : Int) (tk : Bool) (a : Nat) (ha : I.a = (a : Int)) (ha2 : a < 16) (v : Int) (hv : W32 v) (s : St) (w : World)
    (hx : w.heap[xb]? = some (.cells (xCells I pc tk ad vl sb nx) 119 (0, 0))) (h0 : w.cell? ⟨c0, 0, none⟩ = some (.pointer (some ⟨xb, 0, none⟩))) (h1 : w.cell? ⟨c1, 0, none⟩ = some (.int .i32 v)) (hM : Mach w sb s) :
    Calls Tryd.prog 71 #[.pointer (some ⟨c0, 0, none⟩), .pointer (some ⟨c1, 0, none⟩)] w fun e w' => e = .returned (.tuple #[]) ∧ Mach w' sb { s with r := setR s.r I.a v } ∧ Fr (· = sb) w w' := by
  obtain ⟨-, x1, -, -, -, -, -, -, -, x9, -, -⟩ := x_cells hx
  rw [ha] at x1 ⊢
  have r1 := hM.reg ha2
  have f1 := hM.fz (1 + a)
  have HM := Lib.hid hM
  have l1 := hM.lt
  clear hx hM ha
  by_cases h : a = 0
  · subst h
    go_enter Tryd.func71, Tryd.ntmps71
    go_wp2
    go_returns
    refine ⟨rfl, ?_, Fr.refl _ _⟩
    simpa [setR] using HM.out
  · have d : ((a : Int) != 0) = true := by simp; omega
    have dd : (a != 0) = true := by simp; omega
    have HH := Lib.hid h
    have g1 : decide ((a : Int) < 0) = false := by simp
    have g2 : decide ((16 : Int) ≤ (a : Int)) = false := by simp; omega
    have ga : (a : Int) < 16 := by omega
    clear h
    go_enter Tryd.func71, Tryd.ntmps71
    go_upto_region 1 with fail
    go_region
    all_goals
      go_wp2
      go_returns
      refine ⟨rfl, ?_, ?_⟩
      · have h := (HM.out.setReg ha2 hv).drew
        rw [show setR s.r (a : Int) v = s.r.set a v by unfold setR; rw [if_neg (by have := HH.out; omega)]; simp]
        exact h
      · exact ((Fr.refl (· = sb) _).set _ (.inl rfl)).drew

/-- A word is stored into a row of the memory's own. -/
theorem row_store {w : World} {B n cap mb : Nat} {ml : List Int} (h : w.ownsRow B 21 1 (.slice (some ⟨mb, 0, none⟩) n cap) n (i32s ml)) (k : Nat) (x : Int) :
    (w.setCell ⟨mb, k, none⟩ (.int .i32 x)).ownsRow B 21 1 (.slice (some ⟨mb, 0, none⟩) n cap) n (i32s (ml.set k x)) := by
  have h1 := (h.stored k (.int .i32 x)).1
  rw [show (i32s ml).set k (.int .i32 x) = i32s (ml.set k x) by simp [i32s, List.map_set]] at h1
  exact h1
theorem row_at {w : World} {B n cap mb : Nat} {ml : List Int} (h : w.ownsRow B 21 1 (.slice (some ⟨mb, 0, none⟩) n cap) n (i32s ml)) (k : Nat) (hk : k < n) : w.cell? ⟨mb, k, none⟩ = some (.int .i32 (ml.getD k 0)) := by
  have hl : ml.length = n := by have := h.1; simpa using this
  rw [h.cellAt k (by omega)]
  simp [List.getD, List.getElem?_eq_getElem (show k < ml.length by omega)]

set_option maxHeartbeats 1000000 in
theorem accC_any (mb n cap ad sb c0 ib mc ac B : Nat) (I : Ins) (a : Nat) (ha : I.a = (a : Int)) (ha2 : a < 16) (hn : ad < n) (hn2 : n ≤ 1000000) (s : St) (ml : List Int) (w : World)
    (hi : w.cell? ⟨ib, 1, none⟩ = some (.int .i64 I.a)) (h0 : w.cell? ⟨c0, 0, none⟩ = some (.pointer (some ⟨sb, 0, none⟩))) (h1 : w.cell? ⟨mc, 0, none⟩ = some (.slice (some ⟨mb, 0, none⟩) n cap)) (h2 : w.cell? ⟨ac, 0, none⟩ = some (.int .i64 (ad : Int))) (hM : Mach w sb s)
    (hr : w.ownsRow B 21 1 (.slice (some ⟨mb, 0, none⟩) n cap) n (i32s ml)) :
    Calls Tryd.prog 72 #[.pointer (some ⟨c0, 0, none⟩), .pointer (some ⟨ib, 0, none⟩), .pointer (some ⟨mc, 0, none⟩), .pointer (some ⟨ac, 0, none⟩)] w fun e w' => e = .returned (.tuple #[]) ∧ w'.ownsRow B 21 1 (.slice (some ⟨mb, 0, none⟩) n cap) n (i32s (ml.set ad (s.r.getD a 0))) ∧ Fr (· = mb) w w' := by
  rw [ha] at hi
  have r1 := hM.reg ha2
  have l1 := hM.lt
  have m1 := row_at hr ad hn
  have m2 : w.frozen? ⟨mb, ad, none⟩ = false := hr.frozenAt ad
  have l2 : mb < w.heap.size := (hr.lt mb rfl).2
  have HR := Lib.hid hr
  have g1 : decide ((a : Int) < 0) = false := by simp
  have g2 : decide ((16 : Int) ≤ (a : Int)) = false := by simp; omega
  have g3 : decide ((ad : Int) < 0) = false := by simp
  have g4 : decide ((n : Int) ≤ (ad : Int)) = false := by simp; omega
  have ga : (a : Int) < 16 := by omega
  have gb : (ad : Int) < (n : Int) := by omega
  clear hr hM
  go_enter Tryd.func72, Tryd.ntmps72
  go_region
  all_goals
    go_wp2
    go_returns
    refine ⟨rfl, ?_, ?_⟩
    · exact row_store HR.out ad _
    · exact ((Fr.refl (· = mb) _).set _ (.inl rfl)).drew

set_option maxHeartbeats 1000000 in
theorem ctlC1_any (sb ib c1 : Nat) (im : Int) (s : St) (w : World) (hi : w.cell? ⟨ib, 4, none⟩ = some (.int .i64 im)) (h0 : w.cell? ⟨c1, 0, none⟩ = some (.pointer (some ⟨sb, 0, none⟩))) (hM : Mach w sb s) :
    Calls Tryd.prog 73 #[.pointer (some ⟨ib, 0, none⟩), .pointer (some ⟨c1, 0, none⟩)] w fun e w' => e = .returned (.tuple #[]) ∧ Mach w' sb { s with held := im } ∧ Fr (· = sb) w w' := by
  have r1 := hM.held
  have r2 := hM.fz 19
  have l1 := hM.lt
  have HM := Lib.hid hM
  clear hM
  go_enter Tryd.func73, Tryd.ntmps73
  go_wp2
  go_returns
  exact ⟨rfl, HM.out.setHeld im, (Fr.refl (· = sb) _).set _ (.inl rfl)⟩
set_option maxHeartbeats 1000000 in
theorem ctlC2_any (sb c1 : Nat) (s : St) (w : World) (h0 : w.cell? ⟨c1, 0, none⟩ = some (.pointer (some ⟨sb, 0, none⟩))) (hM : Mach w sb s) :
    Calls Tryd.prog 74 #[.pointer (some ⟨c1, 0, none⟩)] w fun e w' => e = .returned (.tuple #[]) ∧ Mach w' sb { s with held := -1 } ∧ Fr (· = sb) w w' := by
  have r1 := hM.held
  have r2 := hM.fz 19
  have l1 := hM.lt
  have HM := Lib.hid hM
  clear hM
  go_enter Tryd.func74, Tryd.ntmps74
  go_wp2
  go_returns
  exact ⟨rfl, HM.out.setHeld (-1), (Fr.refl (· = sb) _).set _ (.inl rfl)⟩
set_option maxHeartbeats 1000000 in
theorem ctlC3_any (sb c1 : Nat) (s : St) (w : World) (h0 : w.cell? ⟨c1, 0, none⟩ = some (.pointer (some ⟨sb, 0, none⟩))) (hM : Mach w sb s) :
    Calls Tryd.prog 75 #[.pointer (some ⟨c1, 0, none⟩)] w fun e w' => e = .returned (.tuple #[]) ∧ Mach w' sb { s with hal := true } ∧ Fr (· = sb) w w' := by
  have r1 := hM.hal
  have r2 := hM.fz 18
  have l1 := hM.lt
  have HM := Lib.hid hM
  clear hM
  go_enter Tryd.func75, Tryd.ntmps75
  go_wp2
  go_returns
  exact ⟨rfl, HM.out.setHal true, (Fr.refl (· = sb) _).set _ (.inl rfl)⟩

set_option maxHeartbeats 1000000 in
theorem set_any (xb : Nat) (v : Int) (w : World) :
    Calls Tryd.prog 64 #[.pointer (some ⟨xb, 0, none⟩), .int .i32 v] w fun e w' => (∃ c0 c1, e = .returned (.func (.func 71) #[] #[.pointer (some ⟨c0, 0, none⟩), .pointer (some ⟨c1, 0, none⟩)]) ∧ w'.cell? ⟨c0, 0, none⟩ = some (.pointer (some ⟨xb, 0, none⟩)) ∧ w'.cell? ⟨c1, 0, none⟩ = some (.int .i32 v)) ∧ Below w.heap.size w w' := by
  go_enter Tryd.func64, Tryd.ntmps64
  go_wp2
  go_ret
  refine ⟨⟨_, _, rfl, ?_, ?_⟩, ((Below.refl _ _).alloc (Nat.le_refl _) _).alloc (by simp) _⟩
  · simp [go_sem]
  · simp [go_sem]

end Go.Proofs.YtfceodpdipniaaaDoor
