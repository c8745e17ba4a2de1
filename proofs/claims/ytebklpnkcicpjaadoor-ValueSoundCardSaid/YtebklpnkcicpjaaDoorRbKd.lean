/-
 What is proved here: what control and branch return.
-/
import Derived.Test.YtebklpnkcicpjaaDoorRbKa
import Derived.Handy
import Derived.Test.YtebklpnkcicpjaaDoorRbCb
import Derived.Deep.RegionWith
import Derived.Deep.RegionHeld3
import Derived.Deep.DeepCutAuto
namespace Go.Proofs.YtebklpnkcicpjaaDoor
open Go.RowKit
set_option linter.unusedVariables false
set_option linter.unusedSimpArgs false

theorem x_cells {w : World} {xb sb : Nat} {I : Ins} {pc ad vl nx : Int} {tk : Bool} (h : w.heap[xb]? = some (.cells (xCells I pc tk ad vl sb nx) 126 (0, 0))) :
  w.cell? ⟨xb, 0, none⟩ = some (.int .u8 I.op) ∧ w.cell? ⟨xb, 1, none⟩ = some (.int .i64 I.a) ∧ w.cell? ⟨xb, 2, none⟩ = some (.int .i64 I.b) ∧ w.cell? ⟨xb, 3, none⟩ = some (.int .i64 I.c) ∧ w.cell? ⟨xb, 4, none⟩ = some (.int .i64 I.imm) ∧ w.cell? ⟨xb, 5, none⟩ = some (.int .i64 pc) ∧ w.cell? ⟨xb, 6, none⟩ = some (.bool tk) ∧ w.cell? ⟨xb, 7, none⟩ = some (.int .i64 ad) ∧ w.cell? ⟨xb, 8, none⟩ = some (.int .i32 vl) ∧ w.cell? ⟨xb, 9, none⟩ = some (.pointer (some ⟨sb, 0, none⟩)) ∧ w.cell? ⟨xb, 10, none⟩ = some (.int .i64 nx) ∧ ∀ o, w.frozen? ⟨xb, o, none⟩ = false := by
 refine ⟨?_, ?_, ?_, ?_, ?_, ?_, ?_, ?_, ?_, ?_, ?_, fun o => ?_⟩ <;> simp [World.cell?, World.frozen?, h, xCells]

theorem nothing_any (w : World) : Calls Tryd.prog 73 #[] w fun e w' => e = .returned (.tuple #[]) ∧ w = w' := by
 go_enter Tryd.func73, Tryd.ntmps73
 go_wp2
 go_returns
 exact ⟨rfl, rfl⟩

set_option maxHeartbeats 1000000 in
theorem setC_any (xb sb c0 c1 : Nat) (I : Ins) (pc ad vl nx : Int) (tk : Bool) (a : Nat) (ha : I.a = (a : Int)) (ha2 : a < 16) (v : Int) (hv : W32 v) (s : St) (w : World)
  (hx : w.heap[xb]? = some (.cells (xCells I pc tk ad vl sb nx) 126 (0, 0))) (h0 : w.cell? ⟨c0, 0, none⟩ = some (.pointer (some ⟨xb, 0, none⟩))) (h1 : w.cell? ⟨c1, 0, none⟩ = some (.int .i32 v)) (hM : Mach w sb s) :
  Calls Tryd.prog 88 #[.pointer (some ⟨c0, 0, none⟩), .pointer (some ⟨c1, 0, none⟩)] w fun e w' => e = .returned (.tuple #[]) ∧ Mach w' sb { s with r := setR s.r I.a v } ∧ Fr (· = sb) w w' := by
 obtain ⟨-, x1, -, -, -, -, -, -, -, x9, -, -⟩ := x_cells hx
 rw [ha] at x1 ⊢
 have r1 := hM.reg ha2
 have f1 := hM.fz (1 + a)
 have HM := Lib.hid hM
 have l1 := hM.lt
 clear hx hM ha
 by_cases h : a = 0
 ·subst h
  go_enter Tryd.func88, Tryd.ntmps88
  go_wp2
  go_returns
  refine ⟨rfl, ?_, Fr.refl _ _⟩
  simpa [setR] using HM.out
 ·have d : ((a : Int) != 0) = true := by simp; omega
  have dd : (a != 0) = true := by simp; omega
  have HH := Lib.hid h
  have g1 : decide ((a : Int) < 0) = false := by simp
  have g2 : decide ((16 : Int) ≤ (a : Int)) = false := by simp; omega
  have ga : (a : Int) < 16 := by omega
  clear h
  go_enter Tryd.func88, Tryd.ntmps88
  go_upto_region 1 with fail
  go_region
  all_goals
   go_wp2
   go_returns
   refine ⟨rfl, ?_, ?_⟩
   ·have h := (HM.out.setReg ha2 hv).drew
    rw [show setR s.r (a : Int) v = s.r.set a v by unfold setR; rw [if_neg (by have := HH.out; omega)]; simp]
    exact h
   ·exact ((Fr.refl (· = sb) _).set _ (.inl rfl)).drew

theorem row_store {w : World} {B n cap mb : Nat} {ml : List Int} (h : w.ownsRow B 21 1 (.slice (some ⟨mb, 0, none⟩) n cap) n (i32s ml)) (k : Nat) (x : Int) :
  (w.setCell ⟨mb, k, none⟩ (.int .i32 x)).ownsRow B 21 1 (.slice (some ⟨mb, 0, none⟩) n cap) n (i32s (ml.set k x)) := by
 have h1 := (h.stored k (.int .i32 x)).1
 rw [show (i32s ml).set k (.int .i32 x) = i32s (ml.set k x) by simp [i32s, List.map_set]] at h1
 exact h1
theorem row_at {w : World} {B n cap mb : Nat} {ml : List Int} (h : w.ownsRow B 21 1 (.slice (some ⟨mb, 0, none⟩) n cap) n (i32s ml)) (k : Nat) (hk : k < n) : w.cell? ⟨mb, k, none⟩ = some (.int .i32 (ml.getD k 0)) := by
 have hl : ml.length = n := by have := h.1; simpa using this
 rw [h.cellAt k (by omega)]
 simp [List.getD, List.getElem?_eq_getElem (show k < ml.length by omega)]

set_option maxHeartbeats 1000000 in
theorem accC_any (mb n cap ad sb c0 ib mc ac B : Nat) (I : Ins) (a : Nat) (ha : I.a = (a : Int)) (ha2 : a < 16) (hn : ad < n) (hn2 : n ≤ 1000000) (s : St) (ml : List Int) (w : World)
  (hi : w.cell? ⟨ib, 1, none⟩ = some (.int .i64 I.a)) (h0 : w.cell? ⟨c0, 0, none⟩ = some (.pointer (some ⟨sb, 0, none⟩))) (h1 : w.cell? ⟨mc, 0, none⟩ = some (.slice (some ⟨mb, 0, none⟩) n cap)) (h2 : w.cell? ⟨ac, 0, none⟩ = some (.int .i64 (ad : Int))) (hM : Mach w sb s)
  (hr : w.ownsRow B 21 1 (.slice (some ⟨mb, 0, none⟩) n cap) n (i32s ml)) :
  Calls Tryd.prog 89 #[.pointer (some ⟨c0, 0, none⟩), .pointer (some ⟨ib, 0, none⟩), .pointer (some ⟨mc, 0, none⟩), .pointer (some ⟨ac, 0, none⟩)] w fun e w' => e = .returned (.tuple #[]) ∧ w'.ownsRow B 21 1 (.slice (some ⟨mb, 0, none⟩) n cap) n (i32s (ml.set ad (s.r.getD a 0))) ∧ Fr (· = mb) w w' := by
 rw [ha] at hi
 have r1 := hM.reg ha2
 have l1 := hM.lt
 have m1 := row_at hr ad hn
 have m2 : w.frozen? ⟨mb, ad, none⟩ = false := hr.frozenAt ad
 have l2 : mb < w.heap.size := (hr.lt mb rfl).2
 have HR := Lib.hid hr
 have g1 : decide ((a : Int) < 0) = false := by simp
 have g2 : decide ((16 : Int) ≤ (a : Int)) = false := by simp; omega
 have g3 : decide ((ad : Int) < 0) = false := by simp
 have g4 : decide ((n : Int) ≤ (ad : Int)) = false := by simp; omega
 have ga : (a : Int) < 16 := by omega
 have gb : (ad : Int) < (n : Int) := by omega
 clear hr hM
 go_enter Tryd.func89, Tryd.ntmps89
 go_region
 all_goals
  go_wp2
  go_returns
  refine ⟨rfl, ?_, ?_⟩
  ·exact row_store HR.out ad _
  ·exact ((Fr.refl (· = mb) _).set _ (.inl rfl)).drew

set_option maxHeartbeats 1000000 in
theorem ctlC1_any (sb ib c1 : Nat) (im : Int) (s : St) (w : World) (hi : w.cell? ⟨ib, 4, none⟩ = some (.int .i64 im)) (h0 : w.cell? ⟨c1, 0, none⟩ = some (.pointer (some ⟨sb, 0, none⟩))) (hM : Mach w sb s) :
  Calls Tryd.prog 90 #[.pointer (some ⟨ib, 0, none⟩), .pointer (some ⟨c1, 0, none⟩)] w fun e w' => e = .returned (.tuple #[]) ∧ Mach w' sb { s with held := im } ∧ Fr (· = sb) w w' := by
 have r1 := hM.held
 have r2 := hM.fz 19
 have l1 := hM.lt
 have HM := Lib.hid hM
 clear hM
 go_enter Tryd.func90, Tryd.ntmps90
 go_wp2
 go_returns
 exact ⟨rfl, HM.out.setHeld im, (Fr.refl (· = sb) _).set _ (.inl rfl)⟩
set_option maxHeartbeats 1000000 in
theorem ctlC2_any (sb c1 : Nat) (s : St) (w : World) (h0 : w.cell? ⟨c1, 0, none⟩ = some (.pointer (some ⟨sb, 0, none⟩))) (hM : Mach w sb s) :
  Calls Tryd.prog 91 #[.pointer (some ⟨c1, 0, none⟩)] w fun e w' => e = .returned (.tuple #[]) ∧ Mach w' sb { s with held := -1 } ∧ Fr (· = sb) w w' := by
 have r1 := hM.held
 have r2 := hM.fz 19
 have l1 := hM.lt
 have HM := Lib.hid hM
 clear hM
 go_enter Tryd.func91, Tryd.ntmps91
 go_wp2
 go_returns
 exact ⟨rfl, HM.out.setHeld (-1), (Fr.refl (· = sb) _).set _ (.inl rfl)⟩
set_option maxHeartbeats 1000000 in
theorem ctlC3_any (sb c1 : Nat) (s : St) (w : World) (h0 : w.cell? ⟨c1, 0, none⟩ = some (.pointer (some ⟨sb, 0, none⟩))) (hM : Mach w sb s) :
  Calls Tryd.prog 92 #[.pointer (some ⟨c1, 0, none⟩)] w fun e w' => e = .returned (.tuple #[]) ∧ Mach w' sb { s with hal := true } ∧ Fr (· = sb) w w' := by
 have r1 := hM.hal
 have r2 := hM.fz 18
 have l1 := hM.lt
 have HM := Lib.hid hM
 clear hM
 go_enter Tryd.func92, Tryd.ntmps92
 go_wp2
 go_returns
 exact ⟨rfl, HM.out.setHal true, (Fr.refl (· = sb) _).set _ (.inl rfl)⟩

set_option maxHeartbeats 1000000 in
theorem set_any (xb : Nat) (v : Int) (w : World) :
  Calls Tryd.prog 74 #[.pointer (some ⟨xb, 0, none⟩), .int .i32 v] w fun e w' => (∃ c0 c1, e = .returned (.func (.func 88) #[] #[.pointer (some ⟨c0, 0, none⟩), .pointer (some ⟨c1, 0, none⟩)]) ∧ w'.cell? ⟨c0, 0, none⟩ = some (.pointer (some ⟨xb, 0, none⟩)) ∧ w'.cell? ⟨c1, 0, none⟩ = some (.int .i32 v)) ∧ Below w.heap.size w w' := by
 go_enter Tryd.func74, Tryd.ntmps74
 go_wp2
 go_ret
 refine ⟨⟨_, _, rfl, ?_, ?_⟩, ((Below.refl _ _).alloc (Nat.le_refl _) _).alloc (by simp) _⟩
 ·simp [go_sem]
 ·simp [go_sem]

end Go.Proofs.YtebklpnkcicpjaaDoor

namespace Go.Proofs.YtebklpnkcicpjaaDoor
open Go.RowKit
set_option linter.unusedVariables false
set_option linter.unusedSimpArgs false

def reg (s : St) (k : Int) : Int := s.r.getD k.toNat 0
def opr (op : Int) : Int := if op = 13 then 18 else op + 4
def Writes (I : Ins) (s : St) (dl sl : List Int) (v : Int) : Prop :=
 (I.op = 14 ∧ v = I.imm) ∨ (I.op = 15 ∧ v = wrap32 (reg s I.b + I.imm)) ∨ (I.op = 16 ∧ v = wrap32 (reg s I.b * 2 ^ I.imm.toNat)) ∨ (I.op = 17 ∧ v = bits .or .i32 (reg s I.b) I.imm) ∨
 (I.op = 18 ∧ 0 ≤ reg s I.b + I.imm ∧ reg s I.b + I.imm < dl.length ∧ v = dl.getD (reg s I.b + I.imm).toNat 0) ∨ (I.op = 20 ∧ 0 ≤ reg s I.b + I.imm ∧ reg s I.b + I.imm < sl.length ∧ v = sl.getD (reg s I.b + I.imm).toNat 0) ∨
 (I.op = 26 ∧ W32 v) ∨ (2 ≤ I.op ∧ I.op ≤ 13 ∧ we (opr I.op) (reg s I.c) = 0 ∧ v = wv (opr I.op) (reg s I.b) (reg s I.c))
def taken (I : Ins) (s : St) : Bool := decide (I.op = 24) || (decide (reg s I.a = 0) == decide (I.op = 22))
inductive StepOk (I : Ins) (lk : Int) (s : St) (dl sl : List Int) : Int → St → List Int → List Int → Prop
 | plain (h : I.op = 0 ∨ I.op = 27 ∨ (I.op = 25 ∧ 0 ≤ reg s I.a ∧ reg s I.a < I.imm)) : StepOk I lk s dl sl (s.pc + 1) s dl sl
 | set (v : Int) (h : Writes I s dl sl v) : StepOk I lk s dl sl (s.pc + 1) { s with r := setR s.r I.a v } dl sl
 | st (h : I.op = 19) (h0 : 0 ≤ reg s I.b + I.imm) (h1 : reg s I.b + I.imm < dl.length) : StepOk I lk s dl sl (s.pc + 1) s (dl.set (reg s I.b + I.imm).toNat (reg s I.a)) sl
 | sts (h : I.op = 21) (h0 : 0 ≤ reg s I.b + I.imm) (h1 : reg s I.b + I.imm < sl.length) : StepOk I lk s dl sl (s.pc + 1) s dl (sl.set (reg s I.b + I.imm).toNat (reg s I.a))
 | br (h : isBr I.op = true) : StepOk I lk s dl sl (if taken I s = true then s.pc + 1 + I.imm else s.pc + 1) s dl sl
 | lock (h : I.op = 28) (h0 : s.held < 0) (h1 : I.imm < lk) : StepOk I lk s dl sl (s.pc + 1) { s with held := I.imm } dl sl
 | unlock (h : I.op = 29) (h0 : s.held = I.imm) : StepOk I lk s dl sl (s.pc + 1) { s with held := -1 } dl sl
 | halt (h : I.op = 1) (h0 : s.held < 0) : StepOk I lk s dl sl s.pc { s with hal := true } dl sl

structure Job (w : World) (sb : Nat) (s : St) (dl : List Int) (sv : Value) (sl : List Int) : Prop where
 m : Mach w sb s
 d : w.ownsRow 0 21 1 s.d dl.length (i32s dl)
 sh : w.ownsRow 0 21 1 sv sl.length (i32s sl)
 ne : ∀ q, s.d.ownBlock = some q → sv.ownBlock ≠ some q
 dw : ∀ x ∈ dl, W32 x
 sw : ∀ x ∈ sl, W32 x
 dn : dl.length ≤ 1000000
 sn : sl.length ≤ 1000000
def Jb (sb : Nat) (dv sv : Value) (k : Nat) : Prop := k = sb ∨ dv.ownBlock = some k ∨ sv.ownBlock = some k
theorem row_block {w : World} {v : Value} {n k B : Nat} {xs : List Value} (h : w.ownsRow B 21 1 v n xs) (e : v.ownBlock = some k) : ∃ cur, w.heap[k]? = some (.cells cur 21 (0, 0)) := by
 rcases h.2 with ⟨rfl, _⟩ | ⟨g, cap, cur, rfl, _, hk, _⟩
 ·simp [Value.ownBlock] at e
 ·simp only [Value.ownBlock, Option.some.injEq] at e
  subst e
  exact ⟨cur, hk⟩
section
variable {w : World} {sb : Nat} {s : St} {dl : List Int} {sv : Value} {sl : List Int}
theorem Job.dne (h : Job w sb s dl sv sl) : s.d.ownBlock ≠ some sb := fun e => by
 obtain ⟨cur, hc⟩ := row_block h.d e
 have := hc.symm.trans h.m.blk
 simp at this
theorem Job.sne (h : Job w sb s dl sv sl) : sv.ownBlock ≠ some sb := fun e => by
 obtain ⟨cur, hc⟩ := row_block h.sh e
 have := hc.symm.trans h.m.blk
 simp at this
theorem Job.lt (h : Job w sb s dl sv sl) {k : Nat} (hk : Jb sb s.d sv k) : k < w.heap.size := by
 rcases hk with rfl | e | e
 ·exact h.m.lt
 ·obtain ⟨cur, hc⟩ := row_block h.d e; exact lt_of_blk' hc
 ·obtain ⟨cur, hc⟩ := row_block h.sh e; exact lt_of_blk' hc
theorem Job.keep {S : Nat → Prop} {w' : World} (h : Job w sb s dl sv sl) (f : Fr S w w') (hn : ∀ k, Jb sb s.d sv k → ¬ S k) : Job w' sb s dl sv sl :=
 ⟨h.m.keep (f.block sb h.m.lt (hn sb (.inl rfl))), f.own h.d (fun q hq => hn q (.inr (.inl hq))), f.own h.sh (fun q hq => hn q (.inr (.inr hq))), h.ne, h.dw, h.sw, h.dn, h.sn⟩
theorem Job.later {w' : World} (h : Job w sb s dl sv sl) (b : Below w.heap.size w w') : Job w' sb s dl sv sl := h.keep (S := fun _ => False) (Fr.of b) (fun _ _ h => h)
theorem Job.state {w' : World} {s' : St} (h : Job w sb s dl sv sl) (hm : Mach w' sb s') (f : Fr (· = sb) w w') (hd : s'.d = s.d) : Job w' sb s' dl sv sl :=
 ⟨hm, by rw [hd]; exact f.own h.d (fun q hq e => h.dne (by rw [← e]; exact hq)), f.own h.sh (fun q hq e => h.sne (by rw [← e]; exact hq)), by rw [hd]; exact h.ne, h.dw, h.sw, h.dn, h.sn⟩
end

def Commit (fv : Value) (W : World) (R : World → Prop) : Prop :=
 ∃ (fid : FuncId) (caps : Array Value), fv = .func (.func fid) #[] caps ∧ (∀ w, (callFunc fid caps).run Tryd.prog w = .ok (.enter fid caps) w) ∧ Calls Tryd.prog fid caps W fun e w' => e = .returned (.tuple #[]) ∧ R w'
structure Port (w : World) (pv : Value) (Sp : Nat → Prop) (Rp : World → Prop) : Prop where
 old : ∀ k, Sp k → k < w.heap.size
 st : ∀ (S : Nat → Prop) (W W' : World), Rp W → Fr S W W' → (∀ k, Sp k → ¬ S k) → Rp W'
 fn : pv = .nilFunc ∨ ∃ (fid : FuncId) (caps : Array Value), pv = .func (.func fid) #[] caps ∧ (∀ (x : Int) w, (callFunc fid (#[.int .i64 x] ++ caps)).run Tryd.prog w = .ok (.enter fid (#[.int .i64 x] ++ caps)) w) ∧
  (∀ w, (binOp .neq 84 (.func (.func fid) #[] caps) .nilFunc).run Tryd.prog w = .ok (.bool true) w) ∧
  ∀ (x : Int) (W : World), Below w.heap.size w W → Calls Tryd.prog fid (#[.int .i64 x] ++ caps) W fun e w' => ∃ v, W32 v ∧ e = .returned (.int .i32 v) ∧ Fr Sp W w' ∧ Rp w'
def PrepPost (w : World) (xb sb : Nat) (I : Ins) (lk : Int) (s : St) (dl : List Int) (sv : Value) (sl : List Int) (Sp : Nat → Prop) (Rp : World → Prop) (e : Ending) (w' : World) : Prop :=
 (∃ fv er, er ≠ 0 ∧ e = .returned (.tuple #[fv, .int .i64 er]) ∧ Below w.heap.size w w') ∨
 (∃ fv nx tk ad vl s' dl' sl', e = .returned (.tuple #[fv, .int .i64 0]) ∧ w'.heap[xb]? = some (.cells (xCells I s.pc tk ad vl sb nx) 126 (0, 0)) ∧ Fr (fun k => k = xb ∨ Sp k) w w' ∧ (Fr (· = xb) w w' ∨ Rp w') ∧ StepOk I lk s dl sl nx s' dl' sl' ∧ (I.op = 27 → vl = reg s I.a) ∧
  Commit fv w' fun w2 => Job w2 sb s' dl' sv sl' ∧ Fr (Jb sb s.d sv) w' w2)
theorem PrepPost.same {w w' : World} {xb sb : Nat} {I : Ins} {lk : Int} {s : St} {dl : List Int} {sv : Value} {sl : List Int} {Sp : Nat → Prop} {Rp : World → Prop} {fv : Value} {nx ad vl : Int} {tk : Bool} {s' : St} {dl' sl' : List Int} {e : Ending}
  (he : e = .returned (.tuple #[fv, .int .i64 0])) (hx : w'.heap[xb]? = some (.cells (xCells I s.pc tk ad vl sb nx) 126 (0, 0))) (hf : Fr (· = xb) w w') (hs : StepOk I lk s dl sl nx s' dl' sl') (hv : I.op = 27 → vl = reg s I.a)
  (hc : Commit fv w' fun w2 => Job w2 sb s' dl' sv sl' ∧ Fr (Jb sb s.d sv) w' w2) : PrepPost w xb sb I lk s dl sv sl Sp Rp e w' := .inr ⟨fv, nx, tk, ad, vl, s', dl', sl', he, hx, hf.mono fun k _ e => .inl e, .inl hf, hs, hv, hc⟩
theorem commit_set {w : World} {xb sb c0 c1 : Nat} {I : Ins} {pc ad vl nx : Int} {tk : Bool} {s : St} {dl : List Int} {sv : Value} {sl : List Int} {v : Int} (hJ : Job w sb s dl sv sl) (h0 : 0 ≤ I.a) (h16 : I.a < 16) (hv : W32 v)
  (hx : w.heap[xb]? = some (.cells (xCells I pc tk ad vl sb nx) 126 (0, 0))) (k0 : w.cell? ⟨c0, 0, none⟩ = some (.pointer (some ⟨xb, 0, none⟩))) (k1 : w.cell? ⟨c1, 0, none⟩ = some (.int .i32 v)) :
  Commit (.func (.func 88) #[] #[.pointer (some ⟨c0, 0, none⟩), .pointer (some ⟨c1, 0, none⟩)]) w fun w2 => Job w2 sb { s with r := setR s.r I.a v } dl sv sl ∧ Fr (Jb sb s.d sv) w w2 :=
 ⟨_, _, rfl, fun w => by kernel_rfl, (setC_any xb sb c0 c1 I pc ad vl nx tk I.a.toNat (by omega) (by omega) v hv s w hx k0 k1 hJ.m).mono fun e w' ⟨h1, h2, h3⟩ => ⟨h1, hJ.state h2 h3 rfl, h3.mono fun k _ e => .inl e⟩⟩
theorem commit_nothing {w : World} {sb : Nat} {s : St} {dl : List Int} {sv : Value} {sl : List Int} (hJ : Job w sb s dl sv sl) :
  Commit (.func (.func 73) #[] #[]) w fun w2 => Job w2 sb s dl sv sl ∧ Fr (Jb sb s.d sv) w w2 :=
 ⟨_, _, rfl, fun w => by kernel_rfl, (nothing_any w).mono fun e w' ⟨h1, h2⟩ => ⟨h1, by subst h2; exact hJ, by subst h2; exact Fr.refl _ _⟩⟩
theorem reg_nat (s : St) (k : Nat) : reg s (k : Int) = s.r.getD k 0 := by simp [reg]

end Go.Proofs.YtebklpnkcicpjaaDoor

namespace Go.Proofs.YtebklpnkcicpjaaDoor
open Go.RowKit
set_option linter.unusedVariables false
set_option linter.unusedSimpArgs false

theorem ins_cells {w : World} {ib : Nat} {o a b c i : Int} (h : w.heap[ib]? = some (.cells #[.int .u8 o, .int .i64 a, .int .i64 b, .int .i64 c, .int .i64 i] 23 (0, 0))) :
  w.cell? ⟨ib, 0, none⟩ = some (.int .u8 o) ∧ w.cell? ⟨ib, 1, none⟩ = some (.int .i64 a) ∧ w.cell? ⟨ib, 2, none⟩ = some (.int .i64 b) ∧ w.cell? ⟨ib, 3, none⟩ = some (.int .i64 c) ∧ w.cell? ⟨ib, 4, none⟩ = some (.int .i64 i) ∧ ib < w.heap.size := by
 refine ⟨?_, ?_, ?_, ?_, ?_, lt_of_blk' h⟩ <;> simp [World.cell?, h]
theorem one_cell' {w : World} {b : Nat} {v : Value} {t : TypeId} (h : w.heap[b]? = some (.cells #[v] t (0, 0))) : w.cell? ⟨b, 0, none⟩ = some v ∧ b < w.heap.size := ⟨by simp [World.cell?, h], lt_of_blk' h⟩
theorem two_blocks (W : World) (o1 o2 : Obj) : ((W.drew.alloc o1).alloc o2).heap[W.heap.size]? = some o1 ∧ ((W.drew.alloc o1).alloc o2).heap[W.heap.size + 1]? = some o2 ∧ Below W.heap.size W ((W.drew.alloc o1).alloc o2) := by
 refine ⟨?_, ?_, ((Below.drew (Below.refl _ _)).alloc (by simp) _).alloc (by simp) _⟩
 ·rw [heap_alloc_old _ _ (by simp)]
  exact heap_alloc_new _ _
 ·exact heap_alloc_at _ _ (by simp)

set_option maxRecDepth 20000 in
set_option maxHeartbeats 2000000 in
theorem acc_err (xb sb : Nat) (op im : Int) (a b c : Nat) (hb : b < 16) (him : -131072 ≤ im ∧ im ≤ 131071) (s : St) (mv : Value) (A : Option Addr) (n cap : Nat) (hmv : mv = .slice A n cap) (hn : n ≤ 1000000) (hbad : reg s (b : Int) + im < 0 ∨ (n : Int) ≤ reg s (b : Int) + im) (w : World)
  (hx : w.heap[xb]? = some (.cells (xCells ⟨op, a, b, c, im⟩ s.pc false (-1) 0 sb (s.pc + 1)) 126 (0, 0))) (hM : Mach w sb s) :
  Calls Tryd.prog 75 #[.pointer (some ⟨xb, 0, none⟩), mv] w fun e w' => e = .returned (.tuple #[.nilFunc, .int .i64 10]) ∧ Below w.heap.size w w' := by
 subst hmv
 obtain ⟨W0, hW0⟩ : ∃ W0, w.alloc (.cells #[.slice A n cap] 28) = W0 := ⟨_, rfl⟩
 have b0 : Below w.heap.size w W0 := hW0 ▸ (Below.refl _ _).alloc (Nat.le_refl _) _
 have k0 : W0.heap[w.heap.size]? = some (.cells #[.slice A n cap] 28 (0, 0)) := by rw [← hW0]; exact heap_alloc_new _ _
 have lx0 := lt_of_blk' hx
 have HX0 := Lib.hid ((b0.block xb lx0).trans hx)
 have HM0 := Lib.hid (hM.keep (b0.block sb hM.lt))
 obtain ⟨x0, x1, x2, x3, x4, x5, -, -, -, x9, -, xf⟩ := x_cells HX0.out
 obtain ⟨m0, mlt⟩ := one_cell' k0
 have lx := lt_of_blk' HX0.out
 have B0 := Lib.hid b0
 have K0 := Lib.hid k0
 have hs0 := b0.size
 have LX := Lib.hid lx0
 obtain ⟨mc, hmc⟩ : ∃ mc, w.heap.size = mc := ⟨_, rfl⟩
 have HMC := Lib.hid hmc
 clear hx hM xf b0 k0 lx0
 rw [hmc] at K0 m0 mlt
 simp only at x0 x1 x2 x3 x4
 go_enter Tryd.func75, Tryd.ntmps75
 go_upto_region 1 with fail
 clear hW0
 try rw [hmc]
 clear hmc
 go_cut [6, 7] from 9 to 17 (fun a6 a7 wx => ∃ ib cb, a6 = .pointer (some ⟨ib, 0, none⟩) ∧ a7 = .pointer (some ⟨cb, 0, none⟩) ∧ wx.heap[ib]? = some (.cells #[.int .u8 op, .int .i64 a, .int .i64 b, .int .i64 c, .int .i64 im] 23 (0, 0)) ∧ wx.heap[cb]? = some (.cells #[.pointer (some ⟨sb, 0, none⟩)] 83 (0, 0)) ∧ Below W0.heap.size W0 wx)
 case first =>
  go_region
  all_goals
   go_wp2_with fail
   go_meet
   case rel => first
    | exact ⟨_, _, rfl, rfl, (two_blocks W0 _ _).1, (two_blocks W0 _ _).2.1, (two_blocks W0 _ _).2.2⟩
    | exact ⟨_, _, rfl, rfl, (two_blocks W0 _ _).2.1, (two_blocks W0 _ _).1, (two_blocks W0 _ _).2.2⟩
 case rest =>
  obtain ⟨ib, cb, rfl, rfl, kib, kcb, hbw⟩ := hcut
  obtain ⟨W1, hW1⟩ : ∃ W1 : World, W1 = wc := ⟨_, rfl⟩
  subst hW1
  obtain ⟨i0, i1, i2, i3, i4, li⟩ := ins_cells kib
  obtain ⟨cb0, lcb⟩ := one_cell' kcb
  have HM1 := Lib.hid (HM0.out.keep (hbw.block sb HM0.out.lt))
  have B1 := Lib.hid (B0.out.trans (hbw.mono hs0))
  have HX1 := Lib.hid ((hbw.block xb lx).trans HX0.out)
  have K1 := Lib.hid ((hbw.block mc mlt).trans K0.out)
  have KIB := Lib.hid kib
  have KCB := Lib.hid kcb
  have lsb := HM1.out.lt
  have rgb := HM1.out.reg hb
  have gb : (b : Int) < 16 := by omega
  have gb2 : decide ((16 : Int) ≤ (b : Int)) = false := decide_eq_false (by omega)
  have wrb := HM1.out.reg_in b
  obtain ⟨vb, hvb⟩ : ∃ vb, s.r.getD b 0 = vb := ⟨_, rfl⟩
  rw [hvb] at rgb wrb
  have HVB := Lib.hid (show reg s (b : Int) = vb by rw [reg_nat]; exact hvb)
  unfold W32 at wrb
  have wad : IntKind.i64.wrap (vb + im) = vb + im := IntWalk.i64_in _ (by omega)
  have wvb : IntKind.i64.wrap vb = vb := IntWalk.i64_in _ (by omega)
  clear kib kcb hvb x0 x1 x2 x3 x4 x5 x9 m0 K0
  go_upto_region 2 with fail
  go_cut [8] from 18 to 28 (fun a8 wx => ∃ ab, a8 = .pointer (some ⟨ab, 0, none⟩) ∧ wx.heap[ab]? = some (.cells #[.int .i64 (vb + im)] 3 (0, 0)) ∧ Below W1.heap.size W1 wx ∧ W1.heap.size ≤ ab)
  case first =>
   go_region
   all_goals
    go_wp2_with fail
    go_meet
    case rel => exact ⟨_, rfl, by first | exact heap_alloc_new _ _ | (rw [World.drew]; exact heap_alloc_new _ _), (Below.drew (Below.refl _ _)).alloc (by simp) _, by simp⟩
  case rest =>
   obtain ⟨ab, rfl, kab, hbw2, hab⟩ := hcut
   obtain ⟨W2, hW2⟩ : ∃ W2 : World, W2 = wc := ⟨_, rfl⟩
   subst hW2
   have hs1 := B1.out.size
   have KIB2 := Lib.hid ((hbw2.block ib li).trans KIB.out)
   have KCB2 := Lib.hid ((hbw2.block cb lcb).trans KCB.out)
   have lmc : mc < W1.heap.size := lt_of_blk' K1.out
   have lx1 : xb < W1.heap.size := lt_of_blk' HX1.out
   have KM2 := Lib.hid ((hbw2.block mc lmc).trans K1.out)
   have HX2 := Lib.hid ((hbw2.block xb lx1).trans HX1.out)
   have HM2 := Lib.hid (HM1.out.keep (hbw2.block sb lsb))
   have B2 := Lib.hid (B1.out.trans (hbw2.mono hs1))
   have KAB := Lib.hid kab
   obtain ⟨c0, lab⟩ := one_cell' kab
   obtain ⟨m0, lmc2⟩ := one_cell' KM2.out
   obtain ⟨j0, j1, j2, j3, j4, lib2⟩ := ins_cells KIB2.out
   obtain ⟨x0, x1, x2, x3, x4, x5, x6, x7, x8, x9, x10, xf⟩ := x_cells HX2.out
   have xf7 := xf 7
   have lx2 := lt_of_blk' HX2.out
   have lxw := LX.out
   clear kab hbw2 i0 i1 i2 i3 i4 cb0 rgb xf hbw
   simp only at x0 x1 x2 x3 x4
   rw [HVB.out] at hbad
   by_cases h1 : vb + im < 0
   ·have d := decide_eq_true h1
    clear hbad h1
    go_wp2_with fail
    go_ret2
    exact ⟨rfl, B2.out⟩
   ·have d := decide_eq_false h1
    have d2 : decide ((n : Int) ≤ vb + im) = true := decide_eq_true (by omega)
    clear hbad h1
    go_wp2_with fail
    go_ret2
    exact ⟨rfl, B2.out⟩

set_option maxRecDepth 20000 in
set_option maxHeartbeats 2000000 in
theorem acc_ld18 (xb sb : Nat) (im : Int) (a b c : Nat) (hb : b < 16) (him : -131072 ≤ im ∧ im ≤ 131071) (s : St) (mv : Value) (A : Option Addr) (n cap : Nat) (hmv : mv = .slice A n cap) (hn : n ≤ 1000000) (ml : List Int) (h0 : 0 ≤ reg s (b : Int) + im) (h1 : reg s (b : Int) + im < (n : Int)) (w : World)
  (hx : w.heap[xb]? = some (.cells (xCells ⟨18, a, b, c, im⟩ s.pc false (-1) 0 sb (s.pc + 1)) 126 (0, 0))) (hM : Mach w sb s) (hr : w.ownsRow 0 21 1 mv n (i32s ml)) :
  Calls Tryd.prog 75 #[.pointer (some ⟨xb, 0, none⟩), mv] w fun e w' => (∃ c0 c1, e = .returned (.tuple #[.func (.func 88) #[] #[.pointer (some ⟨c0, 0, none⟩), .pointer (some ⟨c1, 0, none⟩)], .int .i64 0]) ∧ w'.cell? ⟨c0, 0, none⟩ = some (.pointer (some ⟨xb, 0, none⟩)) ∧ w'.cell? ⟨c1, 0, none⟩ = some (.int .i32 (ml.getD (reg s (b : Int) + im).toNat 0))) ∧ w'.heap[xb]? = some (.cells (xCells ⟨18, a, b, c, im⟩ s.pc false (reg s (b : Int) + im) 0 sb (s.pc + 1)) 126 (0, 0)) ∧ Fr (· = xb) w w' := by
 subst hmv
 have hx' := Lib.hid hx
 obtain ⟨W0, hW0⟩ : ∃ W0, w.alloc (.cells #[.slice A n cap] 28) = W0 := ⟨_, rfl⟩
 have b0 : Below w.heap.size w W0 := hW0 ▸ (Below.refl _ _).alloc (Nat.le_refl _) _
 have k0 : W0.heap[w.heap.size]? = some (.cells #[.slice A n cap] 28 (0, 0)) := by rw [← hW0]; exact heap_alloc_new _ _
 have lx0 := lt_of_blk' hx
 have HX0 := Lib.hid ((b0.block xb lx0).trans hx)
 have HM0 := Lib.hid (hM.keep (b0.block sb hM.lt))
 obtain ⟨x0, x1, x2, x3, x4, x5, -, -, -, x9, -, xf⟩ := x_cells HX0.out
 obtain ⟨m0, mlt⟩ := one_cell' k0
 have lx := lt_of_blk' HX0.out
 have B0 := Lib.hid b0
 have K0 := Lib.hid k0
 have hs0 := b0.size
 have LX := Lib.hid lx0
 obtain ⟨mc, hmc⟩ : ∃ mc, w.heap.size = mc := ⟨_, rfl⟩
 have HMC := Lib.hid hmc
 clear hx hM xf b0 k0 lx0
 rw [hmc] at K0 m0 mlt
 simp only at x0 x1 x2 x3 x4
 go_enter Tryd.func75, Tryd.ntmps75
 go_upto_region 1 with fail
 clear hW0
 try rw [hmc]
 clear hmc
 go_cut [6, 7] from 9 to 17 (fun a6 a7 wx => ∃ ib cb, a6 = .pointer (some ⟨ib, 0, none⟩) ∧ a7 = .pointer (some ⟨cb, 0, none⟩) ∧ wx.heap[ib]? = some (.cells #[.int .u8 18, .int .i64 a, .int .i64 b, .int .i64 c, .int .i64 im] 23 (0, 0)) ∧ wx.heap[cb]? = some (.cells #[.pointer (some ⟨sb, 0, none⟩)] 83 (0, 0)) ∧ Below W0.heap.size W0 wx)
 case first =>
  go_region
  all_goals
   go_wp2_with fail
   go_meet
   case rel => first
    | exact ⟨_, _, rfl, rfl, (two_blocks W0 _ _).1, (two_blocks W0 _ _).2.1, (two_blocks W0 _ _).2.2⟩
    | exact ⟨_, _, rfl, rfl, (two_blocks W0 _ _).2.1, (two_blocks W0 _ _).1, (two_blocks W0 _ _).2.2⟩
 case rest =>
  obtain ⟨ib, cb, rfl, rfl, kib, kcb, hbw⟩ := hcut
  obtain ⟨W1, hW1⟩ : ∃ W1 : World, W1 = wc := ⟨_, rfl⟩
  subst hW1
  obtain ⟨i0, i1, i2, i3, i4, li⟩ := ins_cells kib
  obtain ⟨cb0, lcb⟩ := one_cell' kcb
  have HM1 := Lib.hid (HM0.out.keep (hbw.block sb HM0.out.lt))
  have B1 := Lib.hid (B0.out.trans (hbw.mono hs0))
  have HX1 := Lib.hid ((hbw.block xb lx).trans HX0.out)
  have K1 := Lib.hid ((hbw.block mc mlt).trans K0.out)
  have KIB := Lib.hid kib
  have KCB := Lib.hid kcb
  have lsb := HM1.out.lt
  have rgb := HM1.out.reg hb
  have gb : (b : Int) < 16 := by omega
  have gb2 : decide ((16 : Int) ≤ (b : Int)) = false := decide_eq_false (by omega)
  have wrb := HM1.out.reg_in b
  obtain ⟨vb, hvb⟩ : ∃ vb, s.r.getD b 0 = vb := ⟨_, rfl⟩
  rw [hvb] at rgb wrb
  have HVB := Lib.hid (show reg s (b : Int) = vb by rw [reg_nat]; exact hvb)
  unfold W32 at wrb
  have wad : IntKind.i64.wrap (vb + im) = vb + im := IntWalk.i64_in _ (by omega)
  have wvb : IntKind.i64.wrap vb = vb := IntWalk.i64_in _ (by omega)
  clear kib kcb hvb x0 x1 x2 x3 x4 x5 x9 m0 K0
  go_upto_region 2 with fail
  go_cut [8] from 18 to 28 (fun a8 wx => ∃ ab, a8 = .pointer (some ⟨ab, 0, none⟩) ∧ wx.heap[ab]? = some (.cells #[.int .i64 (vb + im)] 3 (0, 0)) ∧ Below W1.heap.size W1 wx ∧ W1.heap.size ≤ ab)
  case first =>
   go_region
   all_goals
    go_wp2_with fail
    go_meet
    case rel => exact ⟨_, rfl, by first | exact heap_alloc_new _ _ | (rw [World.drew]; exact heap_alloc_new _ _), (Below.drew (Below.refl _ _)).alloc (by simp) _, by simp⟩
  case rest =>
   obtain ⟨ab, rfl, kab, hbw2, hab⟩ := hcut
   obtain ⟨W2, hW2⟩ : ∃ W2 : World, W2 = wc := ⟨_, rfl⟩
   subst hW2
   have hs1 := B1.out.size
   have KIB2 := Lib.hid ((hbw2.block ib li).trans KIB.out)
   have KCB2 := Lib.hid ((hbw2.block cb lcb).trans KCB.out)
   have lmc : mc < W1.heap.size := lt_of_blk' K1.out
   have lx1 : xb < W1.heap.size := lt_of_blk' HX1.out
   have KM2 := Lib.hid ((hbw2.block mc lmc).trans K1.out)
   have HX2 := Lib.hid ((hbw2.block xb lx1).trans HX1.out)
   have HM2 := Lib.hid (HM1.out.keep (hbw2.block sb lsb))
   have B2 := Lib.hid (B1.out.trans (hbw2.mono hs1))
   have KAB := Lib.hid kab
   obtain ⟨c0, lab⟩ := one_cell' kab
   obtain ⟨m0, lmc2⟩ := one_cell' KM2.out
   obtain ⟨j0, j1, j2, j3, j4, lib2⟩ := ins_cells KIB2.out
   obtain ⟨x0, x1, x2, x3, x4, x5, x6, x7, x8, x9, x10, xf⟩ := x_cells HX2.out
   have xf7 := xf 7
   have lx2 := lt_of_blk' HX2.out
   have lxw := LX.out
   clear kab hbw2 i0 i1 i2 i3 i4 cb0 rgb xf hbw
   simp only at x0 x1 x2 x3 x4
   obtain ⟨mb, hA⟩ : ∃ mb, A = some ⟨mb, 0, none⟩ := by
    rcases hr.2 with ⟨h, h'⟩ | ⟨g, cap', cur, h, _⟩
    ·omega
    ·cases h; exact ⟨g, rfl⟩
   subst hA
   rw [HVB.out] at h0 h1
   obtain ⟨ad, had⟩ : ∃ ad : Nat, vb + im = (ad : Int) := ⟨(vb + im).toNat, by omega⟩
   have hadn : ad < n := by omega
   rw [had] at c0 KAB
   have d1 : decide ((ad : Int) < 0) = false := by simp
   have d2 : decide ((n : Int) ≤ (ad : Int)) = false := by simp; omega
   have d3 : decide (n ≤ ad) = false := by simp; omega
   have HR2 := Lib.hid (ownsRow_below hr B2.out)
   have mad := row_at HR2.out ad hadn
   have lmb := (HR2.out.lt mb rfl).2
   have hadi : (ad : Int) < (n : Int) := by omega
   have HAD := Lib.hid had
   have HMX := Lib.hid (show mb ≠ xb from fun e => by have h1 := hr.2; rcases h1 with ⟨h, _⟩ | ⟨g, cap', cur, h, _, hk, _⟩; cases h; cases h; rw [e, hx'.out] at hk; simp at hk)
   clear h0 h1 hr had
   go_upto_region 6 with fail
   obtain ⟨W3, hW3⟩ : ∃ W3, W2.setCell ⟨xb, 7, none⟩ (.int .i64 (ad : Int)) = W3 := ⟨_, rfl⟩
   have f3 : Fr (· = xb) W2 W3 := hW3 ▸ (Fr.refl (· = xb) _).set _ (.inl rfl)
   have KX3 := Lib.hid (show W3.heap[xb]? = some (.cells (xCells ⟨18, a, b, c, im⟩ s.pc false (ad : Int) 0 sb (s.pc + 1)) 126 (0, 0)) by rw [← hW3, heap_setCell_same W2 xb 7 _ _ _ HX2.out]; rfl)
   have kib3 := (f3.block ib lib2 (fun e => by rw [e, HX2.out] at KIB2; have := KIB2.out; simp [xCells] at this)).trans KIB2.out
   obtain ⟨y0, -, -, -, -, lib3⟩ := ins_cells kib3
   have km3 := (f3.block mc lmc2 (fun e => by rw [e, HX2.out] at KM2; have := KM2.out; simp [xCells] at this)).trans KM2.out
   have ka3 := (f3.block ab lab (fun e => by rw [e, HX2.out] at KAB; have := KAB.out; simp [xCells] at this)).trans KAB.out
   obtain ⟨y1, lmc3⟩ := one_cell' km3
   obtain ⟨y2, lab3⟩ := one_cell' ka3
   have y3 : W3.cell? ⟨mb, ad, none⟩ = some (.int .i32 (ml.getD ad 0)) := (f3.cell ad lmb HMX.out).trans mad
   have hs3 := f3.size
   have lmb3 : mb < W3.heap.size := by omega
   have F3 := Lib.hid f3
   rw [hW3]
   clear hW3 f3 kib3 km3 ka3 c0 m0 j0 j1 j2 j3 j4 x0 x1 x2 x3 x4 x5 x6 x7 x8 x9 x10 xf7 mad
   go_wp2_with (go_at_call 74; refine (set_any xb _ _).mono ?_; rintro e W4 ⟨⟨c0, c1, rfl, k0, k1⟩, hb4⟩)
   go_ret2
   rw [HVB.out, HAD.out]
   refine ⟨⟨c0, c1, rfl, k0, by rw [k1]; simp⟩, (hb4.block xb (by omega)).trans KX3.out, ?_⟩
   exact (Fr.of B2.out).trans (F3.out.trans (Fr.of hb4))

set_option maxRecDepth 20000 in
set_option maxHeartbeats 2000000 in
theorem acc_ld20 (xb sb : Nat) (im : Int) (a b c : Nat) (hb : b < 16) (him : -131072 ≤ im ∧ im ≤ 131071) (s : St) (mv : Value) (A : Option Addr) (n cap : Nat) (hmv : mv = .slice A n cap) (hn : n ≤ 1000000) (ml : List Int) (h0 : 0 ≤ reg s (b : Int) + im) (h1 : reg s (b : Int) + im < (n : Int)) (w : World)
  (hx : w.heap[xb]? = some (.cells (xCells ⟨20, a, b, c, im⟩ s.pc false (-1) 0 sb (s.pc + 1)) 126 (0, 0))) (hM : Mach w sb s) (hr : w.ownsRow 0 21 1 mv n (i32s ml)) :
  Calls Tryd.prog 75 #[.pointer (some ⟨xb, 0, none⟩), mv] w fun e w' => (∃ c0 c1, e = .returned (.tuple #[.func (.func 88) #[] #[.pointer (some ⟨c0, 0, none⟩), .pointer (some ⟨c1, 0, none⟩)], .int .i64 0]) ∧ w'.cell? ⟨c0, 0, none⟩ = some (.pointer (some ⟨xb, 0, none⟩)) ∧ w'.cell? ⟨c1, 0, none⟩ = some (.int .i32 (ml.getD (reg s (b : Int) + im).toNat 0))) ∧ w'.heap[xb]? = some (.cells (xCells ⟨20, a, b, c, im⟩ s.pc false (reg s (b : Int) + im) 0 sb (s.pc + 1)) 126 (0, 0)) ∧ Fr (· = xb) w w' := by
 subst hmv
 have hx' := Lib.hid hx
 obtain ⟨W0, hW0⟩ : ∃ W0, w.alloc (.cells #[.slice A n cap] 28) = W0 := ⟨_, rfl⟩
 have b0 : Below w.heap.size w W0 := hW0 ▸ (Below.refl _ _).alloc (Nat.le_refl _) _
 have k0 : W0.heap[w.heap.size]? = some (.cells #[.slice A n cap] 28 (0, 0)) := by rw [← hW0]; exact heap_alloc_new _ _
 have lx0 := lt_of_blk' hx
 have HX0 := Lib.hid ((b0.block xb lx0).trans hx)
 have HM0 := Lib.hid (hM.keep (b0.block sb hM.lt))
 obtain ⟨x0, x1, x2, x3, x4, x5, -, -, -, x9, -, xf⟩ := x_cells HX0.out
 obtain ⟨m0, mlt⟩ := one_cell' k0
 have lx := lt_of_blk' HX0.out
 have B0 := Lib.hid b0
 have K0 := Lib.hid k0
 have hs0 := b0.size
 have LX := Lib.hid lx0
 obtain ⟨mc, hmc⟩ : ∃ mc, w.heap.size = mc := ⟨_, rfl⟩
 have HMC := Lib.hid hmc
 clear hx hM xf b0 k0 lx0
 rw [hmc] at K0 m0 mlt
 simp only at x0 x1 x2 x3 x4
 go_enter Tryd.func75, Tryd.ntmps75
 go_upto_region 1 with fail
 clear hW0
 try rw [hmc]
 clear hmc
 go_cut [6, 7] from 9 to 17 (fun a6 a7 wx => ∃ ib cb, a6 = .pointer (some ⟨ib, 0, none⟩) ∧ a7 = .pointer (some ⟨cb, 0, none⟩) ∧ wx.heap[ib]? = some (.cells #[.int .u8 20, .int .i64 a, .int .i64 b, .int .i64 c, .int .i64 im] 23 (0, 0)) ∧ wx.heap[cb]? = some (.cells #[.pointer (some ⟨sb, 0, none⟩)] 83 (0, 0)) ∧ Below W0.heap.size W0 wx)
 case first =>
  go_region
  all_goals
   go_wp2_with fail
   go_meet
   case rel => first
    | exact ⟨_, _, rfl, rfl, (two_blocks W0 _ _).1, (two_blocks W0 _ _).2.1, (two_blocks W0 _ _).2.2⟩
    | exact ⟨_, _, rfl, rfl, (two_blocks W0 _ _).2.1, (two_blocks W0 _ _).1, (two_blocks W0 _ _).2.2⟩
 case rest =>
  obtain ⟨ib, cb, rfl, rfl, kib, kcb, hbw⟩ := hcut
  obtain ⟨W1, hW1⟩ : ∃ W1 : World, W1 = wc := ⟨_, rfl⟩
  subst hW1
  obtain ⟨i0, i1, i2, i3, i4, li⟩ := ins_cells kib
  obtain ⟨cb0, lcb⟩ := one_cell' kcb
  have HM1 := Lib.hid (HM0.out.keep (hbw.block sb HM0.out.lt))
  have B1 := Lib.hid (B0.out.trans (hbw.mono hs0))
  have HX1 := Lib.hid ((hbw.block xb lx).trans HX0.out)
  have K1 := Lib.hid ((hbw.block mc mlt).trans K0.out)
  have KIB := Lib.hid kib
  have KCB := Lib.hid kcb
  have lsb := HM1.out.lt
  have rgb := HM1.out.reg hb
  have gb : (b : Int) < 16 := by omega
  have gb2 : decide ((16 : Int) ≤ (b : Int)) = false := decide_eq_false (by omega)
  have wrb := HM1.out.reg_in b
  obtain ⟨vb, hvb⟩ : ∃ vb, s.r.getD b 0 = vb := ⟨_, rfl⟩
  rw [hvb] at rgb wrb
  have HVB := Lib.hid (show reg s (b : Int) = vb by rw [reg_nat]; exact hvb)
  unfold W32 at wrb
  have wad : IntKind.i64.wrap (vb + im) = vb + im := IntWalk.i64_in _ (by omega)
  have wvb : IntKind.i64.wrap vb = vb := IntWalk.i64_in _ (by omega)
  clear kib kcb hvb x0 x1 x2 x3 x4 x5 x9 m0 K0
  go_upto_region 2 with fail
  go_cut [8] from 18 to 28 (fun a8 wx => ∃ ab, a8 = .pointer (some ⟨ab, 0, none⟩) ∧ wx.heap[ab]? = some (.cells #[.int .i64 (vb + im)] 3 (0, 0)) ∧ Below W1.heap.size W1 wx ∧ W1.heap.size ≤ ab)
  case first =>
   go_region
   all_goals
    go_wp2_with fail
    go_meet
    case rel => exact ⟨_, rfl, by first | exact heap_alloc_new _ _ | (rw [World.drew]; exact heap_alloc_new _ _), (Below.drew (Below.refl _ _)).alloc (by simp) _, by simp⟩
  case rest =>
   obtain ⟨ab, rfl, kab, hbw2, hab⟩ := hcut
   obtain ⟨W2, hW2⟩ : ∃ W2 : World, W2 = wc := ⟨_, rfl⟩
   subst hW2
   have hs1 := B1.out.size
   have KIB2 := Lib.hid ((hbw2.block ib li).trans KIB.out)
   have KCB2 := Lib.hid ((hbw2.block cb lcb).trans KCB.out)
   have lmc : mc < W1.heap.size := lt_of_blk' K1.out
   have lx1 : xb < W1.heap.size := lt_of_blk' HX1.out
   have KM2 := Lib.hid ((hbw2.block mc lmc).trans K1.out)
   have HX2 := Lib.hid ((hbw2.block xb lx1).trans HX1.out)
   have HM2 := Lib.hid (HM1.out.keep (hbw2.block sb lsb))
   have B2 := Lib.hid (B1.out.trans (hbw2.mono hs1))
   have KAB := Lib.hid kab
   obtain ⟨c0, lab⟩ := one_cell' kab
   obtain ⟨m0, lmc2⟩ := one_cell' KM2.out
   obtain ⟨j0, j1, j2, j3, j4, lib2⟩ := ins_cells KIB2.out
   obtain ⟨x0, x1, x2, x3, x4, x5, x6, x7, x8, x9, x10, xf⟩ := x_cells HX2.out
   have xf7 := xf 7
   have lx2 := lt_of_blk' HX2.out
   have lxw := LX.out
   clear kab hbw2 i0 i1 i2 i3 i4 cb0 rgb xf hbw
   simp only at x0 x1 x2 x3 x4
   obtain ⟨mb, hA⟩ : ∃ mb, A = some ⟨mb, 0, none⟩ := by
    rcases hr.2 with ⟨h, h'⟩ | ⟨g, cap', cur, h, _⟩
    ·omega
    ·cases h; exact ⟨g, rfl⟩
   subst hA
   rw [HVB.out] at h0 h1
   obtain ⟨ad, had⟩ : ∃ ad : Nat, vb + im = (ad : Int) := ⟨(vb + im).toNat, by omega⟩
   have hadn : ad < n := by omega
   rw [had] at c0 KAB
   have d1 : decide ((ad : Int) < 0) = false := by simp
   have d2 : decide ((n : Int) ≤ (ad : Int)) = false := by simp; omega
   have d3 : decide (n ≤ ad) = false := by simp; omega
   have HR2 := Lib.hid (ownsRow_below hr B2.out)
   have mad := row_at HR2.out ad hadn
   have lmb := (HR2.out.lt mb rfl).2
   have hadi : (ad : Int) < (n : Int) := by omega
   have HAD := Lib.hid had
   have HMX := Lib.hid (show mb ≠ xb from fun e => by have h1 := hr.2; rcases h1 with ⟨h, _⟩ | ⟨g, cap', cur, h, _, hk, _⟩; cases h; cases h; rw [e, hx'.out] at hk; simp at hk)
   clear h0 h1 hr had
   go_upto_region 6 with fail
   obtain ⟨W3, hW3⟩ : ∃ W3, W2.setCell ⟨xb, 7, none⟩ (.int .i64 (ad : Int)) = W3 := ⟨_, rfl⟩
   have f3 : Fr (· = xb) W2 W3 := hW3 ▸ (Fr.refl (· = xb) _).set _ (.inl rfl)
   have KX3 := Lib.hid (show W3.heap[xb]? = some (.cells (xCells ⟨20, a, b, c, im⟩ s.pc false (ad : Int) 0 sb (s.pc + 1)) 126 (0, 0)) by rw [← hW3, heap_setCell_same W2 xb 7 _ _ _ HX2.out]; rfl)
   have kib3 := (f3.block ib lib2 (fun e => by rw [e, HX2.out] at KIB2; have := KIB2.out; simp [xCells] at this)).trans KIB2.out
   obtain ⟨y0, -, -, -, -, lib3⟩ := ins_cells kib3
   have km3 := (f3.block mc lmc2 (fun e => by rw [e, HX2.out] at KM2; have := KM2.out; simp [xCells] at this)).trans KM2.out
   have ka3 := (f3.block ab lab (fun e => by rw [e, HX2.out] at KAB; have := KAB.out; simp [xCells] at this)).trans KAB.out
   obtain ⟨y1, lmc3⟩ := one_cell' km3
   obtain ⟨y2, lab3⟩ := one_cell' ka3
   have y3 : W3.cell? ⟨mb, ad, none⟩ = some (.int .i32 (ml.getD ad 0)) := (f3.cell ad lmb HMX.out).trans mad
   have hs3 := f3.size
   have lmb3 : mb < W3.heap.size := by omega
   have F3 := Lib.hid f3
   rw [hW3]
   clear hW3 f3 kib3 km3 ka3 c0 m0 j0 j1 j2 j3 j4 x0 x1 x2 x3 x4 x5 x6 x7 x8 x9 x10 xf7 mad
   go_wp2_with (go_at_call 74; refine (set_any xb _ _).mono ?_; rintro e W4 ⟨⟨c0, c1, rfl, k0, k1⟩, hb4⟩)
   go_ret2
   rw [HVB.out, HAD.out]
   refine ⟨⟨c0, c1, rfl, k0, by rw [k1]; simp⟩, (hb4.block xb (by omega)).trans KX3.out, ?_⟩
   exact (Fr.of B2.out).trans (F3.out.trans (Fr.of hb4))

set_option maxRecDepth 20000 in
set_option maxHeartbeats 2000000 in
theorem acc_st19 (xb sb : Nat) (im : Int) (a b c : Nat) (hb : b < 16) (him : -131072 ≤ im ∧ im ≤ 131071) (s : St) (mv : Value) (A : Option Addr) (n cap : Nat) (hmv : mv = .slice A n cap) (hn : n ≤ 1000000) (ml : List Int) (h0 : 0 ≤ reg s (b : Int) + im) (h1 : reg s (b : Int) + im < (n : Int)) (w : World)
  (hx : w.heap[xb]? = some (.cells (xCells ⟨19, a, b, c, im⟩ s.pc false (-1) 0 sb (s.pc + 1)) 126 (0, 0))) (hM : Mach w sb s) (hr : w.ownsRow 0 21 1 mv n (i32s ml)) :
  Calls Tryd.prog 75 #[.pointer (some ⟨xb, 0, none⟩), mv] w fun e w' => (∃ c0 ib mc ac ad mb, e = .returned (.tuple #[.func (.func 89) #[] #[.pointer (some ⟨c0, 0, none⟩), .pointer (some ⟨ib, 0, none⟩), .pointer (some ⟨mc, 0, none⟩), .pointer (some ⟨ac, 0, none⟩)], .int .i64 0]) ∧ mv = .slice (some ⟨mb, 0, none⟩) n cap ∧ ad < n ∧ (ad : Int) = reg s (b : Int) + im ∧ w'.cell? ⟨c0, 0, none⟩ = some (.pointer (some ⟨sb, 0, none⟩)) ∧ w'.cell? ⟨ib, 1, none⟩ = some (.int .i64 (a : Int)) ∧ w'.cell? ⟨mc, 0, none⟩ = some mv ∧ w'.cell? ⟨ac, 0, none⟩ = some (.int .i64 (ad : Int))) ∧ w'.heap[xb]? = some (.cells (xCells ⟨19, a, b, c, im⟩ s.pc false (reg s (b : Int) + im) 0 sb (s.pc + 1)) 126 (0, 0)) ∧ Fr (· = xb) w w' := by
 subst hmv
 have hx' := Lib.hid hx
 obtain ⟨W0, hW0⟩ : ∃ W0, w.alloc (.cells #[.slice A n cap] 28) = W0 := ⟨_, rfl⟩
 have b0 : Below w.heap.size w W0 := hW0 ▸ (Below.refl _ _).alloc (Nat.le_refl _) _
 have k0 : W0.heap[w.heap.size]? = some (.cells #[.slice A n cap] 28 (0, 0)) := by rw [← hW0]; exact heap_alloc_new _ _
 have lx0 := lt_of_blk' hx
 have HX0 := Lib.hid ((b0.block xb lx0).trans hx)
 have HM0 := Lib.hid (hM.keep (b0.block sb hM.lt))
 obtain ⟨x0, x1, x2, x3, x4, x5, -, -, -, x9, -, xf⟩ := x_cells HX0.out
 obtain ⟨m0, mlt⟩ := one_cell' k0
 have lx := lt_of_blk' HX0.out
 have B0 := Lib.hid b0
 have K0 := Lib.hid k0
 have hs0 := b0.size
 have LX := Lib.hid lx0
 obtain ⟨mc, hmc⟩ : ∃ mc, w.heap.size = mc := ⟨_, rfl⟩
 have HMC := Lib.hid hmc
 clear hx hM xf b0 k0 lx0
 rw [hmc] at K0 m0 mlt
 simp only at x0 x1 x2 x3 x4
 go_enter Tryd.func75, Tryd.ntmps75
 go_upto_region 1 with fail
 clear hW0
 try rw [hmc]
 clear hmc
 go_cut [6, 7] from 9 to 17 (fun a6 a7 wx => ∃ ib cb, a6 = .pointer (some ⟨ib, 0, none⟩) ∧ a7 = .pointer (some ⟨cb, 0, none⟩) ∧ wx.heap[ib]? = some (.cells #[.int .u8 19, .int .i64 a, .int .i64 b, .int .i64 c, .int .i64 im] 23 (0, 0)) ∧ wx.heap[cb]? = some (.cells #[.pointer (some ⟨sb, 0, none⟩)] 83 (0, 0)) ∧ Below W0.heap.size W0 wx)
 case first =>
  go_region
  all_goals
   go_wp2_with fail
   go_meet
   case rel => first
    | exact ⟨_, _, rfl, rfl, (two_blocks W0 _ _).1, (two_blocks W0 _ _).2.1, (two_blocks W0 _ _).2.2⟩
    | exact ⟨_, _, rfl, rfl, (two_blocks W0 _ _).2.1, (two_blocks W0 _ _).1, (two_blocks W0 _ _).2.2⟩
 case rest =>
  obtain ⟨ib, cb, rfl, rfl, kib, kcb, hbw⟩ := hcut
  obtain ⟨W1, hW1⟩ : ∃ W1 : World, W1 = wc := ⟨_, rfl⟩
  subst hW1
  obtain ⟨i0, i1, i2, i3, i4, li⟩ := ins_cells kib
  obtain ⟨cb0, lcb⟩ := one_cell' kcb
  have HM1 := Lib.hid (HM0.out.keep (hbw.block sb HM0.out.lt))
  have B1 := Lib.hid (B0.out.trans (hbw.mono hs0))
  have HX1 := Lib.hid ((hbw.block xb lx).trans HX0.out)
  have K1 := Lib.hid ((hbw.block mc mlt).trans K0.out)
  have KIB := Lib.hid kib
  have KCB := Lib.hid kcb
  have lsb := HM1.out.lt
  have rgb := HM1.out.reg hb
  have gb : (b : Int) < 16 := by omega
  have gb2 : decide ((16 : Int) ≤ (b : Int)) = false := decide_eq_false (by omega)
  have wrb := HM1.out.reg_in b
  obtain ⟨vb, hvb⟩ : ∃ vb, s.r.getD b 0 = vb := ⟨_, rfl⟩
  rw [hvb] at rgb wrb
  have HVB := Lib.hid (show reg s (b : Int) = vb by rw [reg_nat]; exact hvb)
  unfold W32 at wrb
  have wad : IntKind.i64.wrap (vb + im) = vb + im := IntWalk.i64_in _ (by omega)
  have wvb : IntKind.i64.wrap vb = vb := IntWalk.i64_in _ (by omega)
  clear kib kcb hvb x0 x1 x2 x3 x4 x5 x9 m0 K0
  go_upto_region 2 with fail
  go_cut [8] from 18 to 28 (fun a8 wx => ∃ ab, a8 = .pointer (some ⟨ab, 0, none⟩) ∧ wx.heap[ab]? = some (.cells #[.int .i64 (vb + im)] 3 (0, 0)) ∧ Below W1.heap.size W1 wx ∧ W1.heap.size ≤ ab)
  case first =>
   go_region
   all_goals
    go_wp2_with fail
    go_meet
    case rel => exact ⟨_, rfl, by first | exact heap_alloc_new _ _ | (rw [World.drew]; exact heap_alloc_new _ _), (Below.drew (Below.refl _ _)).alloc (by simp) _, by simp⟩
  case rest =>
   obtain ⟨ab, rfl, kab, hbw2, hab⟩ := hcut
   obtain ⟨W2, hW2⟩ : ∃ W2 : World, W2 = wc := ⟨_, rfl⟩
   subst hW2
   have hs1 := B1.out.size
   have KIB2 := Lib.hid ((hbw2.block ib li).trans KIB.out)
   have KCB2 := Lib.hid ((hbw2.block cb lcb).trans KCB.out)
   have lmc : mc < W1.heap.size := lt_of_blk' K1.out
   have lx1 : xb < W1.heap.size := lt_of_blk' HX1.out
   have KM2 := Lib.hid ((hbw2.block mc lmc).trans K1.out)
   have HX2 := Lib.hid ((hbw2.block xb lx1).trans HX1.out)
   have HM2 := Lib.hid (HM1.out.keep (hbw2.block sb lsb))
   have B2 := Lib.hid (B1.out.trans (hbw2.mono hs1))
   have KAB := Lib.hid kab
   obtain ⟨c0, lab⟩ := one_cell' kab
   obtain ⟨m0, lmc2⟩ := one_cell' KM2.out
   obtain ⟨j0, j1, j2, j3, j4, lib2⟩ := ins_cells KIB2.out
   obtain ⟨x0, x1, x2, x3, x4, x5, x6, x7, x8, x9, x10, xf⟩ := x_cells HX2.out
   have xf7 := xf 7
   have lx2 := lt_of_blk' HX2.out
   have lxw := LX.out
   clear kab hbw2 i0 i1 i2 i3 i4 cb0 rgb xf hbw
   simp only at x0 x1 x2 x3 x4
   obtain ⟨mb, hA⟩ : ∃ mb, A = some ⟨mb, 0, none⟩ := by
    rcases hr.2 with ⟨h, h'⟩ | ⟨g, cap', cur, h, _⟩
    ·omega
    ·cases h; exact ⟨g, rfl⟩
   subst hA
   rw [HVB.out] at h0 h1
   obtain ⟨ad, had⟩ : ∃ ad : Nat, vb + im = (ad : Int) := ⟨(vb + im).toNat, by omega⟩
   have hadn : ad < n := by omega
   rw [had] at c0 KAB
   have d1 : decide ((ad : Int) < 0) = false := by simp
   have d2 : decide ((n : Int) ≤ (ad : Int)) = false := by simp; omega
   have d3 : decide (n ≤ ad) = false := by simp; omega
   have HR2 := Lib.hid (ownsRow_below hr B2.out)
   have mad := row_at HR2.out ad hadn
   have lmb := (HR2.out.lt mb rfl).2
   have hadi : (ad : Int) < (n : Int) := by omega
   have HAD := Lib.hid had
   have HMX := Lib.hid (show mb ≠ xb from fun e => by have h1 := hr.2; rcases h1 with ⟨h, _⟩ | ⟨g, cap', cur, h, _, hk, _⟩; cases h; cases h; rw [e, hx'.out] at hk; simp at hk)
   clear h0 h1 hr had
   go_upto_region 6 with fail
   obtain ⟨W3, hW3⟩ : ∃ W3, W2.setCell ⟨xb, 7, none⟩ (.int .i64 (ad : Int)) = W3 := ⟨_, rfl⟩
   have f3 : Fr (· = xb) W2 W3 := hW3 ▸ (Fr.refl (· = xb) _).set _ (.inl rfl)
   have KX3 := Lib.hid (show W3.heap[xb]? = some (.cells (xCells ⟨19, a, b, c, im⟩ s.pc false (ad : Int) 0 sb (s.pc + 1)) 126 (0, 0)) by rw [← hW3, heap_setCell_same W2 xb 7 _ _ _ HX2.out]; rfl)
   have kib3 := (f3.block ib lib2 (fun e => by rw [e, HX2.out] at KIB2; have := KIB2.out; simp [xCells] at this)).trans KIB2.out
   obtain ⟨y0, Y1, -, -, -, lib3⟩ := ins_cells kib3
   have km3 := (f3.block mc lmc2 (fun e => by rw [e, HX2.out] at KM2; have := KM2.out; simp [xCells] at this)).trans KM2.out
   have ka3 := (f3.block ab lab (fun e => by rw [e, HX2.out] at KAB; have := KAB.out; simp [xCells] at this)).trans KAB.out
   have kc3 := (f3.block cb (lt_of_blk' KCB2.out) (fun e => by rw [e, HX2.out] at KCB2; have := KCB2.out; simp [xCells] at this)).trans KCB2.out
   have HC3 := Lib.hid (And.intro (one_cell' kc3).1 (And.intro Y1 (And.intro (one_cell' km3).1 (one_cell' ka3).1)))
   have F3 := Lib.hid f3
   rw [hW3]
   clear hW3 f3 kib3 km3 ka3 kc3 Y1 c0 m0 j0 j1 j2 j3 j4 x0 x1 x2 x3 x4 x5 x6 x7 x8 x9 x10 xf7 mad
   go_wp2_with fail
   go_ret2
   rw [HVB.out, HAD.out]
   exact ⟨⟨cb, ib, mc, ab, ad, mb, rfl, rfl, hadn, rfl, HC3.out.1, HC3.out.2.1, HC3.out.2.2.1, HC3.out.2.2.2⟩, KX3.out, (Fr.of B2.out).trans F3.out⟩

set_option maxRecDepth 20000 in
set_option maxHeartbeats 2000000 in
theorem acc_st21 (xb sb : Nat) (im : Int) (a b c : Nat) (hb : b < 16) (him : -131072 ≤ im ∧ im ≤ 131071) (s : St) (mv : Value) (A : Option Addr) (n cap : Nat) (hmv : mv = .slice A n cap) (hn : n ≤ 1000000) (ml : List Int) (h0 : 0 ≤ reg s (b : Int) + im) (h1 : reg s (b : Int) + im < (n : Int)) (w : World)
  (hx : w.heap[xb]? = some (.cells (xCells ⟨21, a, b, c, im⟩ s.pc false (-1) 0 sb (s.pc + 1)) 126 (0, 0))) (hM : Mach w sb s) (hr : w.ownsRow 0 21 1 mv n (i32s ml)) :
  Calls Tryd.prog 75 #[.pointer (some ⟨xb, 0, none⟩), mv] w fun e w' => (∃ c0 ib mc ac ad mb, e = .returned (.tuple #[.func (.func 89) #[] #[.pointer (some ⟨c0, 0, none⟩), .pointer (some ⟨ib, 0, none⟩), .pointer (some ⟨mc, 0, none⟩), .pointer (some ⟨ac, 0, none⟩)], .int .i64 0]) ∧ mv = .slice (some ⟨mb, 0, none⟩) n cap ∧ ad < n ∧ (ad : Int) = reg s (b : Int) + im ∧ w'.cell? ⟨c0, 0, none⟩ = some (.pointer (some ⟨sb, 0, none⟩)) ∧ w'.cell? ⟨ib, 1, none⟩ = some (.int .i64 (a : Int)) ∧ w'.cell? ⟨mc, 0, none⟩ = some mv ∧ w'.cell? ⟨ac, 0, none⟩ = some (.int .i64 (ad : Int))) ∧ w'.heap[xb]? = some (.cells (xCells ⟨21, a, b, c, im⟩ s.pc false (reg s (b : Int) + im) 0 sb (s.pc + 1)) 126 (0, 0)) ∧ Fr (· = xb) w w' := by
 subst hmv
 have hx' := Lib.hid hx
 obtain ⟨W0, hW0⟩ : ∃ W0, w.alloc (.cells #[.slice A n cap] 28) = W0 := ⟨_, rfl⟩
 have b0 : Below w.heap.size w W0 := hW0 ▸ (Below.refl _ _).alloc (Nat.le_refl _) _
 have k0 : W0.heap[w.heap.size]? = some (.cells #[.slice A n cap] 28 (0, 0)) := by rw [← hW0]; exact heap_alloc_new _ _
 have lx0 := lt_of_blk' hx
 have HX0 := Lib.hid ((b0.block xb lx0).trans hx)
 have HM0 := Lib.hid (hM.keep (b0.block sb hM.lt))
 obtain ⟨x0, x1, x2, x3, x4, x5, -, -, -, x9, -, xf⟩ := x_cells HX0.out
 obtain ⟨m0, mlt⟩ := one_cell' k0
 have lx := lt_of_blk' HX0.out
 have B0 := Lib.hid b0
 have K0 := Lib.hid k0
 have hs0 := b0.size
 have LX := Lib.hid lx0
 obtain ⟨mc, hmc⟩ : ∃ mc, w.heap.size = mc := ⟨_, rfl⟩
 have HMC := Lib.hid hmc
 clear hx hM xf b0 k0 lx0
 rw [hmc] at K0 m0 mlt
 simp only at x0 x1 x2 x3 x4
 go_enter Tryd.func75, Tryd.ntmps75
 go_upto_region 1 with fail
 clear hW0
 try rw [hmc]
 clear hmc
 go_cut [6, 7] from 9 to 17 (fun a6 a7 wx => ∃ ib cb, a6 = .pointer (some ⟨ib, 0, none⟩) ∧ a7 = .pointer (some ⟨cb, 0, none⟩) ∧ wx.heap[ib]? = some (.cells #[.int .u8 21, .int .i64 a, .int .i64 b, .int .i64 c, .int .i64 im] 23 (0, 0)) ∧ wx.heap[cb]? = some (.cells #[.pointer (some ⟨sb, 0, none⟩)] 83 (0, 0)) ∧ Below W0.heap.size W0 wx)
 case first =>
  go_region
  all_goals
   go_wp2_with fail
   go_meet
   case rel => first
    | exact ⟨_, _, rfl, rfl, (two_blocks W0 _ _).1, (two_blocks W0 _ _).2.1, (two_blocks W0 _ _).2.2⟩
    | exact ⟨_, _, rfl, rfl, (two_blocks W0 _ _).2.1, (two_blocks W0 _ _).1, (two_blocks W0 _ _).2.2⟩
 case rest =>
  obtain ⟨ib, cb, rfl, rfl, kib, kcb, hbw⟩ := hcut
  obtain ⟨W1, hW1⟩ : ∃ W1 : World, W1 = wc := ⟨_, rfl⟩
  subst hW1
  obtain ⟨i0, i1, i2, i3, i4, li⟩ := ins_cells kib
  obtain ⟨cb0, lcb⟩ := one_cell' kcb
  have HM1 := Lib.hid (HM0.out.keep (hbw.block sb HM0.out.lt))
  have B1 := Lib.hid (B0.out.trans (hbw.mono hs0))
  have HX1 := Lib.hid ((hbw.block xb lx).trans HX0.out)
  have K1 := Lib.hid ((hbw.block mc mlt).trans K0.out)
  have KIB := Lib.hid kib
  have KCB := Lib.hid kcb
  have lsb := HM1.out.lt
  have rgb := HM1.out.reg hb
  have gb : (b : Int) < 16 := by omega
  have gb2 : decide ((16 : Int) ≤ (b : Int)) = false := decide_eq_false (by omega)
  have wrb := HM1.out.reg_in b
  obtain ⟨vb, hvb⟩ : ∃ vb, s.r.getD b 0 = vb := ⟨_, rfl⟩
  rw [hvb] at rgb wrb
  have HVB := Lib.hid (show reg s (b : Int) = vb by rw [reg_nat]; exact hvb)
  unfold W32 at wrb
  have wad : IntKind.i64.wrap (vb + im) = vb + im := IntWalk.i64_in _ (by omega)
  have wvb : IntKind.i64.wrap vb = vb := IntWalk.i64_in _ (by omega)
  clear kib kcb hvb x0 x1 x2 x3 x4 x5 x9 m0 K0
  go_upto_region 2 with fail
  go_cut [8] from 18 to 28 (fun a8 wx => ∃ ab, a8 = .pointer (some ⟨ab, 0, none⟩) ∧ wx.heap[ab]? = some (.cells #[.int .i64 (vb + im)] 3 (0, 0)) ∧ Below W1.heap.size W1 wx ∧ W1.heap.size ≤ ab)
  case first =>
   go_region
   all_goals
    go_wp2_with fail
    go_meet
    case rel => exact ⟨_, rfl, by first | exact heap_alloc_new _ _ | (rw [World.drew]; exact heap_alloc_new _ _), (Below.drew (Below.refl _ _)).alloc (by simp) _, by simp⟩
  case rest =>
   obtain ⟨ab, rfl, kab, hbw2, hab⟩ := hcut
   obtain ⟨W2, hW2⟩ : ∃ W2 : World, W2 = wc := ⟨_, rfl⟩
   subst hW2
   have hs1 := B1.out.size
   have KIB2 := Lib.hid ((hbw2.block ib li).trans KIB.out)
   have KCB2 := Lib.hid ((hbw2.block cb lcb).trans KCB.out)
   have lmc : mc < W1.heap.size := lt_of_blk' K1.out
   have lx1 : xb < W1.heap.size := lt_of_blk' HX1.out
   have KM2 := Lib.hid ((hbw2.block mc lmc).trans K1.out)
   have HX2 := Lib.hid ((hbw2.block xb lx1).trans HX1.out)
   have HM2 := Lib.hid (HM1.out.keep (hbw2.block sb lsb))
   have B2 := Lib.hid (B1.out.trans (hbw2.mono hs1))
   have KAB := Lib.hid kab
   obtain ⟨c0, lab⟩ := one_cell' kab
   obtain ⟨m0, lmc2⟩ := one_cell' KM2.out
   obtain ⟨j0, j1, j2, j3, j4, lib2⟩ := ins_cells KIB2.out
   obtain ⟨x0, x1, x2, x3, x4, x5, x6, x7, x8, x9, x10, xf⟩ := x_cells HX2.out
   have xf7 := xf 7
   have lx2 := lt_of_blk' HX2.out
   have lxw := LX.out
   clear kab hbw2 i0 i1 i2 i3 i4 cb0 rgb xf hbw
   simp only at x0 x1 x2 x3 x4
   obtain ⟨mb, hA⟩ : ∃ mb, A = some ⟨mb, 0, none⟩ := by
    rcases hr.2 with ⟨h, h'⟩ | ⟨g, cap', cur, h, _⟩
    ·omega
    ·cases h; exact ⟨g, rfl⟩
   subst hA
   rw [HVB.out] at h0 h1
   obtain ⟨ad, had⟩ : ∃ ad : Nat, vb + im = (ad : Int) := ⟨(vb + im).toNat, by omega⟩
   have hadn : ad < n := by omega
   rw [had] at c0 KAB
   have d1 : decide ((ad : Int) < 0) = false := by simp
   have d2 : decide ((n : Int) ≤ (ad : Int)) = false := by simp; omega
   have d3 : decide (n ≤ ad) = false := by simp; omega
   have HR2 := Lib.hid (ownsRow_below hr B2.out)
   have mad := row_at HR2.out ad hadn
   have lmb := (HR2.out.lt mb rfl).2
   have hadi : (ad : Int) < (n : Int) := by omega
   have HAD := Lib.hid had
   have HMX := Lib.hid (show mb ≠ xb from fun e => by have h1 := hr.2; rcases h1 with ⟨h, _⟩ | ⟨g, cap', cur, h, _, hk, _⟩; cases h; cases h; rw [e, hx'.out] at hk; simp at hk)
   clear h0 h1 hr had
   go_upto_region 6 with fail
   obtain ⟨W3, hW3⟩ : ∃ W3, W2.setCell ⟨xb, 7, none⟩ (.int .i64 (ad : Int)) = W3 := ⟨_, rfl⟩
   have f3 : Fr (· = xb) W2 W3 := hW3 ▸ (Fr.refl (· = xb) _).set _ (.inl rfl)
   have KX3 := Lib.hid (show W3.heap[xb]? = some (.cells (xCells ⟨21, a, b, c, im⟩ s.pc false (ad : Int) 0 sb (s.pc + 1)) 126 (0, 0)) by rw [← hW3, heap_setCell_same W2 xb 7 _ _ _ HX2.out]; rfl)
   have kib3 := (f3.block ib lib2 (fun e => by rw [e, HX2.out] at KIB2; have := KIB2.out; simp [xCells] at this)).trans KIB2.out
   obtain ⟨y0, Y1, -, -, -, lib3⟩ := ins_cells kib3
   have km3 := (f3.block mc lmc2 (fun e => by rw [e, HX2.out] at KM2; have := KM2.out; simp [xCells] at this)).trans KM2.out
   have ka3 := (f3.block ab lab (fun e => by rw [e, HX2.out] at KAB; have := KAB.out; simp [xCells] at this)).trans KAB.out
   have kc3 := (f3.block cb (lt_of_blk' KCB2.out) (fun e => by rw [e, HX2.out] at KCB2; have := KCB2.out; simp [xCells] at this)).trans KCB2.out
   have HC3 := Lib.hid (And.intro (one_cell' kc3).1 (And.intro Y1 (And.intro (one_cell' km3).1 (one_cell' ka3).1)))
   have F3 := Lib.hid f3
   rw [hW3]
   clear hW3 f3 kib3 km3 ka3 kc3 Y1 c0 m0 j0 j1 j2 j3 j4 x0 x1 x2 x3 x4 x5 x6 x7 x8 x9 x10 xf7 mad
   go_wp2_with fail
   go_ret2
   rw [HVB.out, HAD.out]
   exact ⟨⟨cb, ib, mc, ab, ad, mb, rfl, rfl, hadn, rfl, HC3.out.1, HC3.out.2.1, HC3.out.2.2.1, HC3.out.2.2.2⟩, KX3.out, (Fr.of B2.out).trans F3.out⟩

end Go.Proofs.YtebklpnkcicpjaaDoor

namespace Go.Proofs.YtebklpnkcicpjaaDoor
open Go.RowKit
set_option linter.unusedVariables false
set_option linter.unusedSimpArgs false
theorem keepsX {W w' : World} {xb : Nat} (h : Below W.heap.size W w') (hx : xb < W.heap.size) : (∀ o, o < 10 → w'.cell? ⟨xb, o, none⟩ = W.cell? ⟨xb, o, none⟩) ∧ Fr (· = xb) W w' := ⟨fun o _ => h.cell (p := ⟨xb, o, none⟩) hx, Fr.of h⟩
theorem keepsX_set {W w' : World} {xb : Nat} (h : (∀ o, o < 10 → w'.cell? ⟨xb, o, none⟩ = W.cell? ⟨xb, o, none⟩) ∧ Fr (· = xb) W w') (v : Value) : (∀ o, o < 10 → (w'.setCell ⟨xb, 10, none⟩ v).cell? ⟨xb, o, none⟩ = W.cell? ⟨xb, o, none⟩) ∧ Fr (· = xb) W (w'.setCell ⟨xb, 10, none⟩ v) :=
 ⟨fun o ho => by rw [← h.1 o ho]; exact World.cell?_setCell_other _ _ _ _ (by intro e; cases e; omega), h.2.set _ (.inl rfl)⟩
def BrPost (xb sb : Nat) (I : Ins) (s : St) (w : World) (e : Ending) (w' : World) : Prop :=
 e = .returned (.tuple #[.func (.func 73) #[] #[], .int .i64 0]) ∧ (∃ tk, w'.heap[xb]? = some (.cells (xCells I s.pc tk (-1) 0 sb (if taken I s = true then s.pc + 1 + I.imm else s.pc + 1)) 126 (0, 0))) ∧ Fr (· = xb) w w'
theorem keepsJ {W w' : World} (h : Below W.heap.size W w') : (∀ b o, b < W.heap.size → w'.cell? ⟨b, o, none⟩ = W.cell? ⟨b, o, none⟩) ∧ Below W.heap.size W w' := ⟨fun b o hb => h.cell (p := ⟨b, o, none⟩) hb, h⟩

set_option maxRecDepth 20000 in
set_option maxHeartbeats 2000000 in
theorem ctl_lock_err (xb sb : Nat) (im lk a b c : Int) (s : St) (h : ¬ (s.held < 0 ∧ im < lk)) (w : World)
  (hx : w.heap[xb]? = some (.cells (xCells ⟨28, a, b, c, im⟩ s.pc false (-1) 0 sb (s.pc + 1)) 126 (0, 0))) (hM : Mach w sb s) :
  Calls Tryd.prog 77 #[.pointer (some ⟨xb, 0, none⟩), .int .i64 lk] w fun e w' => e = .returned (.tuple #[.nilFunc, .int .i64 12]) ∧ Below w.heap.size w w' := by
 have HX0 := Lib.hid hx
 have HM0 := Lib.hid hM
 obtain ⟨x0, x1, x2, x3, x4, x5, -, -, -, x9, -, xf⟩ := x_cells HX0.out
 have lx := lt_of_blk' HX0.out
 clear hx hM xf
 simp only at x0 x1 x2 x3 x4
 go_enter Tryd.func77, Tryd.ntmps77
 go_upto_region 1 with fail
 go_cut [6, 7] from 8 to 16 (fun a6 a7 wx => ∃ ib cb, a6 = .pointer (some ⟨ib, 0, none⟩) ∧ a7 = .pointer (some ⟨cb, 0, none⟩) ∧ wx.heap[ib]? = some (.cells #[.int .u8 28, .int .i64 a, .int .i64 b, .int .i64 c, .int .i64 im] 23 (0, 0)) ∧ wx.heap[cb]? = some (.cells #[.pointer (some ⟨sb, 0, none⟩)] 83 (0, 0)) ∧ Below w.heap.size w wx)
 case first =>
  go_region
  all_goals
   go_wp2_with fail
   go_meet
   case rel => first
    | exact ⟨_, _, rfl, rfl, (two_blocks w _ _).1, (two_blocks w _ _).2.1, (two_blocks w _ _).2.2⟩
    | exact ⟨_, _, rfl, rfl, (two_blocks w _ _).2.1, (two_blocks w _ _).1, (two_blocks w _ _).2.2⟩
 case rest =>
  obtain ⟨ib, cb, rfl, rfl, kib, kcb, hbw⟩ := hcut
  obtain ⟨W1, hW1⟩ : ∃ W1 : World, W1 = wc := ⟨_, rfl⟩
  subst hW1
  obtain ⟨i0, i1, i2, i3, i4, li⟩ := ins_cells kib
  obtain ⟨cb0, lcb⟩ := one_cell' kcb
  have HM1 := Lib.hid (HM0.out.keep (hbw.block sb HM0.out.lt))
  have B1 := Lib.hid hbw
  have HX1 := Lib.hid ((hbw.block xb lx).trans HX0.out)
  have KIB := Lib.hid kib
  have KCB := Lib.hid kcb
  have lsb := HM1.out.lt
  have rhd := HM1.out.held
  obtain ⟨y0, y1, y2, y3, y4, y5, y6, y7, y8, y9, y10, yf⟩ := x_cells HX1.out
  have yf10 := yf 10
  have lx1 := lt_of_blk' HX1.out
  obtain ⟨hd, hhd⟩ : ∃ hd, s.held = hd := ⟨_, rfl⟩
  obtain ⟨pc, hpc⟩ : ∃ pc, s.pc = pc := ⟨_, rfl⟩
  rw [hhd] at rhd
  rw [hpc] at y5 y10
  have HPC := Lib.hid hpc
  clear kib kcb hbw x0 x1 x2 x3 x4 x5 x9 yf
  rw [hhd] at h
  by_cases h1 : 0 ≤ hd
  ·have d := decide_eq_true h1
   clear h h1 hhd hpc
   go_wp2_with fail
   go_ret2
   exact ⟨rfl, B1.out⟩
  ·have d := decide_eq_false h1
   have d2 : decide (lk ≤ im) = true := decide_eq_true (by omega)
   clear h h1 hhd hpc
   go_wp2_with fail
   go_ret2
   exact ⟨rfl, B1.out⟩

set_option maxRecDepth 20000 in
set_option maxHeartbeats 2000000 in
theorem ctl_lock_ok (xb sb : Nat) (im lk a b c : Int) (s : St) (h : s.held < 0) (h2 : im < lk) (w : World)
  (hx : w.heap[xb]? = some (.cells (xCells ⟨28, a, b, c, im⟩ s.pc false (-1) 0 sb (s.pc + 1)) 126 (0, 0))) (hM : Mach w sb s) :
  Calls Tryd.prog 77 #[.pointer (some ⟨xb, 0, none⟩), .int .i64 lk] w fun e w' => (∃ ib cb, e = .returned (.tuple #[.func (.func 90) #[] #[.pointer (some ⟨ib, 0, none⟩), .pointer (some ⟨cb, 0, none⟩)], .int .i64 0]) ∧ w'.cell? ⟨ib, 4, none⟩ = some (.int .i64 im) ∧ w'.cell? ⟨cb, 0, none⟩ = some (.pointer (some ⟨sb, 0, none⟩))) ∧ Below w.heap.size w w' := by
 have HX0 := Lib.hid hx
 have HM0 := Lib.hid hM
 obtain ⟨x0, x1, x2, x3, x4, x5, -, -, -, x9, -, xf⟩ := x_cells HX0.out
 have lx := lt_of_blk' HX0.out
 clear hx hM xf
 simp only at x0 x1 x2 x3 x4
 go_enter Tryd.func77, Tryd.ntmps77
 go_upto_region 1 with fail
 go_cut [6, 7] from 8 to 16 (fun a6 a7 wx => ∃ ib cb, a6 = .pointer (some ⟨ib, 0, none⟩) ∧ a7 = .pointer (some ⟨cb, 0, none⟩) ∧ wx.heap[ib]? = some (.cells #[.int .u8 28, .int .i64 a, .int .i64 b, .int .i64 c, .int .i64 im] 23 (0, 0)) ∧ wx.heap[cb]? = some (.cells #[.pointer (some ⟨sb, 0, none⟩)] 83 (0, 0)) ∧ Below w.heap.size w wx)
 case first =>
  go_region
  all_goals
   go_wp2_with fail
   go_meet
   case rel => first
    | exact ⟨_, _, rfl, rfl, (two_blocks w _ _).1, (two_blocks w _ _).2.1, (two_blocks w _ _).2.2⟩
    | exact ⟨_, _, rfl, rfl, (two_blocks w _ _).2.1, (two_blocks w _ _).1, (two_blocks w _ _).2.2⟩
 case rest =>
  obtain ⟨ib, cb, rfl, rfl, kib, kcb, hbw⟩ := hcut
  obtain ⟨W1, hW1⟩ : ∃ W1 : World, W1 = wc := ⟨_, rfl⟩
  subst hW1
  obtain ⟨i0, i1, i2, i3, i4, li⟩ := ins_cells kib
  obtain ⟨cb0, lcb⟩ := one_cell' kcb
  have HM1 := Lib.hid (HM0.out.keep (hbw.block sb HM0.out.lt))
  have B1 := Lib.hid hbw
  have HX1 := Lib.hid ((hbw.block xb lx).trans HX0.out)
  have KIB := Lib.hid kib
  have KCB := Lib.hid kcb
  have lsb := HM1.out.lt
  have rhd := HM1.out.held
  obtain ⟨y0, y1, y2, y3, y4, y5, y6, y7, y8, y9, y10, yf⟩ := x_cells HX1.out
  have yf10 := yf 10
  have lx1 := lt_of_blk' HX1.out
  obtain ⟨hd, hhd⟩ : ∃ hd, s.held = hd := ⟨_, rfl⟩
  obtain ⟨pc, hpc⟩ : ∃ pc, s.pc = pc := ⟨_, rfl⟩
  rw [hhd] at rhd
  rw [hpc] at y5 y10
  have HPC := Lib.hid hpc
  clear kib kcb hbw x0 x1 x2 x3 x4 x5 x9 yf
  rw [hhd] at h
  have d : decide (0 ≤ hd) = false := decide_eq_false (by omega)
  have d2 : decide (lk ≤ im) = false := decide_eq_false (by omega)
  have I4 := Lib.hid i4
  have CB := Lib.hid cb0
  clear h h2 hhd hpc
  go_wp2_with fail
  go_ret2
  exact ⟨⟨ib, cb, rfl, I4.out, CB.out⟩, B1.out⟩

set_option maxRecDepth 20000 in
set_option maxHeartbeats 2000000 in
theorem ctl_unlock_err (xb sb : Nat) (im lk a b c : Int) (s : St) (h : s.held ≠ im) (w : World)
  (hx : w.heap[xb]? = some (.cells (xCells ⟨29, a, b, c, im⟩ s.pc false (-1) 0 sb (s.pc + 1)) 126 (0, 0))) (hM : Mach w sb s) :
  Calls Tryd.prog 77 #[.pointer (some ⟨xb, 0, none⟩), .int .i64 lk] w fun e w' => e = .returned (.tuple #[.nilFunc, .int .i64 12]) ∧ Below w.heap.size w w' := by
 have HX0 := Lib.hid hx
 have HM0 := Lib.hid hM
 obtain ⟨x0, x1, x2, x3, x4, x5, -, -, -, x9, -, xf⟩ := x_cells HX0.out
 have lx := lt_of_blk' HX0.out
 clear hx hM xf
 simp only at x0 x1 x2 x3 x4
 go_enter Tryd.func77, Tryd.ntmps77
 go_upto_region 1 with fail
 go_cut [6, 7] from 8 to 16 (fun a6 a7 wx => ∃ ib cb, a6 = .pointer (some ⟨ib, 0, none⟩) ∧ a7 = .pointer (some ⟨cb, 0, none⟩) ∧ wx.heap[ib]? = some (.cells #[.int .u8 29, .int .i64 a, .int .i64 b, .int .i64 c, .int .i64 im] 23 (0, 0)) ∧ wx.heap[cb]? = some (.cells #[.pointer (some ⟨sb, 0, none⟩)] 83 (0, 0)) ∧ Below w.heap.size w wx)
 case first =>
  go_region
  all_goals
   go_wp2_with fail
   go_meet
   case rel => first
    | exact ⟨_, _, rfl, rfl, (two_blocks w _ _).1, (two_blocks w _ _).2.1, (two_blocks w _ _).2.2⟩
    | exact ⟨_, _, rfl, rfl, (two_blocks w _ _).2.1, (two_blocks w _ _).1, (two_blocks w _ _).2.2⟩
 case rest =>
  obtain ⟨ib, cb, rfl, rfl, kib, kcb, hbw⟩ := hcut
  obtain ⟨W1, hW1⟩ : ∃ W1 : World, W1 = wc := ⟨_, rfl⟩
  subst hW1
  obtain ⟨i0, i1, i2, i3, i4, li⟩ := ins_cells kib
  obtain ⟨cb0, lcb⟩ := one_cell' kcb
  have HM1 := Lib.hid (HM0.out.keep (hbw.block sb HM0.out.lt))
  have B1 := Lib.hid hbw
  have HX1 := Lib.hid ((hbw.block xb lx).trans HX0.out)
  have KIB := Lib.hid kib
  have KCB := Lib.hid kcb
  have lsb := HM1.out.lt
  have rhd := HM1.out.held
  obtain ⟨y0, y1, y2, y3, y4, y5, y6, y7, y8, y9, y10, yf⟩ := x_cells HX1.out
  have yf10 := yf 10
  have lx1 := lt_of_blk' HX1.out
  obtain ⟨hd, hhd⟩ : ∃ hd, s.held = hd := ⟨_, rfl⟩
  obtain ⟨pc, hpc⟩ : ∃ pc, s.pc = pc := ⟨_, rfl⟩
  rw [hhd] at rhd
  rw [hpc] at y5 y10
  have HPC := Lib.hid hpc
  clear kib kcb hbw x0 x1 x2 x3 x4 x5 x9 yf
  rw [hhd] at h
  have d : (hd != im) = true := by simpa using h
  clear h hhd hpc
  go_upto_region 8 with fail
  refine wp_region_ext (by kernel_rfl) (by kernel_rfl) ?_
  repeat (go_big_quiet_step (fail))
  refine wpQuiet_nil ?_
  rintro _ ⟨y, rfl⟩
  go_wp2_with fail
  go_ret2
  exact ⟨rfl, Ext.below B1.out B1.out.size y⟩

set_option maxRecDepth 20000 in
set_option maxHeartbeats 2000000 in
theorem ctl_unlock_ok (xb sb : Nat) (im lk a b c : Int) (s : St) (h : s.held = im) (w : World)
  (hx : w.heap[xb]? = some (.cells (xCells ⟨29, a, b, c, im⟩ s.pc false (-1) 0 sb (s.pc + 1)) 126 (0, 0))) (hM : Mach w sb s) :
  Calls Tryd.prog 77 #[.pointer (some ⟨xb, 0, none⟩), .int .i64 lk] w fun e w' => (∃ cb, e = .returned (.tuple #[.func (.func 91) #[] #[.pointer (some ⟨cb, 0, none⟩)], .int .i64 0]) ∧ w'.cell? ⟨cb, 0, none⟩ = some (.pointer (some ⟨sb, 0, none⟩))) ∧ Below w.heap.size w w' := by
 have HX0 := Lib.hid hx
 have HM0 := Lib.hid hM
 obtain ⟨x0, x1, x2, x3, x4, x5, -, -, -, x9, -, xf⟩ := x_cells HX0.out
 have lx := lt_of_blk' HX0.out
 clear hx hM xf
 simp only at x0 x1 x2 x3 x4
 go_enter Tryd.func77, Tryd.ntmps77
 go_upto_region 1 with fail
 go_cut [6, 7] from 8 to 16 (fun a6 a7 wx => ∃ ib cb, a6 = .pointer (some ⟨ib, 0, none⟩) ∧ a7 = .pointer (some ⟨cb, 0, none⟩) ∧ wx.heap[ib]? = some (.cells #[.int .u8 29, .int .i64 a, .int .i64 b, .int .i64 c, .int .i64 im] 23 (0, 0)) ∧ wx.heap[cb]? = some (.cells #[.pointer (some ⟨sb, 0, none⟩)] 83 (0, 0)) ∧ Below w.heap.size w wx)
 case first =>
  go_region
  all_goals
   go_wp2_with fail
   go_meet
   case rel => first
    | exact ⟨_, _, rfl, rfl, (two_blocks w _ _).1, (two_blocks w _ _).2.1, (two_blocks w _ _).2.2⟩
    | exact ⟨_, _, rfl, rfl, (two_blocks w _ _).2.1, (two_blocks w _ _).1, (two_blocks w _ _).2.2⟩
 case rest =>
  obtain ⟨ib, cb, rfl, rfl, kib, kcb, hbw⟩ := hcut
  obtain ⟨W1, hW1⟩ : ∃ W1 : World, W1 = wc := ⟨_, rfl⟩
  subst hW1
  obtain ⟨i0, i1, i2, i3, i4, li⟩ := ins_cells kib
  obtain ⟨cb0, lcb⟩ := one_cell' kcb
  have HM1 := Lib.hid (HM0.out.keep (hbw.block sb HM0.out.lt))
  have B1 := Lib.hid hbw
  have HX1 := Lib.hid ((hbw.block xb lx).trans HX0.out)
  have KIB := Lib.hid kib
  have KCB := Lib.hid kcb
  have lsb := HM1.out.lt
  have rhd := HM1.out.held
  obtain ⟨y0, y1, y2, y3, y4, y5, y6, y7, y8, y9, y10, yf⟩ := x_cells HX1.out
  have yf10 := yf 10
  have lx1 := lt_of_blk' HX1.out
  obtain ⟨hd, hhd⟩ : ∃ hd, s.held = hd := ⟨_, rfl⟩
  obtain ⟨pc, hpc⟩ : ∃ pc, s.pc = pc := ⟨_, rfl⟩
  rw [hhd] at rhd
  rw [hpc] at y5 y10
  have HPC := Lib.hid hpc
  clear kib kcb hbw x0 x1 x2 x3 x4 x5 x9 yf
  rw [hhd] at h
  subst h
  have d : (hd != hd) = false := by simp
  have CB := Lib.hid cb0
  clear hhd hpc
  go_upto_region 8 with fail
  refine wp_region_ext (by kernel_rfl) (by kernel_rfl) ?_
  repeat (go_big_quiet_step (fail))
  refine wpQuiet_nil ?_
  rintro _ ⟨y, rfl⟩
  go_wp2_with fail
  go_ret2
  exact ⟨⟨cb, rfl, (y.cell cb 0 lcb).trans CB.out⟩, Ext.below B1.out B1.out.size y⟩

set_option maxRecDepth 20000 in
set_option maxHeartbeats 2000000 in
theorem ctl_halt_err (xb sb : Nat) (im lk a b c : Int) (s : St) (h : ¬ s.held < 0) (w : World)
  (hx : w.heap[xb]? = some (.cells (xCells ⟨1, a, b, c, im⟩ s.pc false (-1) 0 sb (s.pc + 1)) 126 (0, 0))) (hM : Mach w sb s) :
  Calls Tryd.prog 77 #[.pointer (some ⟨xb, 0, none⟩), .int .i64 lk] w fun e w' => e = .returned (.tuple #[.nilFunc, .int .i64 12]) ∧ Below w.heap.size w w' := by
 have HX0 := Lib.hid hx
 have HM0 := Lib.hid hM
 obtain ⟨x0, x1, x2, x3, x4, x5, -, -, -, x9, -, xf⟩ := x_cells HX0.out
 have lx := lt_of_blk' HX0.out
 clear hx hM xf
 simp only at x0 x1 x2 x3 x4
 go_enter Tryd.func77, Tryd.ntmps77
 go_upto_region 1 with fail
 go_cut [6, 7] from 8 to 16 (fun a6 a7 wx => ∃ ib cb, a6 = .pointer (some ⟨ib, 0, none⟩) ∧ a7 = .pointer (some ⟨cb, 0, none⟩) ∧ wx.heap[ib]? = some (.cells #[.int .u8 1, .int .i64 a, .int .i64 b, .int .i64 c, .int .i64 im] 23 (0, 0)) ∧ wx.heap[cb]? = some (.cells #[.pointer (some ⟨sb, 0, none⟩)] 83 (0, 0)) ∧ Below w.heap.size w wx)
 case first =>
  go_region
  all_goals
   go_wp2_with fail
   go_meet
   case rel => first
    | exact ⟨_, _, rfl, rfl, (two_blocks w _ _).1, (two_blocks w _ _).2.1, (two_blocks w _ _).2.2⟩
    | exact ⟨_, _, rfl, rfl, (two_blocks w _ _).2.1, (two_blocks w _ _).1, (two_blocks w _ _).2.2⟩
 case rest =>
  obtain ⟨ib, cb, rfl, rfl, kib, kcb, hbw⟩ := hcut
  obtain ⟨W1, hW1⟩ : ∃ W1 : World, W1 = wc := ⟨_, rfl⟩
  subst hW1
  obtain ⟨i0, i1, i2, i3, i4, li⟩ := ins_cells kib
  obtain ⟨cb0, lcb⟩ := one_cell' kcb
  have HM1 := Lib.hid (HM0.out.keep (hbw.block sb HM0.out.lt))
  have B1 := Lib.hid hbw
  have HX1 := Lib.hid ((hbw.block xb lx).trans HX0.out)
  have KIB := Lib.hid kib
  have KCB := Lib.hid kcb
  have lsb := HM1.out.lt
  have rhd := HM1.out.held
  obtain ⟨y0, y1, y2, y3, y4, y5, y6, y7, y8, y9, y10, yf⟩ := x_cells HX1.out
  have yf10 := yf 10
  have lx1 := lt_of_blk' HX1.out
  obtain ⟨hd, hhd⟩ : ∃ hd, s.held = hd := ⟨_, rfl⟩
  obtain ⟨pc, hpc⟩ : ∃ pc, s.pc = pc := ⟨_, rfl⟩
  rw [hhd] at rhd
  rw [hpc] at y5 y10
  have HPC := Lib.hid hpc
  clear kib kcb hbw x0 x1 x2 x3 x4 x5 x9 yf
  rw [hhd] at h
  have d : decide (0 ≤ hd) = true := decide_eq_true (by omega)
  clear h hhd hpc
  go_wp2_with fail
  go_ret2
  exact ⟨rfl, B1.out⟩

set_option maxRecDepth 20000 in
set_option maxHeartbeats 2000000 in
theorem ctl_halt_ok (xb sb : Nat) (im lk a b c : Int) (s : St) (h : s.held < 0) (w : World)
  (hx : w.heap[xb]? = some (.cells (xCells ⟨1, a, b, c, im⟩ s.pc false (-1) 0 sb (s.pc + 1)) 126 (0, 0))) (hM : Mach w sb s) :
  Calls Tryd.prog 77 #[.pointer (some ⟨xb, 0, none⟩), .int .i64 lk] w fun e w' => (∃ cb, e = .returned (.tuple #[.func (.func 92) #[] #[.pointer (some ⟨cb, 0, none⟩)], .int .i64 0]) ∧ w'.cell? ⟨cb, 0, none⟩ = some (.pointer (some ⟨sb, 0, none⟩))) ∧ w'.heap[xb]? = some (.cells (xCells ⟨1, a, b, c, im⟩ s.pc false (-1) 0 sb s.pc) 126 (0, 0)) ∧ Fr (· = xb) w w' := by
 have HX0 := Lib.hid hx
 have HM0 := Lib.hid hM
 obtain ⟨x0, x1, x2, x3, x4, x5, -, -, -, x9, -, xf⟩ := x_cells HX0.out
 have lx := lt_of_blk' HX0.out
 clear hx hM xf
 simp only at x0 x1 x2 x3 x4
 go_enter Tryd.func77, Tryd.ntmps77
 go_upto_region 1 with fail
 go_cut [6, 7] from 8 to 16 (fun a6 a7 wx => ∃ ib cb, a6 = .pointer (some ⟨ib, 0, none⟩) ∧ a7 = .pointer (some ⟨cb, 0, none⟩) ∧ wx.heap[ib]? = some (.cells #[.int .u8 1, .int .i64 a, .int .i64 b, .int .i64 c, .int .i64 im] 23 (0, 0)) ∧ wx.heap[cb]? = some (.cells #[.pointer (some ⟨sb, 0, none⟩)] 83 (0, 0)) ∧ Below w.heap.size w wx)
 case first =>
  go_region
  all_goals
   go_wp2_with fail
   go_meet
   case rel => first
    | exact ⟨_, _, rfl, rfl, (two_blocks w _ _).1, (two_blocks w _ _).2.1, (two_blocks w _ _).2.2⟩
    | exact ⟨_, _, rfl, rfl, (two_blocks w _ _).2.1, (two_blocks w _ _).1, (two_blocks w _ _).2.2⟩
 case rest =>
  obtain ⟨ib, cb, rfl, rfl, kib, kcb, hbw⟩ := hcut
  obtain ⟨W1, hW1⟩ : ∃ W1 : World, W1 = wc := ⟨_, rfl⟩
  subst hW1
  obtain ⟨i0, i1, i2, i3, i4, li⟩ := ins_cells kib
  obtain ⟨cb0, lcb⟩ := one_cell' kcb
  have HM1 := Lib.hid (HM0.out.keep (hbw.block sb HM0.out.lt))
  have B1 := Lib.hid hbw
  have HX1 := Lib.hid ((hbw.block xb lx).trans HX0.out)
  have KIB := Lib.hid kib
  have KCB := Lib.hid kcb
  have lsb := HM1.out.lt
  have rhd := HM1.out.held
  obtain ⟨y0, y1, y2, y3, y4, y5, y6, y7, y8, y9, y10, yf⟩ := x_cells HX1.out
  have yf10 := yf 10
  have lx1 := lt_of_blk' HX1.out
  obtain ⟨hd, hhd⟩ : ∃ hd, s.held = hd := ⟨_, rfl⟩
  obtain ⟨pc, hpc⟩ : ∃ pc, s.pc = pc := ⟨_, rfl⟩
  rw [hhd] at rhd
  rw [hpc] at y5 y10
  have HPC := Lib.hid hpc
  clear kib kcb hbw x0 x1 x2 x3 x4 x5 x9 yf
  rw [hhd] at h
  have d : decide (0 ≤ hd) = false := decide_eq_false (by omega)
  have HCX := Lib.hid (show cb ≠ xb from fun e => by rw [e, HX1.out] at KCB; have := KCB.out; simp [xCells] at this)
  clear h hhd hpc
  go_wp2_with fail
  go_ret2
  refine ⟨⟨cb, rfl, ?_⟩, ?_, (Fr.of B1.out).trans ((Fr.refl (· = xb) W1).set (o := 10) (.int .i64 pc) (.inl rfl))⟩
  ·rw [World.cell?_of_block (Below.heap_setCell _ _ _ _ HCX.out)]
   exact (one_cell' KCB.out).1
  ·rw [heap_setCell_same W1 xb 10 _ _ _ HX1.out, HPC.out]
   rfl

set_option maxRecDepth 20000 in
set_option maxHeartbeats 2000000 in
theorem br_22 (xb sb : Nat) (im b c : Int) (a : Nat) (ha : a < 16) (him : -131072 ≤ im ∧ im ≤ 131071) (s : St) (hpc : 0 ≤ s.pc ∧ s.pc ≤ 1000000) (w : World)
  (hx : w.heap[xb]? = some (.cells (xCells ⟨22, a, b, c, im⟩ s.pc false (-1) 0 sb (s.pc + 1)) 126 (0, 0))) (hM : Mach w sb s) :
  Calls Tryd.prog 76 #[.pointer (some ⟨xb, 0, none⟩)] w (BrPost xb sb ⟨22, a, b, c, im⟩ s w) := by
 have HX0 := Lib.hid hx
 have HM0 := Lib.hid hM
 obtain ⟨x0, x1, x2, x3, x4, x5, -, -, -, x9, -, xf⟩ := x_cells HX0.out
 have lx := lt_of_blk' HX0.out
 have lsb := hM.lt
 have rga := hM.reg ha
 have ga : (a : Int) < 16 := by omega
 have ga2 : decide ((16 : Int) ≤ (a : Int)) = false := decide_eq_false (by omega)
 obtain ⟨va, hva⟩ : ∃ va, s.r.getD a 0 = va := ⟨_, rfl⟩
 rw [hva] at rga
 have HVA := Lib.hid (show reg s (a : Int) = va by rw [reg_nat]; exact hva)
 clear hx hM xf hva
 simp only at x0 x1 x2 x3 x4
 go_enter Tryd.func76, Tryd.ntmps76
 go_upto_region 1 with fail
 go_cut [4] from 5 to 19 (fun a4 wx => a4 = .bool (va == 0) ∧ Below w.heap.size w wx)
 case first =>
  refine wp_region_ext (by kernel_rfl) (by kernel_rfl) ?_
  repeat (go_big_quiet_step (fail))
  refine wpQuiet_nil ?_
  rintro _ ⟨y, rfl⟩
  go_wp2_with fail
  go_meet
  case rel => exact ⟨rfl, y.h⟩
 case rest =>
  obtain ⟨rfl, hbw⟩ := hcut
  obtain ⟨W1, hW1⟩ : ∃ W1 : World, W1 = wc := ⟨_, rfl⟩
  subst hW1
  have HX1 := Lib.hid ((hbw.block xb lx).trans HX0.out)
  have B1 := Lib.hid hbw
  obtain ⟨y0, y1, y2, y3, y4, y5, y6, y7, y8, y9, y10, yf⟩ := x_cells HX1.out
  have yf6 := yf 6
  have lx1 := lt_of_blk' HX1.out
  have w5 : IntKind.i64.wrap (s.pc + 1) = s.pc + 1 := IntWalk.i64_in _ (by omega)
  have w6 : IntKind.i64.wrap (s.pc + 1 + im) = s.pc + 1 + im := IntWalk.i64_in _ (by omega)
  obtain ⟨pc, hpce⟩ : ∃ pc, s.pc = pc := ⟨_, rfl⟩
  rw [hpce] at y5 y10 w5 w6
  have HPC := Lib.hid hpce
  have HTG := Lib.hid (show ∀ W : World, Calls Tryd.prog 81 #[.agg #[.int .u8 22, .int .i64 a, .int .i64 b, .int .i64 c, .int .i64 im], .int .i64 pc] W fun e w' => e = .returned (.tuple #[.int .i64 (pc + 1 + im), .bool true]) ∧ Below W.heap.size W w' from fun W => target_any ⟨22, a, b, c, im⟩ pc W w5 w6)
  have HTK := Lib.hid (show taken ⟨22, a, b, c, im⟩ s = (va == 0) by unfold taken; simp only; rw [HVA.out]; cases h : decide (va = 0) <;> simp_all)
  clear hbw x0 x1 x2 x3 x4 x5 x9 yf hpce rga
  simp only at y0 y1 y2 y3 y4
  cases hz : (va == 0)
  case false =>
   have HTK2 := Lib.hid (show taken ⟨22, a, b, c, im⟩ s = false by rw [HTK.out]; exact hz)
   go_upto_region 3 with fail
   obtain ⟨W2, hW2⟩ : ∃ W2, W1.setCell ⟨xb, 6, none⟩ (.bool false) = W2 := ⟨_, rfl⟩
   have f2 : Fr (· = xb) W1 W2 := hW2 ▸ (Fr.refl (· = xb) _).set _ (.inl rfl)
   have KX2 := Lib.hid (show W2.heap[xb]? = some (.cells (xCells ⟨22, a, b, c, im⟩ pc false (-1) 0 sb (pc + 1)) 126 (0, 0)) by rw [← hW2, heap_setCell_same W1 xb 6 _ _ _ HX1.out, HPC.out]; rfl)
   obtain ⟨z0, z1, z2, z3, z4, z5, z6, z7, z8, z9, z10, zf⟩ := x_cells KX2.out
   have zf10 := zf 10
   have lx2 := lt_of_blk' KX2.out
   have F2 := Lib.hid f2
   rw [hW2]
   simp only at z0 z1 z2 z3 z4
   clear hW2 f2 y0 y1 y2 y3 y4 y5 y6 y7 y8 y9 y10 yf6 zf
   go_wp2_with fail
   go_ret2
   refine ⟨rfl, ⟨false, ?_⟩, (Fr.of B1.out).trans F2.out⟩
   rw [HTK2.out, if_neg (by simp), HPC.out]
   exact KX2.out
  case true =>
   have HTK2 := Lib.hid (show taken ⟨22, a, b, c, im⟩ s = true by rw [HTK.out]; exact hz)
   go_upto_region 3 with fail
   obtain ⟨W2, hW2⟩ : ∃ W2, W1.setCell ⟨xb, 6, none⟩ (.bool true) = W2 := ⟨_, rfl⟩
   have f2 : Fr (· = xb) W1 W2 := hW2 ▸ (Fr.refl (· = xb) _).set _ (.inl rfl)
   have KX2 := Lib.hid (show W2.heap[xb]? = some (.cells (xCells ⟨22, a, b, c, im⟩ pc true (-1) 0 sb (pc + 1)) 126 (0, 0)) by rw [← hW2, heap_setCell_same W1 xb 6 _ _ _ HX1.out, HPC.out]; rfl)
   obtain ⟨z0, z1, z2, z3, z4, z5, z6, z7, z8, z9, z10, zf⟩ := x_cells KX2.out
   have zf10 := zf 10
   have lx2 := lt_of_blk' KX2.out
   have F2 := Lib.hid f2
   rw [hW2]
   simp only at z0 z1 z2 z3 z4
   clear hW2 f2 y0 y1 y2 y3 y4 y5 y6 y7 y8 y9 y10 yf6 zf
   have HTG2 := Lib.hid (show ∀ W : World, Below W2.heap.size W2 W → Calls Tryd.prog 81 #[.agg #[.int .u8 22, .int .i64 a, .int .i64 b, .int .i64 c, .int .i64 im], .int .i64 pc] W fun e w' => e = .returned (.tuple #[.int .i64 (pc + 1 + im), .bool true]) ∧ Below W2.heap.size W2 w' from fun W hW => (HTG.out W).mono fun e w' ⟨h1, h2⟩ => ⟨h1, hW.trans (h2.mono hW.size)⟩)
   go_upto_region 4 with fail
   go_cut [2] from 48 to 63 (fun a2 wx => a2 = .nilFunc ∧ wx.heap[xb]? = some (.cells (xCells ⟨22, a, b, c, im⟩ pc true (-1) 0 sb (pc + 1 + im)) 126 (0, 0)) ∧ Fr (· = xb) W2 wx)
   case first =>
    go_region_held3 (fun w' => (∀ o, o < 10 → w'.cell? ⟨xb, o, none⟩ = W2.cell? ⟨xb, o, none⟩) ∧ Fr (· = xb) W2 w') ((first | (with_reducible assumption) | exact keepsX (by first | assumption | exact Below.refl _ _ | exact Below.drew (Below.refl _ _)) lx2 | exact keepsX_set (keepsX (by assumption) lx2) _ | exact keepsX_set (by assumption) _)) (first | (go_at_call 81; go_loud (refine (HTG2.out _ (by first | assumption | exact Below.drew (Below.refl _ _))).mono ?_); go_loud (rintro e W3 ⟨rfl, hb3⟩); go_loud (have zf3 : W3.frozen? ⟨xb, 10, none⟩ = false := (hb3.frozen (p := ⟨xb, 10, none⟩) lx2).trans zf10); go_loud (have zc3 : W3.cell? ⟨xb, 10, none⟩ = some (.int .i64 (pc + 1)) := (hb3.cell (p := ⟨xb, 10, none⟩) lx2).trans z10); go_loud (have lx3 : xb < W3.heap.size := Nat.lt_of_lt_of_le lx2 hb3.size)))
    all_goals
     go_wp2_with fail
     go_meet
     case rel => exact ⟨rfl, by rw [heap_setCell_same W3 xb 10 _ _ _ ((hb3.block xb lx2).trans KX2.out)]; rfl, (Fr.of hb3).set _ (.inl rfl)⟩
   case rest =>
    obtain ⟨rfl, k3, f3⟩ := hcut
    go_wp2_with fail
    go_ret2
    refine ⟨rfl, ⟨true, ?_⟩, (Fr.of B1.out).trans (F2.out.trans f3)⟩
    rw [HTK2.out, if_pos rfl, HPC.out]
    exact k3

set_option maxRecDepth 20000 in
set_option maxHeartbeats 2000000 in
theorem br_23 (xb sb : Nat) (im b c : Int) (a : Nat) (ha : a < 16) (him : -131072 ≤ im ∧ im ≤ 131071) (s : St) (hpc : 0 ≤ s.pc ∧ s.pc ≤ 1000000) (w : World)
  (hx : w.heap[xb]? = some (.cells (xCells ⟨23, a, b, c, im⟩ s.pc false (-1) 0 sb (s.pc + 1)) 126 (0, 0))) (hM : Mach w sb s) :
  Calls Tryd.prog 76 #[.pointer (some ⟨xb, 0, none⟩)] w (BrPost xb sb ⟨23, a, b, c, im⟩ s w) := by
 have HX0 := Lib.hid hx
 have HM0 := Lib.hid hM
 obtain ⟨x0, x1, x2, x3, x4, x5, -, -, -, x9, -, xf⟩ := x_cells HX0.out
 have lx := lt_of_blk' HX0.out
 have lsb := hM.lt
 have rga := hM.reg ha
 have ga : (a : Int) < 16 := by omega
 have ga2 : decide ((16 : Int) ≤ (a : Int)) = false := decide_eq_false (by omega)
 obtain ⟨va, hva⟩ : ∃ va, s.r.getD a 0 = va := ⟨_, rfl⟩
 rw [hva] at rga
 have HVA := Lib.hid (show reg s (a : Int) = va by rw [reg_nat]; exact hva)
 clear hx hM xf hva
 simp only at x0 x1 x2 x3 x4
 go_enter Tryd.func76, Tryd.ntmps76
 go_upto_region 1 with fail
 go_cut [4] from 5 to 19 (fun a4 wx => a4 = .bool (va == 0) ∧ Below w.heap.size w wx)
 case first =>
  refine wp_region_ext (by kernel_rfl) (by kernel_rfl) ?_
  repeat (go_big_quiet_step (fail))
  refine wpQuiet_nil ?_
  rintro _ ⟨y, rfl⟩
  go_wp2_with fail
  go_meet
  case rel => exact ⟨rfl, y.h⟩
 case rest =>
  obtain ⟨rfl, hbw⟩ := hcut
  obtain ⟨W1, hW1⟩ : ∃ W1 : World, W1 = wc := ⟨_, rfl⟩
  subst hW1
  have HX1 := Lib.hid ((hbw.block xb lx).trans HX0.out)
  have B1 := Lib.hid hbw
  obtain ⟨y0, y1, y2, y3, y4, y5, y6, y7, y8, y9, y10, yf⟩ := x_cells HX1.out
  have yf6 := yf 6
  have lx1 := lt_of_blk' HX1.out
  have w5 : IntKind.i64.wrap (s.pc + 1) = s.pc + 1 := IntWalk.i64_in _ (by omega)
  have w6 : IntKind.i64.wrap (s.pc + 1 + im) = s.pc + 1 + im := IntWalk.i64_in _ (by omega)
  obtain ⟨pc, hpce⟩ : ∃ pc, s.pc = pc := ⟨_, rfl⟩
  rw [hpce] at y5 y10 w5 w6
  have HPC := Lib.hid hpce
  have HTG := Lib.hid (show ∀ W : World, Calls Tryd.prog 81 #[.agg #[.int .u8 23, .int .i64 a, .int .i64 b, .int .i64 c, .int .i64 im], .int .i64 pc] W fun e w' => e = .returned (.tuple #[.int .i64 (pc + 1 + im), .bool true]) ∧ Below W.heap.size W w' from fun W => target_any ⟨23, a, b, c, im⟩ pc W w5 w6)
  have HTK := Lib.hid (show taken ⟨23, a, b, c, im⟩ s = !(va == 0) by unfold taken; simp only; rw [HVA.out]; cases h : decide (va = 0) <;> simp_all)
  clear hbw x0 x1 x2 x3 x4 x5 x9 yf hpce rga
  simp only at y0 y1 y2 y3 y4
  cases hz : (va == 0)
  case false =>
   have HTK2 := Lib.hid (show taken ⟨23, a, b, c, im⟩ s = true by rw [HTK.out]; rw [hz]; rfl)
   go_upto_region 3 with fail
   obtain ⟨W2, hW2⟩ : ∃ W2, W1.setCell ⟨xb, 6, none⟩ (.bool true) = W2 := ⟨_, rfl⟩
   have f2 : Fr (· = xb) W1 W2 := hW2 ▸ (Fr.refl (· = xb) _).set _ (.inl rfl)
   have KX2 := Lib.hid (show W2.heap[xb]? = some (.cells (xCells ⟨23, a, b, c, im⟩ pc true (-1) 0 sb (pc + 1)) 126 (0, 0)) by rw [← hW2, heap_setCell_same W1 xb 6 _ _ _ HX1.out, HPC.out]; rfl)
   obtain ⟨z0, z1, z2, z3, z4, z5, z6, z7, z8, z9, z10, zf⟩ := x_cells KX2.out
   have zf10 := zf 10
   have lx2 := lt_of_blk' KX2.out
   have F2 := Lib.hid f2
   rw [hW2]
   simp only at z0 z1 z2 z3 z4
   clear hW2 f2 y0 y1 y2 y3 y4 y5 y6 y7 y8 y9 y10 yf6 zf
   have HTG2 := Lib.hid (show ∀ W : World, Below W2.heap.size W2 W → Calls Tryd.prog 81 #[.agg #[.int .u8 23, .int .i64 a, .int .i64 b, .int .i64 c, .int .i64 im], .int .i64 pc] W fun e w' => e = .returned (.tuple #[.int .i64 (pc + 1 + im), .bool true]) ∧ Below W2.heap.size W2 w' from fun W hW => (HTG.out W).mono fun e w' ⟨h1, h2⟩ => ⟨h1, hW.trans (h2.mono hW.size)⟩)
   go_upto_region 4 with fail
   go_cut [2] from 48 to 63 (fun a2 wx => a2 = .nilFunc ∧ wx.heap[xb]? = some (.cells (xCells ⟨23, a, b, c, im⟩ pc true (-1) 0 sb (pc + 1 + im)) 126 (0, 0)) ∧ Fr (· = xb) W2 wx)
   case first =>
    go_region_held3 (fun w' => (∀ o, o < 10 → w'.cell? ⟨xb, o, none⟩ = W2.cell? ⟨xb, o, none⟩) ∧ Fr (· = xb) W2 w') ((first | (with_reducible assumption) | exact keepsX (by first | assumption | exact Below.refl _ _ | exact Below.drew (Below.refl _ _)) lx2 | exact keepsX_set (keepsX (by assumption) lx2) _ | exact keepsX_set (by assumption) _)) (first | (go_at_call 81; go_loud (refine (HTG2.out _ (by first | assumption | exact Below.drew (Below.refl _ _))).mono ?_); go_loud (rintro e W3 ⟨rfl, hb3⟩); go_loud (have zf3 : W3.frozen? ⟨xb, 10, none⟩ = false := (hb3.frozen (p := ⟨xb, 10, none⟩) lx2).trans zf10); go_loud (have zc3 : W3.cell? ⟨xb, 10, none⟩ = some (.int .i64 (pc + 1)) := (hb3.cell (p := ⟨xb, 10, none⟩) lx2).trans z10); go_loud (have lx3 : xb < W3.heap.size := Nat.lt_of_lt_of_le lx2 hb3.size)))
    all_goals
     go_wp2_with fail
     go_meet
     case rel => exact ⟨rfl, by rw [heap_setCell_same W3 xb 10 _ _ _ ((hb3.block xb lx2).trans KX2.out)]; rfl, (Fr.of hb3).set _ (.inl rfl)⟩
   case rest =>
    obtain ⟨rfl, k3, f3⟩ := hcut
    go_wp2_with fail
    go_ret2
    refine ⟨rfl, ⟨true, ?_⟩, (Fr.of B1.out).trans (F2.out.trans f3)⟩
    rw [HTK2.out, if_pos rfl, HPC.out]
    exact k3
  case true =>
   have HTK2 := Lib.hid (show taken ⟨23, a, b, c, im⟩ s = false by rw [HTK.out]; rw [hz]; rfl)
   go_upto_region 3 with fail
   obtain ⟨W2, hW2⟩ : ∃ W2, W1.setCell ⟨xb, 6, none⟩ (.bool false) = W2 := ⟨_, rfl⟩
   have f2 : Fr (· = xb) W1 W2 := hW2 ▸ (Fr.refl (· = xb) _).set _ (.inl rfl)
   have KX2 := Lib.hid (show W2.heap[xb]? = some (.cells (xCells ⟨23, a, b, c, im⟩ pc false (-1) 0 sb (pc + 1)) 126 (0, 0)) by rw [← hW2, heap_setCell_same W1 xb 6 _ _ _ HX1.out, HPC.out]; rfl)
   obtain ⟨z0, z1, z2, z3, z4, z5, z6, z7, z8, z9, z10, zf⟩ := x_cells KX2.out
   have zf10 := zf 10
   have lx2 := lt_of_blk' KX2.out
   have F2 := Lib.hid f2
   rw [hW2]
   simp only at z0 z1 z2 z3 z4
   clear hW2 f2 y0 y1 y2 y3 y4 y5 y6 y7 y8 y9 y10 yf6 zf
   go_wp2_with fail
   go_ret2
   refine ⟨rfl, ⟨false, ?_⟩, (Fr.of B1.out).trans F2.out⟩
   rw [HTK2.out, if_neg (by simp), HPC.out]
   exact KX2.out

set_option maxRecDepth 20000 in
set_option maxHeartbeats 2000000 in
theorem br_24 (xb sb : Nat) (im b c : Int) (a : Nat) (ha : a < 16) (him : -131072 ≤ im ∧ im ≤ 131071) (s : St) (hpc : 0 ≤ s.pc ∧ s.pc ≤ 1000000) (w : World)
  (hx : w.heap[xb]? = some (.cells (xCells ⟨24, a, b, c, im⟩ s.pc false (-1) 0 sb (s.pc + 1)) 126 (0, 0))) (hM : Mach w sb s) :
  Calls Tryd.prog 76 #[.pointer (some ⟨xb, 0, none⟩)] w (BrPost xb sb ⟨24, a, b, c, im⟩ s w) := by
 have HX0 := Lib.hid hx
 have HM0 := Lib.hid hM
 obtain ⟨x0, x1, x2, x3, x4, x5, -, -, -, x9, -, xf⟩ := x_cells HX0.out
 have lx := lt_of_blk' HX0.out
 have lsb := hM.lt
 have rga := hM.reg ha
 have ga : (a : Int) < 16 := by omega
 have ga2 : decide ((16 : Int) ≤ (a : Int)) = false := decide_eq_false (by omega)
 obtain ⟨va, hva⟩ : ∃ va, s.r.getD a 0 = va := ⟨_, rfl⟩
 rw [hva] at rga
 have HVA := Lib.hid (show reg s (a : Int) = va by rw [reg_nat]; exact hva)
 clear hx hM xf hva
 simp only at x0 x1 x2 x3 x4
 go_enter Tryd.func76, Tryd.ntmps76
 go_upto_region 1 with fail
 go_cut [4] from 5 to 19 (fun a4 wx => a4 = .bool (va == 0) ∧ Below w.heap.size w wx)
 case first =>
  refine wp_region_ext (by kernel_rfl) (by kernel_rfl) ?_
  repeat (go_big_quiet_step (fail))
  refine wpQuiet_nil ?_
  rintro _ ⟨y, rfl⟩
  go_wp2_with fail
  go_meet
  case rel => exact ⟨rfl, y.h⟩
 case rest =>
  obtain ⟨rfl, hbw⟩ := hcut
  obtain ⟨W1, hW1⟩ : ∃ W1 : World, W1 = wc := ⟨_, rfl⟩
  subst hW1
  have HX1 := Lib.hid ((hbw.block xb lx).trans HX0.out)
  have B1 := Lib.hid hbw
  obtain ⟨y0, y1, y2, y3, y4, y5, y6, y7, y8, y9, y10, yf⟩ := x_cells HX1.out
  have yf6 := yf 6
  have lx1 := lt_of_blk' HX1.out
  have w5 : IntKind.i64.wrap (s.pc + 1) = s.pc + 1 := IntWalk.i64_in _ (by omega)
  have w6 : IntKind.i64.wrap (s.pc + 1 + im) = s.pc + 1 + im := IntWalk.i64_in _ (by omega)
  obtain ⟨pc, hpce⟩ : ∃ pc, s.pc = pc := ⟨_, rfl⟩
  rw [hpce] at y5 y10 w5 w6
  have HPC := Lib.hid hpce
  have HTG := Lib.hid (show ∀ W : World, Calls Tryd.prog 81 #[.agg #[.int .u8 24, .int .i64 a, .int .i64 b, .int .i64 c, .int .i64 im], .int .i64 pc] W fun e w' => e = .returned (.tuple #[.int .i64 (pc + 1 + im), .bool true]) ∧ Below W.heap.size W w' from fun W => target_any ⟨24, a, b, c, im⟩ pc W w5 w6)
  have HTK := Lib.hid (show taken ⟨24, a, b, c, im⟩ s = true by unfold taken; simp only; rw [HVA.out]; simp)
  clear hbw x0 x1 x2 x3 x4 x5 x9 yf hpce rga
  simp only at y0 y1 y2 y3 y4
  cases hz : (va == 0)
  case false =>
   have HTK2 := Lib.hid (show taken ⟨24, a, b, c, im⟩ s = true by rw [HTK.out])
   go_upto_region 3 with fail
   obtain ⟨W2, hW2⟩ : ∃ W2, W1.setCell ⟨xb, 6, none⟩ (.bool true) = W2 := ⟨_, rfl⟩
   have f2 : Fr (· = xb) W1 W2 := hW2 ▸ (Fr.refl (· = xb) _).set _ (.inl rfl)
   have KX2 := Lib.hid (show W2.heap[xb]? = some (.cells (xCells ⟨24, a, b, c, im⟩ pc true (-1) 0 sb (pc + 1)) 126 (0, 0)) by rw [← hW2, heap_setCell_same W1 xb 6 _ _ _ HX1.out, HPC.out]; rfl)
   obtain ⟨z0, z1, z2, z3, z4, z5, z6, z7, z8, z9, z10, zf⟩ := x_cells KX2.out
   have zf10 := zf 10
   have lx2 := lt_of_blk' KX2.out
   have F2 := Lib.hid f2
   rw [hW2]
   simp only at z0 z1 z2 z3 z4
   clear hW2 f2 y0 y1 y2 y3 y4 y5 y6 y7 y8 y9 y10 yf6 zf
   have HTG2 := Lib.hid (show ∀ W : World, Below W2.heap.size W2 W → Calls Tryd.prog 81 #[.agg #[.int .u8 24, .int .i64 a, .int .i64 b, .int .i64 c, .int .i64 im], .int .i64 pc] W fun e w' => e = .returned (.tuple #[.int .i64 (pc + 1 + im), .bool true]) ∧ Below W2.heap.size W2 w' from fun W hW => (HTG.out W).mono fun e w' ⟨h1, h2⟩ => ⟨h1, hW.trans (h2.mono hW.size)⟩)
   go_upto_region 4 with fail
   go_cut [2] from 48 to 63 (fun a2 wx => a2 = .nilFunc ∧ wx.heap[xb]? = some (.cells (xCells ⟨24, a, b, c, im⟩ pc true (-1) 0 sb (pc + 1 + im)) 126 (0, 0)) ∧ Fr (· = xb) W2 wx)
   case first =>
    go_region_held3 (fun w' => (∀ o, o < 10 → w'.cell? ⟨xb, o, none⟩ = W2.cell? ⟨xb, o, none⟩) ∧ Fr (· = xb) W2 w') ((first | (with_reducible assumption) | exact keepsX (by first | assumption | exact Below.refl _ _ | exact Below.drew (Below.refl _ _)) lx2 | exact keepsX_set (keepsX (by assumption) lx2) _ | exact keepsX_set (by assumption) _)) (first | (go_at_call 81; go_loud (refine (HTG2.out _ (by first | assumption | exact Below.drew (Below.refl _ _))).mono ?_); go_loud (rintro e W3 ⟨rfl, hb3⟩); go_loud (have zf3 : W3.frozen? ⟨xb, 10, none⟩ = false := (hb3.frozen (p := ⟨xb, 10, none⟩) lx2).trans zf10); go_loud (have zc3 : W3.cell? ⟨xb, 10, none⟩ = some (.int .i64 (pc + 1)) := (hb3.cell (p := ⟨xb, 10, none⟩) lx2).trans z10); go_loud (have lx3 : xb < W3.heap.size := Nat.lt_of_lt_of_le lx2 hb3.size)))
    all_goals
     go_wp2_with fail
     go_meet
     case rel => exact ⟨rfl, by rw [heap_setCell_same W3 xb 10 _ _ _ ((hb3.block xb lx2).trans KX2.out)]; rfl, (Fr.of hb3).set _ (.inl rfl)⟩
   case rest =>
    obtain ⟨rfl, k3, f3⟩ := hcut
    go_wp2_with fail
    go_ret2
    refine ⟨rfl, ⟨true, ?_⟩, (Fr.of B1.out).trans (F2.out.trans f3)⟩
    rw [HTK2.out, if_pos rfl, HPC.out]
    exact k3
  case true =>
   have HTK2 := Lib.hid (show taken ⟨24, a, b, c, im⟩ s = true by rw [HTK.out])
   go_upto_region 3 with fail
   obtain ⟨W2, hW2⟩ : ∃ W2, W1.setCell ⟨xb, 6, none⟩ (.bool true) = W2 := ⟨_, rfl⟩
   have f2 : Fr (· = xb) W1 W2 := hW2 ▸ (Fr.refl (· = xb) _).set _ (.inl rfl)
   have KX2 := Lib.hid (show W2.heap[xb]? = some (.cells (xCells ⟨24, a, b, c, im⟩ pc true (-1) 0 sb (pc + 1)) 126 (0, 0)) by rw [← hW2, heap_setCell_same W1 xb 6 _ _ _ HX1.out, HPC.out]; rfl)
   obtain ⟨z0, z1, z2, z3, z4, z5, z6, z7, z8, z9, z10, zf⟩ := x_cells KX2.out
   have zf10 := zf 10
   have lx2 := lt_of_blk' KX2.out
   have F2 := Lib.hid f2
   rw [hW2]
   simp only at z0 z1 z2 z3 z4
   clear hW2 f2 y0 y1 y2 y3 y4 y5 y6 y7 y8 y9 y10 yf6 zf
   have HTG2 := Lib.hid (show ∀ W : World, Below W2.heap.size W2 W → Calls Tryd.prog 81 #[.agg #[.int .u8 24, .int .i64 a, .int .i64 b, .int .i64 c, .int .i64 im], .int .i64 pc] W fun e w' => e = .returned (.tuple #[.int .i64 (pc + 1 + im), .bool true]) ∧ Below W2.heap.size W2 w' from fun W hW => (HTG.out W).mono fun e w' ⟨h1, h2⟩ => ⟨h1, hW.trans (h2.mono hW.size)⟩)
   go_upto_region 4 with fail
   go_cut [2] from 48 to 63 (fun a2 wx => a2 = .nilFunc ∧ wx.heap[xb]? = some (.cells (xCells ⟨24, a, b, c, im⟩ pc true (-1) 0 sb (pc + 1 + im)) 126 (0, 0)) ∧ Fr (· = xb) W2 wx)
   case first =>
    go_region_held3 (fun w' => (∀ o, o < 10 → w'.cell? ⟨xb, o, none⟩ = W2.cell? ⟨xb, o, none⟩) ∧ Fr (· = xb) W2 w') ((first | (with_reducible assumption) | exact keepsX (by first | assumption | exact Below.refl _ _ | exact Below.drew (Below.refl _ _)) lx2 | exact keepsX_set (keepsX (by assumption) lx2) _ | exact keepsX_set (by assumption) _)) (first | (go_at_call 81; go_loud (refine (HTG2.out _ (by first | assumption | exact Below.drew (Below.refl _ _))).mono ?_); go_loud (rintro e W3 ⟨rfl, hb3⟩); go_loud (have zf3 : W3.frozen? ⟨xb, 10, none⟩ = false := (hb3.frozen (p := ⟨xb, 10, none⟩) lx2).trans zf10); go_loud (have zc3 : W3.cell? ⟨xb, 10, none⟩ = some (.int .i64 (pc + 1)) := (hb3.cell (p := ⟨xb, 10, none⟩) lx2).trans z10); go_loud (have lx3 : xb < W3.heap.size := Nat.lt_of_lt_of_le lx2 hb3.size)))
    all_goals
     go_wp2_with fail
     go_meet
     case rel => exact ⟨rfl, by rw [heap_setCell_same W3 xb 10 _ _ _ ((hb3.block xb lx2).trans KX2.out)]; rfl, (Fr.of hb3).set _ (.inl rfl)⟩
   case rest =>
    obtain ⟨rfl, k3, f3⟩ := hcut
    go_wp2_with fail
    go_ret2
    refine ⟨rfl, ⟨true, ?_⟩, (Fr.of B1.out).trans (F2.out.trans f3)⟩
    rw [HTK2.out, if_pos rfl, HPC.out]
    exact k3

end Go.Proofs.YtebklpnkcicpjaaDoor


