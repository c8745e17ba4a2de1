/-
  What is proved here: what control and branch return.
-/
import Derived.Test.YtebklpnkcicpjaaDoorQbT
import Derived.Test.YtebklpnkcicpjaaDoorQbCd
import Derived.Handy
import Derived.Test.YtebklpnkcicpjaaDoorQbCb
import Derived.Deep.RegionWith
import Derived.Deep.RegionHeld3
import Derived.Deep.DeepCutAuto
namespace Go.Proofs.YtebklpnkcicpjaaDoor
open Go.RowKit
set_option linter.unusedVariables false
set_option linter.unusedSimpArgs false

theorem lt_of_blk' {w : World} {b : Nat} {o : Obj} (h : w.heap[b]? = some o) : b < w.heap.size := (Array.getElem?_eq_some_iff.1 h).1
/-- All blocks but those of S are as they were. -/
structure Fr (S : Nat → Prop) (w w' : World) : Prop where
  os : w'.os = w.os
  tape : w'.tape = w.tape
  output : w'.output = w.output
  size : w.heap.size ≤ w'.heap.size
  block : ∀ k, k < w.heap.size → ¬ S k → w'.heap[k]? = w.heap[k]?
theorem Fr.refl (S : Nat → Prop) (w : World) : Fr S w w := ⟨rfl, rfl, rfl, Nat.le_refl _, fun _ _ _ => rfl⟩
theorem Fr.trans {S : Nat → Prop} {a b c : World} (h : Fr S a b) (k : Fr S b c) : Fr S a c :=
  ⟨k.os.trans h.os, k.tape.trans h.tape, k.output.trans h.output, Nat.le_trans h.size k.size, fun i h1 h2 => (k.block i (Nat.lt_of_lt_of_le h1 h.size) h2).trans (h.block i h1 h2)⟩
theorem Fr.of {S : Nat → Prop} {w w' : World} (h : Below w.heap.size w w') : Fr S w w' := ⟨h.os, h.tape, h.output, h.size, fun k h1 _ => h.block k h1⟩
theorem Fr.mono {S S' : Nat → Prop} {w w' : World} (h : Fr S w w') (i : ∀ k, k < w.heap.size → S k → S' k) : Fr S' w w' := ⟨h.os, h.tape, h.output, h.size, fun k h1 h2 => h.block k h1 (fun h3 => h2 (i k h1 h3))⟩
theorem Fr.below {S : Nat → Prop} {w w' : World} {B : Nat} (h : Fr S w w') (hB : B ≤ w.heap.size) (hS : ∀ k, S k → B ≤ k) : Below B w w' :=
  ⟨h.os, h.tape, h.output, h.size, fun k hk => h.block k (Nat.lt_of_lt_of_le hk hB) (fun h3 => by have := hS k h3; omega)⟩
/-- From an elder world: blocks that are new since then may be changed. -/
theorem Fr.since {S S' : Nat → Prop} {w0 w w' : World} (h0 : Fr S w0 w) (h : Fr S' w w') (i : ∀ k, S' k → S k ∨ w0.heap.size ≤ k) : Fr S w0 w' :=
  ⟨h.os.trans h0.os, h.tape.trans h0.tape, h.output.trans h0.output, Nat.le_trans h0.size h.size, fun k h1 h2 => (h.block k (Nat.lt_of_lt_of_le h1 h0.size) (fun h3 => by rcases i k h3 with h4 | h4; exact h2 h4; omega)).trans (h0.block k h1 h2)⟩
theorem Fr.cell {S : Nat → Prop} {w w' : World} (h : Fr S w w') {b : Nat} (o : Nat) (hb : b < w.heap.size) (hn : ¬ S b) : w'.cell? ⟨b, o, none⟩ = w.cell? ⟨b, o, none⟩ := World.cell?_of_block (h.block b hb hn)
theorem Fr.set {S : Nat → Prop} {w w' : World} {b o : Nat} (h : Fr S w w') (v : Value) (hp : S b ∨ w.heap.size ≤ b) : Fr S w (w'.setCell ⟨b, o, none⟩ v) :=
  ⟨h.os, h.tape, h.output, by simpa using h.size, fun k h1 h2 => by
    rw [Below.heap_setCell _ _ _ _ (by show k ≠ b; rintro rfl; rcases hp with hp | hp; exact h2 hp; omega)]
    exact h.block k h1 h2⟩
theorem Fr.alloc {S : Nat → Prop} {w w' : World} (h : Fr S w w') (o : Obj) : Fr S w (w'.alloc o) :=
  h.trans (Fr.of ((Below.refl _ _).alloc (Nat.le_refl _) _))
theorem Fr.drew {S : Nat → Prop} {w w' : World} (h : Fr S w w') : Fr S w w'.drew := h.trans (Fr.of (Below.drew (Below.refl _ _)))
theorem Fr.own {S : Nat → Prop} {w w' : World} (h : Fr S w w') {B n size : Nat} {e : TypeId} {v : Value} {xs : List Value} (ho : w.ownsRow B e size v n xs) (hn : ∀ q, v.ownBlock = some q → ¬ S q) : w'.ownsRow B e size v n xs := by
  refine ⟨ho.1, ?_⟩
  rcases ho.2 with h0 | ⟨g, cap, cur, rfl, hb, hk, hr⟩
  · exact .inl h0
  · exact .inr ⟨g, cap, cur, rfl, hb, (h.block g (lt_of_blk' hk) (hn g rfl)).trans hk, hr⟩

/-- The state of a job. -/
structure St where
  pc : Int
  r : List Int
  d : Value
  hal : Bool
  held : Int
def St.cells (s : St) : Array Value := (Value.int .i64 s.pc :: (s.r.map (Value.int .i32) ++ [s.d, .bool s.hal, .int .i64 s.held])).toArray
structure Mach (w : World) (sb : Nat) (s : St) : Prop where
  blk : w.heap[sb]? = some (.cells s.cells 34 (0, 0))
  len : s.r.length = 16
  wd : ∀ x ∈ s.r, W32 x
section
variable {w : World} {sb : Nat} {s : St}
theorem Mach.lt (h : Mach w sb s) : sb < w.heap.size := lt_of_blk' h.blk
theorem Mach.keep {w' : World} (h : Mach w sb s) (e : w'.heap[sb]? = w.heap[sb]?) : Mach w' sb s := ⟨e.trans h.blk, h.len, h.wd⟩
theorem St.at_reg (hl : s.r.length = 16) {k : Nat} (hk : k < 16) : s.cells[1 + k]? = some (.int .i32 (s.r.getD k 0)) := by
  unfold St.cells
  rw [List.getElem?_toArray, Nat.add_comm, List.getElem?_cons_succ, List.getElem?_append_left (by simp; omega), List.getElem?_map]
  simp [List.getD, List.getElem?_eq_getElem (show k < s.r.length by omega)]
theorem St.at_tail (hl : s.r.length = 16) (k : Nat) : s.cells[17 + k]? = [s.d, .bool s.hal, .int .i64 s.held][k]? := by
  unfold St.cells
  rw [List.getElem?_toArray, show 17 + k = (16 + k) + 1 by omega, List.getElem?_cons_succ, List.getElem?_append_right (by simp; omega)]
  simp [hl]
theorem Mach.pc (h : Mach w sb s) : w.cell? ⟨sb, 0, none⟩ = some (.int .i64 s.pc) := by simp [World.cell?, h.blk, St.cells]
theorem Mach.reg (h : Mach w sb s) {k : Nat} (hk : k < 16) : w.cell? ⟨sb, 1 + k, none⟩ = some (.int .i32 (s.r.getD k 0)) := by
  have := St.at_reg h.len hk
  simpa [World.cell?, h.blk] using this
theorem Mach.hal (h : Mach w sb s) : w.cell? ⟨sb, 18, none⟩ = some (.bool s.hal) := by have := St.at_tail h.len 1; simpa [World.cell?, h.blk] using this
theorem Mach.held (h : Mach w sb s) : w.cell? ⟨sb, 19, none⟩ = some (.int .i64 s.held) := by have := St.at_tail h.len 2; simpa [World.cell?, h.blk] using this
theorem Mach.fz (h : Mach w sb s) (o : Nat) : w.frozen? ⟨sb, o, none⟩ = false := by simp [World.frozen?, h.blk]
theorem St.set_reg (hl : s.r.length = 16) {k : Nat} (hk : k < 16) (v : Int) : s.cells.setIfInBounds (1 + k) (.int .i32 v) = ({ s with r := s.r.set k v } : St).cells := by
  unfold St.cells
  simp only [List.setIfInBounds_toArray]
  rw [Nat.add_comm, List.set_cons_succ, List.set_append_left _ _ (by simp; omega), List.map_set]
theorem Mach.setReg (h : Mach w sb s) {k : Nat} (hk : k < 16) {v : Int} (hv : W32 v) : Mach (w.setCell ⟨sb, 1 + k, none⟩ (.int .i32 v)) sb { s with r := s.r.set k v } :=
  ⟨by rw [heap_setCell_same w sb (1 + k) _ _ _ h.blk, St.set_reg h.len hk], by simp [h.len], fun x hx => by
    rcases List.mem_or_eq_of_mem_set hx with h1 | rfl
    · exact h.wd x h1
    · exact hv⟩
end
theorem Mach.drew {w : World} {sb : Nat} {s : St} (h : Mach w sb s) : Mach w.drew sb s := h.keep rfl
/-- The execution in memory. -/
def xCells (I : Ins) (pc : Int) (tk : Bool) (ad vl : Int) (sb : Nat) (nx : Int) : Array Value :=
  #[.int .u8 I.op, .int .i64 I.a, .int .i64 I.b, .int .i64 I.c, .int .i64 I.imm, .int .i64 pc, .bool tk, .int .i64 ad, .int .i32 vl, .pointer (some ⟨sb, 0, none⟩), .int .i64 nx]
/-- A register is written; register 0 never is. -/
def setR (r : List Int) (a v : Int) : List Int := if a = 0 then r else r.set a.toNat v
abbrev i32s (l : List Int) : List Value := l.map (Value.int .i32)

end Go.Proofs.YtebklpnkcicpjaaDoor

namespace Go.Proofs.YtebklpnkcicpjaaDoor
open Go.RowKit
set_option linter.unusedVariables false
set_option linter.unusedSimpArgs false

end Go.Proofs.YtebklpnkcicpjaaDoor

namespace Go.Proofs.YtebklpnkcicpjaaDoor
open Go.RowKit
set_option linter.unusedVariables false
set_option linter.unusedSimpArgs false

def reg (s : St) (k : Int) : Int := s.r.getD k.toNat 0
/-- The operator (of word.Apply) of an opcode from add to lt. -/
def opr (op : Int) : Int := if op = 13 then 18 else op + 4
/-- What an instruction writes into its register A. -/
def Writes (I : Ins) (s : St) (dl sl : List Int) (v : Int) : Prop :=
  (I.op = 14 ∧ v = I.imm) ∨ (I.op = 15 ∧ v = wrap32 (reg s I.b + I.imm)) ∨ (I.op = 16 ∧ v = wrap32 (reg s I.b * 2 ^ I.imm.toNat)) ∨ (I.op = 17 ∧ v = bits .or .i32 (reg s I.b) I.imm) ∨
  (I.op = 18 ∧ 0 ≤ reg s I.b + I.imm ∧ reg s I.b + I.imm < dl.length ∧ v = dl.getD (reg s I.b + I.imm).toNat 0) ∨ (I.op = 20 ∧ 0 ≤ reg s I.b + I.imm ∧ reg s I.b + I.imm < sl.length ∧ v = sl.getD (reg s I.b + I.imm).toNat 0) ∨
  (I.op = 26 ∧ W32 v) ∨ (2 ≤ I.op ∧ I.op ≤ 13 ∧ we (opr I.op) (reg s I.c) = 0 ∧ v = wv (opr I.op) (reg s I.b) (reg s I.c))
def taken (I : Ins) (s : St) : Bool := decide (I.op = 24) || (decide (reg s I.a = 0) == decide (I.op = 22))
/-- An executed instruction: the next one, the state, the data, the shared memory. -/
inductive StepOk (I : Ins) (lk : Int) (s : St) (dl sl : List Int) : Int → St → List Int → List Int → Prop
  | plain (h : I.op = 0 ∨ I.op = 27 ∨ (I.op = 25 ∧ 0 ≤ reg s I.a ∧ reg s I.a < I.imm)) : StepOk I lk s dl sl (s.pc + 1) s dl sl
  | set (v : Int) (h : Writes I s dl sl v) : StepOk I lk s dl sl (s.pc + 1) { s with r := setR s.r I.a v } dl sl
  | st (h : I.op = 19) (h0 : 0 ≤ reg s I.b + I.imm) (h1 : reg s I.b + I.imm < dl.length) : StepOk I lk s dl sl (s.pc + 1) s (dl.set (reg s I.b + I.imm).toNat (reg s I.a)) sl
  | sts (h : I.op = 21) (h0 : 0 ≤ reg s I.b + I.imm) (h1 : reg s I.b + I.imm < sl.length) : StepOk I lk s dl sl (s.pc + 1) s dl (sl.set (reg s I.b + I.imm).toNat (reg s I.a))
  | br (h : isBr I.op = true) : StepOk I lk s dl sl (if taken I s = true then s.pc + 1 + I.imm else s.pc + 1) s dl sl
  | lock (h : I.op = 28) (h0 : s.held < 0) (h1 : I.imm < lk) : StepOk I lk s dl sl (s.pc + 1) { s with held := I.imm } dl sl
  | unlock (h : I.op = 29) (h0 : s.held = I.imm) : StepOk I lk s dl sl (s.pc + 1) { s with held := -1 } dl sl
  | halt (h : I.op = 1) (h0 : s.held < 0) : StepOk I lk s dl sl s.pc { s with hal := true } dl sl

/-- A job in memory: its state, its data, the shared memory. -/
structure Job (w : World) (sb : Nat) (s : St) (dl : List Int) (sv : Value) (sl : List Int) : Prop where
  m : Mach w sb s
  d : w.ownsRow 0 21 1 s.d dl.length (i32s dl)
  sh : w.ownsRow 0 21 1 sv sl.length (i32s sl)
  ne : ∀ q, s.d.ownBlock = some q → sv.ownBlock ≠ some q
  dw : ∀ x ∈ dl, W32 x
  sw : ∀ x ∈ sl, W32 x
  dn : dl.length ≤ 1000000
  sn : sl.length ≤ 1000000
/-- The blocks of a job. -/
def Jb (sb : Nat) (dv sv : Value) (k : Nat) : Prop := k = sb ∨ dv.ownBlock = some k ∨ sv.ownBlock = some k
theorem row_block {w : World} {v : Value} {n k B : Nat} {xs : List Value} (h : w.ownsRow B 21 1 v n xs) (e : v.ownBlock = some k) : ∃ cur, w.heap[k]? = some (.cells cur 21 (0, 0)) := by
  rcases h.2 with ⟨rfl, _⟩ | ⟨g, cap, cur, rfl, _, hk, _⟩
  · simp [Value.ownBlock] at e
  · simp only [Value.ownBlock, Option.some.injEq] at e
    subst e
    exact ⟨cur, hk⟩
section
variable {w : World} {sb : Nat} {s : St} {dl : List Int} {sv : Value} {sl : List Int}
theorem Job.dne (h : Job w sb s dl sv sl) : s.d.ownBlock ≠ some sb := fun e => by
  obtain ⟨cur, hc⟩ := row_block h.d e
  have := hc.symm.trans h.m.blk
  simp at this
theorem Job.sne (h : Job w sb s dl sv sl) : sv.ownBlock ≠ some sb := fun e => by
  obtain ⟨cur, hc⟩ := row_block h.sh e
  have := hc.symm.trans h.m.blk
  simp at this
theorem Job.lt (h : Job w sb s dl sv sl) {k : Nat} (hk : Jb sb s.d sv k) : k < w.heap.size := by
  rcases hk with rfl | e | e
  · exact h.m.lt
  · obtain ⟨cur, hc⟩ := row_block h.d e; exact lt_of_blk' hc
  · obtain ⟨cur, hc⟩ := row_block h.sh e; exact lt_of_blk' hc
theorem Job.keep {S : Nat → Prop} {w' : World} (h : Job w sb s dl sv sl) (f : Fr S w w') (hn : ∀ k, Jb sb s.d sv k → ¬ S k) : Job w' sb s dl sv sl :=
  ⟨h.m.keep (f.block sb h.m.lt (hn sb (.inl rfl))), f.own h.d (fun q hq => hn q (.inr (.inl hq))), f.own h.sh (fun q hq => hn q (.inr (.inr hq))), h.ne, h.dw, h.sw, h.dn, h.sn⟩
theorem Job.later {w' : World} (h : Job w sb s dl sv sl) (b : Below w.heap.size w w') : Job w' sb s dl sv sl := h.keep (S := fun _ => False) (Fr.of b) (fun _ _ h => h)
/-- The state's block alone is changed. -/
theorem Job.state {w' : World} {s' : St} (h : Job w sb s dl sv sl) (hm : Mach w' sb s') (f : Fr (· = sb) w w') (hd : s'.d = s.d) : Job w' sb s' dl sv sl :=
  ⟨hm, by rw [hd]; exact f.own h.d (fun q hq e => h.dne (by rw [← e]; exact hq)), f.own h.sh (fun q hq e => h.sne (by rw [← e]; exact hq)), by rw [hd]; exact h.ne, h.dw, h.sw, h.dn, h.sn⟩
end

/-- A function value that, called in the world W, ends well in a world as R says. -/
def Commit (fv : Value) (W : World) (R : World → Prop) : Prop :=
  ∃ (fid : FuncId) (caps : Array Value), fv = .func (.func fid) #[] caps ∧ (∀ w, (callFunc fid caps).run Tryd.prog w = .ok (.enter fid caps) w) ∧ Calls Tryd.prog fid caps W fun e w' => e = .returned (.tuple #[]) ∧ R w'
/-- What prepare returns. -/
def PrepPost (w : World) (xb sb : Nat) (I : Ins) (lk : Int) (s : St) (dl : List Int) (sv : Value) (sl : List Int) (Sp : Nat → Prop) (Rp : World → Prop) (e : Ending) (w' : World) : Prop :=
  (∃ fv er, er ≠ 0 ∧ e = .returned (.tuple #[fv, .int .i64 er]) ∧ Below w.heap.size w w') ∨
  (∃ fv nx tk ad vl s' dl' sl', e = .returned (.tuple #[fv, .int .i64 0]) ∧ w'.heap[xb]? = some (.cells (xCells I s.pc tk ad vl sb nx) 126 (0, 0)) ∧ Fr (fun k => k = xb ∨ Sp k) w w' ∧ (Fr (· = xb) w w' ∨ Rp w') ∧ StepOk I lk s dl sl nx s' dl' sl' ∧ (I.op = 27 → vl = reg s I.a) ∧
    Commit fv w' fun w2 => Job w2 sb s' dl' sv sl' ∧ Fr (Jb sb s.d sv) w' w2)
theorem PrepPost.same {w w' : World} {xb sb : Nat} {I : Ins} {lk : Int} {s : St} {dl : List Int} {sv : Value} {sl : List Int} {Sp : Nat → Prop} {Rp : World → Prop} {fv : Value} {nx ad vl : Int} {tk : Bool} {s' : St} {dl' sl' : List Int} {e : Ending}
    (he : e = .returned (.tuple #[fv, .int .i64 0])) (hx : w'.heap[xb]? = some (.cells (xCells I s.pc tk ad vl sb nx) 126 (0, 0))) (hf : Fr (· = xb) w w') (hs : StepOk I lk s dl sl nx s' dl' sl') (hv : I.op = 27 → vl = reg s I.a)
    (hc : Commit fv w' fun w2 => Job w2 sb s' dl' sv sl' ∧ Fr (Jb sb s.d sv) w' w2) : PrepPost w xb sb I lk s dl sv sl Sp Rp e w' := .inr ⟨fv, nx, tk, ad, vl, s', dl', sl', he, hx, hf.mono fun k _ e => .inl e, .inl hf, hs, hv, hc⟩
end Go.Proofs.YtebklpnkcicpjaaDoor

namespace Go.Proofs.YtebklpnkcicpjaaDoor
open Go.RowKit
set_option linter.unusedVariables false
set_option linter.unusedSimpArgs false

end Go.Proofs.YtebklpnkcicpjaaDoor

namespace Go.Proofs.YtebklpnkcicpjaaDoor
open Go.RowKit
set_option linter.unusedVariables false
set_option linter.unusedSimpArgs false
end Go.Proofs.YtebklpnkcicpjaaDoor


