/-
  What is defined here: a job in memory; what an executed instruction does to it; what is asked of the port's function and of a function that commits.
-/
import Derived.Test.YtfceodpdipniaaaDoorCoSet
import Derived.Test.YtfceodpdipniaaaDoorCgCode
namespace Go.Proofs.YtfceodpdipniaaaDoor
open Go.RowKit
set_option linter.unusedVariables false
set_option linter.unusedSimpArgs false

def reg (s : St) (k : Int) : Int := s.r.getD k.toNat 0
/-- The operator (of word.Apply) of an opcode from add to lt. -/
def opr (op : Int) : Int := if op = 13 then 18 else op + 4
/-- What an instruction writes into its register A. -/
def Writes (I : Ins) (s : St) (dl sl : List Int) (v : Int) : Prop :=
  (I.op = 14 ∧ v = I.imm) ∨ (I.op = 15 ∧ v = wrap32 (reg s I.b + I.imm)) ∨ (I.op = 16 ∧ v = wrap32 (reg s I.b * 2 ^ I.imm.toNat)) ∨ (I.op = 17 ∧ v = bits .or .i32 (reg s I.b) I.imm) ∨
  (I.op = 18 ∧ 0 ≤ reg s I.b + I.imm ∧ reg s I.b + I.imm < dl.length ∧ v = dl.getD (reg s I.b + I.imm).toNat 0) ∨ (I.op = 20 ∧ 0 ≤ reg s I.b + I.imm ∧ reg s I.b + I.imm < sl.length ∧ v = sl.getD (reg s I.b + I.imm).toNat 0) ∨
  (I.op = 26 ∧ W32 v) ∨ (2 ≤ I.op ∧ I.op ≤ 13 ∧ we (opr I.op) (reg s I.c) = 0 ∧ v = wv (opr I.op) (reg s I.b) (reg s I.c))
def taken (I : Ins) (s : St) : Bool := decide (I.op = 24) || (decide (reg s I.a = 0) == decide (I.op = 22))
/-- An executed instruction: the next one, the state, the data, the shared memory. -/
inductive StepOk (I : Ins) (lk : Int) (s : St) (dl sl : List Int) : Int → St → List Int → List Int → Prop
  | plain (h : I.op = 0 ∨ I.op = 27 ∨ (I.op = 25 ∧ 0 ≤ reg s I.a ∧ reg s I.a < I.imm)) : StepOk I lk s dl sl (s.pc + 1) s dl sl
  | set (v : Int) (h : Writes I s dl sl v) : StepOk I lk s dl sl (s.pc + 1) { s with r := setR s.r I.a v } dl sl
  | st (h : I.op = 19) (h0 : 0 ≤ reg s I.b + I.imm) (h1 : reg s I.b + I.imm < dl.length) : StepOk I lk s dl sl (s.pc + 1) s (dl.set (reg s I.b + I.imm).toNat (reg s I.a)) sl
  | sts (h : I.op = 21) (h0 : 0 ≤ reg s I.b + I.imm) (h1 : reg s I.b + I.imm < sl.length) : StepOk I lk s dl sl (s.pc + 1) s dl (sl.set (reg s I.b + I.imm).toNat (reg s I.a))
  | br (h : isBr I.op = true) : StepOk I lk s dl sl (if taken I s = true then s.pc + 1 + I.imm else s.pc + 1) s dl sl
  | lock (h : I.op = 28) (h0 : s.held < 0) (h1 : I.imm < lk) : StepOk I lk s dl sl (s.pc + 1) { s with held := I.imm } dl sl
  | unlock (h : I.op = 29) (h0 : s.held = I.imm) : StepOk I lk s dl sl (s.pc + 1) { s with held := -1 } dl sl
  | halt (h : I.op = 1) (h0 : s.held < 0) : StepOk I lk s dl sl s.pc { s with hal := true } dl sl

/-- A job in memory: its state, its data, the shared memory. -/
structure Job (w : World) (sb : Nat) (s : St) (dl : List Int) (sv : Value) (sl : List Int) : Prop where
  m : Mach w sb s
  d : w.ownsRow 0 21 1 s.d dl.length (i32s dl)
  sh : w.ownsRow 0 21 1 sv sl.length (i32s sl)
  ne : ∀ q, s.d.ownBlock = some q → sv.ownBlock ≠ some q
  dw : ∀ x ∈ dl, W32 x
  sw : ∀ x ∈ sl, W32 x
  dn : dl.length ≤ 1000000
  sn : sl.length ≤ 1000000
/-- The blocks of a job. -/
def Jb (sb : Nat) (dv sv : Value) (k : Nat) : Prop := k = sb ∨ dv.ownBlock = some k ∨ sv.ownBlock = some k
theorem row_block {w : World} {v : Value} {n k B : Nat} {xs : List Value} (h : w.ownsRow B 21 1 v n xs) (e : v.ownBlock = some k) : ∃ cur, w.heap[k]? = some (.cells cur 21 (0, 0)) := by
  rcases h.2 with ⟨rfl, _⟩ | ⟨g, cap, cur, rfl, _, hk, _⟩
  · simp [Value.ownBlock] at e
  · simp only [Value.ownBlock, Option.some.injEq] at e
    subst e
    exact ⟨cur, hk⟩
section
variable {w : World} {sb : Nat} {s : St} {dl : List Int} {sv : Value} {sl : List Int}
theorem Job.dne (h : Job w sb s dl sv sl) : s.d.ownBlock ≠ some sb := fun e => by
  obtain ⟨cur, hc⟩ := row_block h.d e
  have := hc.symm.trans h.m.blk
  simp at this
theorem Job.sne (h : Job w sb s dl sv sl) : sv.ownBlock ≠ some sb := fun e => by
  obtain ⟨cur, hc⟩ := row_block h.sh e
  have := hc.symm.trans h.m.blk
  simp at this
theorem Job.lt (h : Job w sb s dl sv sl) {k : Nat} (hk : Jb sb s.d sv k) : k < w.heap.size := by
  rcases hk with rfl | e | e
  · exact h.m.lt
  · obtain ⟨cur, hc⟩ := row_block h.d e; exact lt_of_blk' hc
  · obtain ⟨cur, hc⟩ := row_block h.sh e; exact lt_of_blk' hc
theorem Job.keep {S : Nat → Prop} {w' : World} (h : Job w sb s dl sv sl) (f : Fr S w w') (hn : ∀ k, Jb sb s.d sv k → ¬ S k) : Job w' sb s dl sv sl :=
  ⟨h.m.keep (f.block sb h.m.lt (hn sb (.inl rfl))), f.own h.d (fun q hq => hn q (.inr (.inl hq))), f.own h.sh (fun q hq => hn q (.inr (.inr hq))), h.ne, h.dw, h.sw, h.dn, h.sn⟩
theorem Job.later {w' : World} (h : Job w sb s dl sv sl) (b : Below w.heap.size w w') : Job w' sb s dl sv sl := h.keep (S := fun _ => False) (Fr.of b) (fun _ _ h => h)
/-- The state's block alone is changed. -/
theorem Job.state {w' : World} {s' : St} (h : Job w sb s dl sv sl) (hm : Mach w' sb s') (f : Fr (· = sb) w w') (hd : s'.d = s.d) : Job w' sb s' dl sv sl :=
  ⟨hm, by rw [hd]; exact f.own h.d (fun q hq e => h.dne (by rw [← e]; exact hq)), f.own h.sh (fun q hq e => h.sne (by rw [← e]; exact hq)), by rw [hd]; exact h.ne, h.dw, h.sw, h.dn, h.sn⟩
end

/-- A function value that, called in the world W, ends well in a world as R says. -/
def Commit (fv : Value) (W : World) (R : World → Prop) : Prop :=
  ∃ (fid : FuncId) (caps : Array Value), fv = .func (.func fid) #[] caps ∧ (∀ w, (callFunc fid caps).run Tryd.prog w = .ok (.enter fid caps) w) ∧ Calls Tryd.prog fid caps W fun e w' => e = .returned (.tuple #[]) ∧ R w'
/-- What is asked of the function of the ports: whenever it is called in a world that is later than w, it returns a word, changes blocks of Sp alone, and leaves a world of Rp. -/
structure Port (w : World) (pv : Value) (Sp : Nat → Prop) (Rp : World → Prop) : Prop where
  old : ∀ k, Sp k → k < w.heap.size
  st : ∀ (S : Nat → Prop) (W W' : World), Rp W → Fr S W W' → (∀ k, Sp k → ¬ S k) → Rp W'
  fn : pv = .nilFunc ∨ ∃ (fid : FuncId) (caps : Array Value), pv = .func (.func fid) #[] caps ∧ (∀ (x : Int) w, (callFunc fid (#[.int .i64 x] ++ caps)).run Tryd.prog w = .ok (.enter fid (#[.int .i64 x] ++ caps)) w) ∧
    (∀ w, (binOp .neq 80 (.func (.func fid) #[] caps) .nilFunc).run Tryd.prog w = .ok (.bool true) w) ∧
    ∀ (x : Int) (W : World), Below w.heap.size w W → Calls Tryd.prog fid (#[.int .i64 x] ++ caps) W fun e w' => ∃ v, W32 v ∧ e = .returned (.int .i32 v) ∧ Fr Sp W w' ∧ Rp w'
/-- What prepare returns. -/
def PrepPost (w : World) (xb sb : Nat) (I : Ins) (lk : Int) (s : St) (dl : List Int) (sv : Value) (sl : List Int) (Sp : Nat → Prop) (Rp : World → Prop) (e : Ending) (w' : World) : Prop :=
  (∃ fv er, er ≠ 0 ∧ e = .returned (.tuple #[fv, .int .i64 er]) ∧ Below w.heap.size w w') ∨
  (∃ fv nx tk ad vl s' dl' sl', e = .returned (.tuple #[fv, .int .i64 0]) ∧ w'.heap[xb]? = some (.cells (xCells I s.pc tk ad vl sb nx) 119 (0, 0)) ∧ Fr (fun k => k = xb ∨ Sp k) w w' ∧ (Fr (· = xb) w w' ∨ Rp w') ∧ StepOk I lk s dl sl nx s' dl' sl' ∧ (I.op = 27 → vl = reg s I.a) ∧
    Commit fv w' fun w2 => Job w2 sb s' dl' sv sl' ∧ Fr (Jb sb s.d sv) w' w2)
theorem PrepPost.same {w w' : World} {xb sb : Nat} {I : Ins} {lk : Int} {s : St} {dl : List Int} {sv : Value} {sl : List Int} {Sp : Nat → Prop} {Rp : World → Prop} {fv : Value} {nx ad vl : Int} {tk : Bool} {s' : St} {dl' sl' : List Int} {e : Ending}
    (he : e = .returned (.tuple #[fv, .int .i64 0])) (hx : w'.heap[xb]? = some (.cells (xCells I s.pc tk ad vl sb nx) 119 (0, 0))) (hf : Fr (· = xb) w w') (hs : StepOk I lk s dl sl nx s' dl' sl') (hv : I.op = 27 → vl = reg s I.a)
    (hc : Commit fv w' fun w2 => Job w2 sb s' dl' sv sl' ∧ Fr (Jb sb s.d sv) w' w2) : PrepPost w xb sb I lk s dl sv sl Sp Rp e w' := .inr ⟨fv, nx, tk, ad, vl, s', dl', sl', he, hx, hf.mono fun k _ e => .inl e, .inl hf, hs, hv, hc⟩
/-- The function that 'set' returns. -/
theorem commit_set {w : World} {xb sb c0 c1 : Nat} {I : Ins} {pc ad vl nx : Int} {tk : Bool} {s : St} {dl : List Int} {sv : Value} {sl : List Int} {v : Int} (hJ : Job w sb s dl sv sl) (h0 : 0 ≤ I.a) (h16 : I.a < 16) (hv : W32 v)
    (hx : w.heap[xb]? = some (.cells (xCells I pc tk ad vl sb nx) 119 (0, 0))) (k0 : w.cell? ⟨c0, 0, none⟩ = some (.pointer (some ⟨xb, 0, none⟩))) (k1 : w.cell? ⟨c1, 0, none⟩ = some (.int .i32 v)) :
    Commit (.func (.func 71) #[] #[.pointer (some ⟨c0, 0, none⟩), .pointer (some ⟨c1, 0, none⟩)]) w fun w2 => Job w2 sb { s with r := setR s.r I.a v } dl sv sl ∧ Fr (Jb sb s.d sv) w w2 :=
  ⟨_, _, rfl, fun w => by kernel_rfl, (setC_any xb sb c0 c1 I pc ad vl nx tk I.a.toNat (by omega) (by omega) v hv s w hx k0 k1 hJ.m).mono fun e w' ⟨h1, h2, h3⟩ => ⟨h1, hJ.state h2 h3 rfl, h3.mono fun k _ e => .inl e⟩⟩
theorem commit_nothing {w : World} {sb : Nat} {s : St} {dl : List Int} {sv : Value} {sl : List Int} (hJ : Job w sb s dl sv sl) :
    Commit (.func (.func 63) #[] #[]) w fun w2 => Job w2 sb s dl sv sl ∧ Fr (Jb sb s.d sv) w w2 :=
  ⟨_, _, rfl, fun w => by kernel_rfl, (nothing_any w).mono fun e w' ⟨h1, h2⟩ => ⟨h1, by subst h2; exact hJ, by subst h2; exact Fr.refl _ _⟩⟩
theorem reg_nat (s : St) (k : Nat) : reg s (k : Int) = s.r.getD k 0 := by simp [reg]

end Go.Proofs.YtfceodpdipniaaaDoor
