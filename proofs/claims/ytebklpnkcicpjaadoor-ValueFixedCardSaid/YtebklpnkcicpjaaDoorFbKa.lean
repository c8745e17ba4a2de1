/-
 What is defined here: worlds that differ in some blocks only; the state of a job in memory; the effect of an instruction in plain mathematics.
-/
import Derived.Test.YtebklpnkcicpjaaDoorFbT
import Derived.Test.YtebklpnkcicpjaaDoorFbCd
namespace Go.Proofs.YtebklpnkcicpjaaDoor
open Go.RowKit
set_option linter.unusedVariables false
set_option linter.unusedSimpArgs false

theorem lt_of_blk' {w : World} {b : Nat} {o : Obj} (h : w.heap[b]? = some o) : b < w.heap.size := (Array.getElem?_eq_some_iff.1 h).1
structure Fr (S : Nat → Prop) (w w' : World) : Prop where
 os : w'.os = w.os
 tape : w'.tape = w.tape
 output : w'.output = w.output
 size : w.heap.size ≤ w'.heap.size
 block : ∀ k, k < w.heap.size → ¬ S k → w'.heap[k]? = w.heap[k]?
theorem Fr.refl (S : Nat → Prop) (w : World) : Fr S w w := ⟨rfl, rfl, rfl, Nat.le_refl _, fun _ _ _ => rfl⟩
theorem Fr.trans {S : Nat → Prop} {a b c : World} (h : Fr S a b) (k : Fr S b c) : Fr S a c :=
 ⟨k.os.trans h.os, k.tape.trans h.tape, k.output.trans h.output, Nat.le_trans h.size k.size, fun i h1 h2 => (k.block i (Nat.lt_of_lt_of_le h1 h.size) h2).trans (h.block i h1 h2)⟩
theorem Fr.of {S : Nat → Prop} {w w' : World} (h : Below w.heap.size w w') : Fr S w w' := ⟨h.os, h.tape, h.output, h.size, fun k h1 _ => h.block k h1⟩
theorem Fr.mono {S S' : Nat → Prop} {w w' : World} (h : Fr S w w') (i : ∀ k, k < w.heap.size → S k → S' k) : Fr S' w w' := ⟨h.os, h.tape, h.output, h.size, fun k h1 h2 => h.block k h1 (fun h3 => h2 (i k h1 h3))⟩
theorem Fr.below {S : Nat → Prop} {w w' : World} {B : Nat} (h : Fr S w w') (hB : B ≤ w.heap.size) (hS : ∀ k, S k → B ≤ k) : Below B w w' :=
 ⟨h.os, h.tape, h.output, h.size, fun k hk => h.block k (Nat.lt_of_lt_of_le hk hB) (fun h3 => by have := hS k h3; omega)⟩
theorem Fr.since {S S' : Nat → Prop} {w0 w w' : World} (h0 : Fr S w0 w) (h : Fr S' w w') (i : ∀ k, S' k → S k ∨ w0.heap.size ≤ k) : Fr S w0 w' :=
 ⟨h.os.trans h0.os, h.tape.trans h0.tape, h.output.trans h0.output, Nat.le_trans h0.size h.size, fun k h1 h2 => (h.block k (Nat.lt_of_lt_of_le h1 h0.size) (fun h3 => by rcases i k h3 with h4 | h4; exact h2 h4; omega)).trans (h0.block k h1 h2)⟩
theorem Fr.cell {S : Nat → Prop} {w w' : World} (h : Fr S w w') {b : Nat} (o : Nat) (hb : b < w.heap.size) (hn : ¬ S b) : w'.cell? ⟨b, o, none⟩ = w.cell? ⟨b, o, none⟩ := World.cell?_of_block (h.block b hb hn)
theorem Fr.set {S : Nat → Prop} {w w' : World} {b o : Nat} (h : Fr S w w') (v : Value) (hp : S b ∨ w.heap.size ≤ b) : Fr S w (w'.setCell ⟨b, o, none⟩ v) :=
 ⟨h.os, h.tape, h.output, by simpa using h.size, fun k h1 h2 => by
  rw [Below.heap_setCell _ _ _ _ (by show k ≠ b; rintro rfl; rcases hp with hp | hp; exact h2 hp; omega)]
  exact h.block k h1 h2⟩
theorem Fr.alloc {S : Nat → Prop} {w w' : World} (h : Fr S w w') (o : Obj) : Fr S w (w'.alloc o) :=
 h.trans (Fr.of ((Below.refl _ _).alloc (Nat.le_refl _) _))
theorem Fr.drew {S : Nat → Prop} {w w' : World} (h : Fr S w w') : Fr S w w'.drew := h.trans (Fr.of (Below.drew (Below.refl _ _)))
theorem Fr.own {S : Nat → Prop} {w w' : World} (h : Fr S w w') {B n size : Nat} {e : TypeId} {v : Value} {xs : List Value} (ho : w.ownsRow B e size v n xs) (hn : ∀ q, v.ownBlock = some q → ¬ S q) : w'.ownsRow B e size v n xs := by
 refine ⟨ho.1, ?_⟩
 rcases ho.2 with h0 | ⟨g, cap, cur, rfl, hb, hk, hr⟩
 ·exact .inl h0
 ·exact .inr ⟨g, cap, cur, rfl, hb, (h.block g (lt_of_blk' hk) (hn g rfl)).trans hk, hr⟩

structure St where
 pc : Int
 r : List Int
 d : Value
 hal : Bool
 held : Int
def St.cells (s : St) : Array Value := (Value.int .i64 s.pc :: (s.r.map (Value.int .i32) ++ [s.d, .bool s.hal, .int .i64 s.held])).toArray
structure Mach (w : World) (sb : Nat) (s : St) : Prop where
 blk : w.heap[sb]? = some (.cells s.cells 34 (0, 0))
 len : s.r.length = 16
 wd : ∀ x ∈ s.r, W32 x
section
variable {w : World} {sb : Nat} {s : St}
theorem Mach.lt (h : Mach w sb s) : sb < w.heap.size := lt_of_blk' h.blk
theorem Mach.keep {w' : World} (h : Mach w sb s) (e : w'.heap[sb]? = w.heap[sb]?) : Mach w' sb s := ⟨e.trans h.blk, h.len, h.wd⟩
theorem St.at_tail (hl : s.r.length = 16) (k : Nat) : s.cells[17 + k]? = [s.d, .bool s.hal, .int .i64 s.held][k]? := by
 unfold St.cells
 rw [List.getElem?_toArray, show 17 + k = (16 + k) + 1 by omega, List.getElem?_cons_succ, List.getElem?_append_right (by simp; omega)]
 simp [hl]
theorem Mach.pc (h : Mach w sb s) : w.cell? ⟨sb, 0, none⟩ = some (.int .i64 s.pc) := by simp [World.cell?, h.blk, St.cells]
theorem Mach.hal (h : Mach w sb s) : w.cell? ⟨sb, 18, none⟩ = some (.bool s.hal) := by have := St.at_tail h.len 1; simpa [World.cell?, h.blk] using this
theorem Mach.held (h : Mach w sb s) : w.cell? ⟨sb, 19, none⟩ = some (.int .i64 s.held) := by have := St.at_tail h.len 2; simpa [World.cell?, h.blk] using this
theorem Mach.fz (h : Mach w sb s) (o : Nat) : w.frozen? ⟨sb, o, none⟩ = false := by simp [World.frozen?, h.blk]
end
theorem Mach.drew {w : World} {sb : Nat} {s : St} (h : Mach w sb s) : Mach w.drew sb s := h.keep rfl
end Go.Proofs.YtebklpnkcicpjaaDoor


