/-
  What is proved here: parts lHp.
-/
import Derived.Test.YtlmgkipmfgijiaaGreatDoorXa
import Derived.Test.YtlmgkipmfgijiaaGreatDoorXs
import Derived.Test.YtlmgkipmfgijiaaGreatDoorXb
import Derived.BigRegion
import Derived.BigQuiet
import Derived.Deep.RegionHeld3
namespace Go.Proofs.YtlmgkipmfgijiaaGreatDoor
set_option linter.unusedVariables false
set_option linter.unusedSimpArgs false
set_option maxRecDepth 100000
set_option maxHeartbeats 8000000
section
open Go.RowKit
theorem aaA (b off j : Nat) : (⟨b, off, none⟩ : Addr).add j = ⟨b, off + j, none⟩ := by cases j <;> simp [Addr.add]
theorem aay (l : List Int) : ∀ u ∈ MH l, u.oneCell' = true := by
 intro u hu
 unfold MH at hu
 obtain ⟨x, _, rfl⟩ := List.mem_map.1 hu
 rfl
theorem aax {w : World} {B n size : Nat} {e : TypeId} {v : Value} {xs : List Value} (h : w.ownsRow B e size v n xs) (hx : 0 < n) : ∃ g cap, v = .slice (some ⟨g, 0, none⟩) n cap ∧ B ≤ g := by
 rcases h.2 with ⟨rfl, h0⟩ | ⟨g, cap, cur, rfl, hb, _⟩
 ·omega
 ·exact ⟨g, cap, rfl, hb⟩
theorem aaw (ws : List Int) (k : Nat) (x : Int) : (MH ws).set k (.int .u32 x) = MH (ws.set k x) := by
 unfold MH
 rw [List.map_set]
structure KpR (w U w' : World) (gb : Nat) : Prop where
 aD : Below w.heap.size w w'
 sz : U.heap.size ≤ w'.heap.size
 hp : ∀ b, b < U.heap.size → b ≠ gb → w'.heap[b]? = U.heap[b]?
section
variable {w U w' : World} {gb : Nat}
theorem KpR.cell (h : KpR w U w' gb) {b o : Nat} (h1 : b < U.heap.size) (h2 : b ≠ gb) : w'.cell? ⟨b, o, none⟩ = U.cell? ⟨b, o, none⟩ := World.cell?_of_block (h.hp b h1 h2)
theorem KpR.below {w'' : World} (h : KpR w U w' gb) (hb : Below w'.heap.size w' w'') : KpR w U w'' gb :=
 ⟨h.aD.trans (hb.mono h.aD.size), Nat.le_trans h.sz hb.size, fun b h1 h2 => (hb.block b (by have := h.sz; omega)).trans (h.hp b h1 h2)⟩
theorem KpR.drew (h : KpR w U w' gb) : KpR w U w'.drew gb := ⟨h.aD.drew, h.sz, h.hp⟩
theorem KpR.start (h : Below w.heap.size w U) : KpR w U U gb := ⟨h, Nat.le_refl _, fun _ _ _ => rfl⟩
theorem KpR.trans {V : World} (h : KpR w U w' gb) (h2 : KpR w w' V gb) : KpR w U V gb := ⟨h2.aD, Nat.le_trans h.sz h2.sz, fun b h3 h4 => (h2.hp b (by have := h.sz; omega) h4).trans (h.hp b h3 h4)⟩
theorem KpR.set (h : KpR w U w' gb) (hg : w.heap.size ≤ gb) (j : Nat) (v : Value) : KpR w U (w'.setCell ⟨gb, j, none⟩ v) gb :=
 ⟨h.aD.setCell (p := ⟨gb, j, none⟩) hg v, by rw [World.size_setCell]; exact h.sz, fun b h1 h2 => (Below.heap_setCell _ _ _ _ (by show b ≠ gb; exact h2)).trans (h.hp b h1 h2)⟩
theorem KpR.box (h : KpR w U w' gb) {q : Nat} (hq : U.heap.size ≤ q) (hw : w.heap.size ≤ q) (j : Nat) (v : Value) : KpR w U (w'.setCell ⟨q, j, none⟩ v) gb :=
 ⟨h.aD.setCell (p := ⟨q, j, none⟩) hw v, by rw [World.size_setCell]; exact h.sz, fun b h1 h2 => (Below.heap_setCell _ _ _ _ (by show b ≠ q; omega)).trans (h.hp b h1 h2)⟩
end
end
end Go.Proofs.YtlmgkipmfgijiaaGreatDoor
