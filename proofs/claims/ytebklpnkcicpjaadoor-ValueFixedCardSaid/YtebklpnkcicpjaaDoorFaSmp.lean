/-
 What is proved here: the chapter's example: its graph, and the final state of its analysis (plain).
-/
import Derived.Test.YtebklpnkcicpjaaDoorFaFix
import Derived.Test.YtebklpnkcicpjaaDoorFbCd
namespace Go.Proofs.YtebklpnkcicpjaaDoor
open Go.RowKit
set_option linter.unusedVariables false
set_option linter.unusedSimpArgs false

def smL : List Ins := [⟨14, 10, 0, 0, 0⟩, ⟨25, 10, 0, 0, 4⟩, ⟨15, 10, 10, 0, 1⟩, ⟨24, 0, 0, 0, -3⟩]
def smC : List Int := smL.map fun i => (encI i).1
def smD (i : Nat) : Int := smC.getD i 0
theorem smC_w : ∀ x ∈ smC, 0 ≤ x ∧ x < 4294967296 := by decide +kernel
theorem sm0 : decI (smD 0) = (⟨14, 10, 0, 0, 0⟩, 0) := by decide +kernel
theorem sm1 : decI (smD 1) = (⟨25, 10, 0, 0, 4⟩, 0) := by decide +kernel
theorem sm2 : decI (smD 2) = (⟨15, 10, 10, 0, 1⟩, 0) := by decide +kernel
theorem sm3 : decI (smD 3) = (⟨24, 0, 0, 0, -3⟩, 0) := by decide +kernel
theorem smi0 : insAt smD 0 = ⟨14, 10, 0, 0, 0⟩ := by show (decI (smD 0)).1 = _; rw [sm0]
theorem smi1 : insAt smD 1 = ⟨25, 10, 0, 0, 4⟩ := by show (decI (smD 1)).1 = _; rw [sm1]
theorem smi2 : insAt smD 2 = ⟨15, 10, 10, 0, 1⟩ := by show (decI (smD 2)).1 = _; rw [sm2]
theorem smi3 : insAt smD 3 = ⟨24, 0, 0, 0, -3⟩ := by show (decI (smD 3)).1 = _; rw [sm3]
theorem sm_good : GoodI 4 smD [⟨taName, 0, 4, 0⟩] 0 0 := by
 refine ⟨by omega, by simp, by omega, by omega, by simp, fun e he => ?_, ⟨rfl, by simp, rfl⟩, fun e he k h1 h2 => ?_⟩
 ·simp at he; subst he
  show 1 ≤ taName.size ∧ taName.size ≤ 12
  decide
 ·simp at he; subst he
  simp only at h1 h2
  obtain rfl | rfl | rfl | rfl : k = 0 ∨ k = 1 ∨ k = 2 ∨ k = 3 := by omega
  ·refine ⟨by show (decI (smD 0)).2 = 0; rw [sm0], fun h => ?_, fun h => ?_⟩
   ·have : isBr (insAt smD 0).op = true := h
    rw [smi0] at this; simp [isBr] at this
   ·have : (insAt smD 0).op = 28 ∨ (insAt smD 0).op = 29 := h
    rw [smi0] at this; simp at this
  ·refine ⟨by show (decI (smD 1)).2 = 0; rw [sm1], fun h => ?_, fun h => ?_⟩
   ·have : isBr (insAt smD 1).op = true := h
    rw [smi1] at this; simp [isBr] at this
   ·have : (insAt smD 1).op = 28 ∨ (insAt smD 1).op = 29 := h
    rw [smi1] at this; simp at this
  ·refine ⟨by show (decI (smD 2)).2 = 0; rw [sm2], fun h => ?_, fun h => ?_⟩
   ·have : isBr (insAt smD 2).op = true := h
    rw [smi2] at this; simp [isBr] at this
   ·have : (insAt smD 2).op = 28 ∨ (insAt smD 2).op = 29 := h
    rw [smi2] at this; simp at this
  ·refine ⟨by show (decI (smD 3)).2 = 0; rw [sm3], fun _ => ?_, fun h => ?_⟩
   ·show (0 : Int) ≤ 3 + 1 + (insAt smD 3).imm ∧ 3 + 1 + (insAt smD 3).imm < 4
    rw [smi3]; decide
   ·have : (insAt smD 3).op = 28 ∨ (insAt smD 3).op = 29 := h
    rw [smi3] at this; simp at this
theorem sm_s0 : succI (insAt smD 0) 0 = [1] := by rw [smi0]; decide
theorem sm_s1 : succI (insAt smD 1) 1 = [2] := by rw [smi1]; decide
theorem sm_s2 : succI (insAt smD 2) 2 = [3] := by rw [smi2]; decide
theorem sm_s3 : succI (insAt smD 3) 3 = [1] := by rw [smi3]; decide
theorem sm_rch (x : Int) : Rch (insAt smD) 0 4 x ↔ x ∈ [(0 : Int), 1, 2, 3] := by
 constructor
 ·intro h
  have := h.range _ _ _ (by omega)
  simp; omega
 ·intro h
  have r0 : Rch (insAt smD) 0 4 0 := Rch.start
  have r1 : Rch (insAt smD) 0 4 1 := Rch.step r0 (by rw [sm_s0]; simp) (by omega) (by omega)
  have r2 : Rch (insAt smD) 0 4 2 := Rch.step r1 (by rw [sm_s1]; simp) (by omega) (by omega)
  have r3 : Rch (insAt smD) 0 4 3 := Rch.step r2 (by rw [sm_s2]; simp) (by omega) (by omega)
  simp at h
  rcases h with rfl | rfl | rfl | rfl
  ·exact r0
  ·exact r1
  ·exact r2
  ·exact r3
theorem sm_bads (x : Int) (h : x ∈ [(0 : Int), 1, 2, 3]) : ¬ Bads (insAt smD) 0 4 x := by
 rintro ⟨t, ht, hn⟩
 simp at h
 rcases h with rfl | rfl | rfl | rfl
 ·rw [sm_s0] at ht; simp at ht; omega
 ·rw [sm_s1] at ht; simp at ht; omega
 ·rw [sm_s2] at ht; simp at ht; omega
 ·rw [sm_s3] at ht; simp at ht; omega
def smB : List (Int × Int) := [(0, 1), (1, 4)]
theorem sm_blk : blk (insAt smD) 0 [0, 1, 2, 3] 4 = smB := by decide +kernel
def smG : List Blk := [⟨0, 1, [1]⟩, ⟨1, 4, [1]⟩]
theorem sm_gb : gBlks (insAt smD) smB = smG := by decide +kernel
theorem sm_gp : gPrev (insAt smD) smB = [[], [0, 1]] := by decide +kernel
theorem sm_valid : ValidG smG [[], [0, 1]] := by
 refine ⟨by simp [smG], rfl, ⟨4, ⟨by simp, by simp, by simp, by simp [smG], by simp [smG]⟩, ⟨by simp, by simp, by simp, by simp [smG], by simp [smG]⟩, rfl⟩, by decide⟩
theorem sm_out {r : Res} (h : Out (insAt smD) 0 4 r) : r = ⟨smG, [[], [0, 1]], -1, 0⟩ := by
 cases h with
 | bad D bad hb hR =>
  rcases hR.b with h | h
  ·omega
  ·exact absurd h.2.1 (sm_bads _ ((sm_rch _).1 (hR.dr _ h.1)))
 | ok D hR =>
  have hm : ∀ x, x ∈ D ↔ x ∈ [(0 : Int), 1, 2, 3] := fun x => (hR.mem (by simp) x).trans (sm_rch x)
  rw [show ((4 : Int) - 0).toNat = 4 from rfl, blk_congr _ _ hm, sm_blk, sm_gb, sm_gp]
def smA : List AB := [⟨[⟨14, 10, 0, 0, 0⟩], [1]⟩, ⟨[⟨25, 10, 0, 0, 4⟩, ⟨15, 10, 10, 0, 1⟩, ⟨24, 0, 0, 0, -3⟩], [1]⟩]
def smR (h : Int) : RG := zeroR.set 10 (0, h)
theorem sm_p1 : passK smA (startS 2) 2 = (⟨[true, true], [zeroR, smR 1], [0, 1]⟩, true) := by kernel_rfl
theorem sm_p2 : passK smA ⟨[true, true], [zeroR, smR 1], [0, 1]⟩ 2 = (⟨[true, true], [zeroR, smR 2], [0, 2]⟩, true) := by kernel_rfl
theorem sm_p3 : passK smA ⟨[true, true], [zeroR, smR 2], [0, 2]⟩ 2 = (⟨[true, true], [zeroR, smR 2147483647], [0, 3]⟩, true) := by kernel_rfl
theorem sm_p4 : passK smA ⟨[true, true], [zeroR, smR 2147483647], [0, 3]⟩ 2 = (⟨[true, true], [zeroR, smR 2147483647], [0, 3]⟩, false) := by kernel_rfl
theorem sm_ends : Ends smA (startS 2) ⟨[true, true], [zeroR, smR 2147483647], [0, 3]⟩ := by
 have hl : smA.length = 2 := rfl
 have e4 : Ends smA ⟨[true, true], [zeroR, smR 2147483647], [0, 3]⟩ ⟨[true, true], [zeroR, smR 2147483647], [0, 3]⟩ := by
  have := Ends.done (B := smA) (s := ⟨[true, true], [zeroR, smR 2147483647], [0, 3]⟩) (by rw [hl, sm_p4])
  rwa [hl, sm_p4] at this
 have e3 : Ends smA ⟨[true, true], [zeroR, smR 2], [0, 2]⟩ ⟨[true, true], [zeroR, smR 2147483647], [0, 3]⟩ := Ends.more (by rw [hl, sm_p3]) (by rw [hl, sm_p3]; exact e4)
 have e2 : Ends smA ⟨[true, true], [zeroR, smR 1], [0, 1]⟩ ⟨[true, true], [zeroR, smR 2147483647], [0, 3]⟩ := Ends.more (by rw [hl, sm_p2]) (by rw [hl, sm_p2]; exact e3)
 exact Ends.more (by rw [hl, sm_p1]) (by rw [hl, sm_p1]; exact e2)
theorem sm_dead : deadK smA ⟨[true, true], [zeroR, smR 2147483647], [0, 3]⟩ 2 = [] := by kernel_rfl
theorem sm_before : runR [⟨25, 10, 0, 0, 4⟩] (smR 2147483647) = some (smR 3) := by kernel_rfl

end Go.Proofs.YtebklpnkcicpjaaDoor


