/-
 What is proved here: what Transfer returns, for every instruction and all registers.
-/
import Derived.Test.YtebklpnkcicpjaaDoorFaTr2
import Derived.Test.YtebklpnkcicpjaaDoorFbCb
namespace Go.Proofs.YtebklpnkcicpjaaDoor
open Go.RowKit
set_option linter.unusedVariables false
set_option linter.unusedSimpArgs false

theorem shp_hi2 : ∀ k, k < 30 → (shpOf k).aHi ≤ 15 ∧ (shpOf k).bHi ≤ 15 ∧ (shpOf k).cHi ≤ 15 ∧ -131072 ≤ immLo k ∧ immHi k ≤ 131071 := by decide
theorem transfer_any (op a b c im : Int) (h0 : 0 ≤ op) (r : RG) (hr : R16 r) (w : World) (T : Tab w) :
  Calls Tryd.prog 20 #[.agg #[.int .u8 op, .int .i64 a, .int .i64 b, .int .i64 c, .int .i64 im], .agg (cellsR r).toArray] w fun e w' => e = .returned (outR (transR ⟨op, a, b, c, im⟩ r)) ∧ Below w.heap.size w w' := by
 by_cases hvp : validI ⟨op, a, b, c, im⟩ = true ∧ properR r = true
 case neg =>
  refine (transfer_no op a b c im h0 r hr w T (by
   cases h1 : validI ⟨op, a, b, c, im⟩ <;> cases h2 : properR r <;> simp_all)).mono fun e w' ⟨q, hb⟩ => ⟨q.trans ?_, hb⟩
  unfold transR
  rw [if_neg hvp]
 obtain ⟨hv, hp⟩ := hvp
 obtain ⟨k, g1, g2, ⟨a1, a2⟩, ⟨b1, b2⟩, ⟨c1, c2⟩, i1, i2⟩ := (validI_iff (i := ⟨op, a, b, c, im⟩) h0).1 hv
 obtain ⟨s1, s2, s3, s4, s5⟩ := shp_hi2 k g2
 simp only at g1 a1 a2 b1 b2 c1 c2 i1 i2
 obtain ⟨an, rfl⟩ : ∃ n : Nat, a = (n : Int) := ⟨a.toNat, by omega⟩
 obtain ⟨bn, rfl⟩ : ∃ n : Nat, b = (n : Int) := ⟨b.toNat, by omega⟩
 obtain ⟨cn, rfl⟩ : ∃ n : Nat, c = (n : Int) := ⟨c.toNat, by omega⟩
 exact transfer_yes op an bn cn im (by omega) (by omega) (by omega) (by omega) h0 (by omega) r hr w T hv hp

end Go.Proofs.YtebklpnkcicpjaaDoor


