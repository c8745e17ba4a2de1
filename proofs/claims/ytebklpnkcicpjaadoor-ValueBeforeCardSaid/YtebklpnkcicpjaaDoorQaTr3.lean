/-
  What is proved here: what Transfer returns, for every instruction and all registers.
-/
import Derived.Test.YtebklpnkcicpjaaDoorQaTr2
import Derived.Test.YtebklpnkcicpjaaDoorQbCb
namespace Go.Proofs.YtebklpnkcicpjaaDoor
open Go.RowKit
set_option linter.unusedVariables false
set_option linter.unusedSimpArgs false

theorem shp_hi2 : ∀ k, k < 30 → (shpOf k).aHi ≤ 15 ∧ (shpOf k).bHi ≤ 15 ∧ (shpOf k).cHi ≤ 15 ∧ -131072 ≤ immLo k ∧ immHi k ≤ 131071 := by decide
theorem transfer_any (op a b c im : Int) (h0 : 0 ≤ op) (r : RG) (hr : R16 r) (w : World) (T : Tab w) :
    Calls Tryd.prog 20 #[.agg #[.int .u8 op, .int .i64 a, .int .i64 b, .int .i64 c, .int .i64 im], .agg (cellsR r).toArray] w fun e w' => e = .returned (outR (transR ⟨op, a, b, c, im⟩ r)) ∧ Below w.heap.size w w' := by
  by_cases hvp : validI ⟨op, a, b, c, im⟩ = true ∧ properR r = true
  case neg =>
    refine (transfer_no op a b c im h0 r hr w T (by
      cases h1 : validI ⟨op, a, b, c, im⟩ <;> cases h2 : properR r <;> simp_all)).mono fun e w' ⟨q, hb⟩ => ⟨q.trans ?_, hb⟩
    unfold transR
    rw [if_neg hvp]
  obtain ⟨hv, hp⟩ := hvp
  obtain ⟨k, g1, g2, ⟨a1, a2⟩, ⟨b1, b2⟩, ⟨c1, c2⟩, i1, i2⟩ := (validI_iff (i := ⟨op, a, b, c, im⟩) h0).1 hv
  obtain ⟨s1, s2, s3, s4, s5⟩ := shp_hi2 k g2
  simp only at g1 a1 a2 b1 b2 c1 c2 i1 i2
  obtain ⟨an, rfl⟩ : ∃ n : Nat, a = (n : Int) := ⟨a.toNat, by omega⟩
  obtain ⟨bn, rfl⟩ : ∃ n : Nat, b = (n : Int) := ⟨b.toNat, by omega⟩
  obtain ⟨cn, rfl⟩ : ∃ n : Nat, c = (n : Int) := ⟨c.toNat, by omega⟩
  have ha : an < 16 := by omega
  have hb : bn < 16 := by omega
  have hc : cn < 16 := by omega
  have him : -131072 ≤ im ∧ im ≤ 131071 := by omega
  have hT : ∀ o : Option RG, transR ⟨op, an, bn, cn, im⟩ r = o → (∀ e w', (e = Ending.returned (outR o) ∧ Below w.heap.size w w') → (e = .returned (outR (transR ⟨op, an, bn, cn, im⟩ r)) ∧ Below w.heap.size w w')) := fun o h e w' ⟨q, hb⟩ => ⟨by rw [h]; exact q, hb⟩
  by_cases o1 : 2 ≤ op ∧ op ≤ 13
  · by_cases hz : (op = 5 ∨ op = 6) ∧ rg r (cn : Int) = (0, 0)
    · refine (transfer_zero op an bn cn im ha hb hc him hz.1 r hr w T hv hp hz.2).mono (hT _ ?_)
      unfold transR
      rw [if_pos ⟨hv, hp⟩, if_pos o1, if_pos hz]
    · refine (transfer_alu op an bn cn im ha hb hc him o1 r hr w T hv hp hz).mono (hT _ ?_)
      unfold transR
      rw [if_pos ⟨hv, hp⟩, if_pos o1, if_neg hz]
  have hO : op = 14 ∨ op = 15 ∨ op = 16 ∨ op = 17 ∨ (op = 18 ∨ op = 20 ∨ op = 26) ∨ op = 25 ∨ (op = 0 ∨ op = 1 ∨ op = 19 ∨ op = 21 ∨ op = 22 ∨ op = 23 ∨ op = 24 ∨ op = 27 ∨ op = 28 ∨ op = 29) := by omega
  have hU : transR ⟨op, an, bn, cn, im⟩ r = (if op = 14 then some (setRg r an (im, im)) else if op = 15 then some (setRg r an (applyI 6 (rg r bn) (im, im))) else if op = 16 then some (setRg r an (applyI 14 (rg r bn) (im, im)))
      else if op = 17 then some (setRg r an (applyI 12 (rg r bn) (im, im))) else if op = 18 ∨ op = 20 ∨ op = 26 then some (setRg r an fullI) else if op = 25 then bndR r an im else some r) := by
    unfold transR bndR
    rw [if_pos ⟨hv, hp⟩, if_neg o1]
  rcases hO with h | h | h | h | h | h | h
  · exact (transfer_li op an bn cn im ha hb hc him h r hr w T hv hp).mono (hT _ (by rw [hU, if_pos h]))
  · exact (transfer_addi op an bn cn im ha hb hc him h r hr w T hv hp).mono (hT _ (by rw [hU, if_neg (by omega), if_pos h]))
  · exact (transfer_shli op an bn cn im ha hb hc him h r hr w T hv hp).mono (hT _ (by rw [hU, if_neg (by omega), if_neg (by omega), if_pos h]))
  · exact (transfer_ori op an bn cn im ha hb hc him h r hr w T hv hp).mono (hT _ (by rw [hU, if_neg (by omega), if_neg (by omega), if_neg (by omega), if_pos h]))
  · exact (transfer_full op an bn cn im ha hb hc him h r hr w T hv hp).mono (hT _ (by rw [hU, if_neg (by omega), if_neg (by omega), if_neg (by omega), if_neg (by omega), if_pos h]))
  · exact (transfer_bound op an bn cn im ha hb hc him h r hr w T hv hp).mono (hT _ (by rw [hU, if_neg (by omega), if_neg (by omega), if_neg (by omega), if_neg (by omega), if_neg (by omega), if_pos h]))
  · exact (transfer_rest op an bn cn im ha hb hc him h r hr w T hv hp).mono (hT _ (by rw [hU, if_neg (by omega), if_neg (by omega), if_neg (by omega), if_neg (by omega), if_neg (by omega), if_neg (by omega)]))

end Go.Proofs.YtebklpnkcicpjaaDoor


