/-
  What is proved here: parts ardVEf.
-/
import Derived.Test.YtebklpnkcicpjaaGreatDoorYa
import Derived.Test.YtebklpnkcicpjaaGreatDoorYo
import Derived.Test.YtebklpnkcicpjaaGreatDoorYt
import Derived.Test.YtebklpnkcicpjaaGreatDoorYl
import Derived.Test.YtebklpnkcicpjaaGreatDoorYm
import Derived.Test.YtebklpnkcicpjaaGreatDoorYe
import Derived.Test.YtebklpnkcicpjaaGreatDoorCards
import Derived.Test.YtebklpnkcicpjaaGreatDoorTie
namespace Go.Proofs.YtebklpnkcicpjaaGreatDoor
set_option linter.unusedVariables false
set_option linter.unusedSimpArgs false
set_option maxRecDepth 100000
set_option maxHeartbeats 8000000
section
open Go.ChangeShapes Go.WideShapes Go.ChangeAt Go.RowKit
theorem jW (os : Os) (started : os.Started) (H : Type) (enc : TypeId × Value → H) :
  ReturnsInHanded {} Tryz.checked os 4 .any (fun w args => (Rows.valueEffectsSpec.pre enc Tryz.prog Tryz.f4 [] false w args ∧ laidMet Tryz.prog [("ontime/isa.formats", Rows.laid_ontime_isa_formats)] w) ∧ sizedMet enc Tryz.prog Tryz.f4 (OpenSpec.ofChange Rows.valueEffectsSpec) false w args)
   (Rows.valueEffectsSpec.post enc Tryz.prog Tryz.f4 false true false false) := by
 refine returnsInHanded_of_change_and (C := Tryz.checked) (X := fun w _ => laidMet Tryz.prog [("ontime/isa.formats", Rows.laid_ontime_isa_formats)] w) (fun _ _ _ hh h => h.of_heap hh) own started TY Tryz.func4
  (ChangeSpec.witness_at (enc := enc) (C := Tryz.checked) (os := os) (X := fun w _ => laidMet Tryz.prog [("ontime/isa.formats", Rows.laid_ontime_isa_formats)] w) false (mR os) #[.agg #[.int .u8 0, .int .i64 0, .int .i64 0, .int .i64 0, .int .i64 0], .agg Va.toArray, .bool false] 8 rfl TY TY TY TY TY (CH os _)) ?_
 intro W base args ds gs before Gg hW hcnd _ hL _
 have hval : ∀ (j : Nat) t v, Tryz.f4.params[j]? = some t → args[j]? = some v → Value.okWide Tryz.prog W .any base t v := Gg
 have RU := hW
 obtain ⟨p, q, Kq, hV, rfl, hfz, LY⟩ := hW
 have hA : DataW.TrodAll enc Tryz.prog W 0 (fun _ => true) true Tryz.f4.params.toList args.toList ds p := Kq
 rw [Tryz.params4] at hA hval
 obtain ⟨v0, vs0, d0, ds0, p0, q0, hargs, rfl, rfl, h0, r0⟩ := trodAll_cons hA
 obtain ⟨v1, vs1, d1, ds1, p1, q1, rfl, rfl, rfl, h1, r1⟩ := trodAll_cons r0
 obtain ⟨v2, vs2, d2, ds2, p2, q2, rfl, rfl, rfl, h2, r2⟩ := trodAll_cons r1
 obtain ⟨rfl, rfl, rfl⟩ := trodAll_nil r2
 obtain rfl : args = #[v0, v1, v2] := by cases args; simp_all
 obtain ⟨rfl, rfl⟩ := trodVars_none hV
 have k0 := h0
 have lt0 : ∀ x ∈ p0, x.block < W.heap.size := by obtain ⟨m, hm⟩ := k0; exact DataW.trod_lt m _ _ _ hm
 have k1 := h1
 have lt1 : ∀ x ∈ p1, x.block < W.heap.size := by obtain ⟨m, hm⟩ := k1; exact DataW.trod_lt m _ _ _ hm
 have k2 := h2
 have lt2 : ∀ x ∈ p2, x.block < W.heap.size := by obtain ⟨m, hm⟩ := k2; exact DataW.trod_lt m _ _ _ hm
 obtain ⟨op, ia, ib, ic, im, rfl, qx, sK⟩ := Cq (hval 0 64 v0 rfl rfl) h0
 obtain ⟨r, rfl, hr⟩ := zL (hval 1 56 v1 rfl rfl) h1
 obtain ⟨tk, rfl, _⟩ := open_bool Tryz.underlying4 (hval 2 4 v2 rfl rfl) h2
 clear Kq Gg
 refine (BB (fun W T => vO Dy W T) qp tW op ia ib ic im qx r tk hr W (tL hL)).mono fun e W' ⟨he, aB⟩ => ?_
 subst he
 exact ⟨_, rfl, _, _, _, [], _, [], RU, trodAll_mk1 (shut_bool Tryz.underlying4 _), (trodAll_cons_mk (Below.trod laidOut TY (of_decide_eq_true TY) k0 aB lt0) (trodAll_cons_mk (Below.trod laidOut TY (of_decide_eq_true TY) k1 aB lt1) (trodAll_cons_mk (Below.trod laidOut TY (of_decide_eq_true TY) k2 aB lt2) trodAll_mk0))), rfl, aB.frame _, fun h => by cases h⟩
theorem mK : Rows.ValueEffectsSaid :=
 OpenClaim.holds_of_wide 4 Tryz.f4 rfl rfl rfl rfl rfl rfl rfl ⟨rfl, rfl, rfl, rfl, rfl⟩ rfl rfl rfl rfl rfl (by kernel_rfl) Tryz.func4 (by kernel_rfl)
  (of_decide_eq_true (by kernel_rfl)) (by unfold Func.isWrapper; first | (rw [if_pos (by decide +kernel)]; kernel_rfl) | (rw [if_neg (by decide +kernel)]; exact ⟨rfl, rfl⟩))
  (fun os started H enc _ => jW os started H enc)
theorem valueEffects_holds : Rows.ValueEffectsCardSaid :=
 Claim7.holds_tied_plain_at .later [] [.data] true (true, "7ef10711567898784d4d3f63b989398b9db1133c1be6c4067fee0c9594f9a8fa") false
  mK (fun _ h => by cases h) (by kernel_rfl) (fun _ h => by cases h) valueEffects_row_tie rfl ⟨rfl, rfl⟩ (by kernel_rfl) rfl
  (fun f fn hf hfn => by
   obtain rfl : f = 4 := Option.some.inj ((show Tryz.prog.funcNamed "ontime/ontimelaw28.ValueEffects" = some 4 by kernel_rfl).symm.trans hf) |>.symm
   obtain rfl : fn = Tryz.f4 := (Option.some.inj (Tryz.func4.symm.trans hfn)).symm
   exact ⟨by kernel_rfl, fun j t ht => by
    rw [Tryz.params4] at ht
    rcases j with _ | _ | _ | j
    ·obtain rfl : 64 = t := by simpa using ht
     exact (show Tryz.prog.wantsStandIn 64 = false by kernel_rfl)
    ·obtain rfl : 56 = t := by simpa using ht
     exact (show Tryz.prog.wantsStandIn 56 = false by kernel_rfl)
    ·obtain rfl : 4 = t := by simpa using ht
     exact (show Tryz.prog.wantsStandIn 4 = false by kernel_rfl)
    ·simp at ht⟩)
  (by kernel_rfl)
end
end Go.Proofs.YtebklpnkcicpjaaGreatDoor
