/-
  What is proved here: parts ardBMv.
-/
import Derived.Test.YtlmgkipmfgijiaaGreatDoorXa
import Derived.Test.YtlmgkipmfgijiaaGreatDoorXz
import Derived.Test.YtlmgkipmfgijiaaGreatDoorXm
import Derived.Test.YtlmgkipmfgijiaaGreatDoorXn
import Derived.Test.YtlmgkipmfgijiaaGreatDoorXd
import Derived.Test.YtlmgkipmfgijiaaGreatDoorCards
import Derived.Test.YtlmgkipmfgijiaaGreatDoorTie
namespace Go.Proofs.YtlmgkipmfgijiaaGreatDoor
set_option linter.unusedVariables false
set_option linter.unusedSimpArgs false
set_option maxRecDepth 100000
set_option maxHeartbeats 8000000
section
open Go.ChangeShapes Go.WideShapes Go.ChangeAt Go.RowKit
theorem u8_in {p : Int} (h : (Lit.int .u8 p).wf = true) : 0 ≤ p ∧ p < 256 := by
 simp [Lit.wf] at h
 have e1 : IntKind.u8.min = 0 := by decide
 have e2 : IntKind.u8.max = 255 := by decide
 omega
theorem aas (os : Os) (started : os.Started) (H : Type) (enc : TypeId × Value → H) :
  ReturnsInHanded {} Tryz.checked os 7 .any (fun w args => (Rows.boundsMovedSpec.pre enc Tryz.prog Tryz.f7 [] false w args ∧ laidMet Tryz.prog [("ontime/isa.formats", Rows.laid_ontime_isa_formats)] w) ∧ sizedMet enc Tryz.prog Tryz.f7 (OpenSpec.ofChange Rows.boundsMovedSpec) false w args)
   (Rows.boundsMovedSpec.post enc Tryz.prog Tryz.f7 false true false false) := by
 refine returnsInHanded_of_change_and (C := Tryz.checked) (X := fun w _ => laidMet Tryz.prog [("ontime/isa.formats", Rows.laid_ontime_isa_formats)] w) (fun _ _ _ hh h => h.of_heap hh) own started ahV Tryz.func7
  (ChangeSpec.witness_at (enc := enc) (C := Tryz.checked) (os := os) (X := fun w _ => laidMet Tryz.prog [("ontime/isa.formats", Rows.laid_ontime_isa_formats)] w) false (oZ os) #[.agg #[.slice none 0 0, .slice none 0 0, .int .i64 0, .int .i64 0], .int .u8 0] 8 rfl ahV ahV ahV ahV ahV (G2 os _)) ?_
 intro W base args ds gs before MX hW hcnd _ hL _
 have hval : ∀ (j : Nat) t v, Tryz.f7.params[j]? = some t → args[j]? = some v → Value.okWide Tryz.prog W .any base t v := MX
 have hW' := hW
 obtain ⟨p, q, Nk, hV, rfl, hfz, hnd⟩ := hW
 have hA : DataW.TrodAll enc Tryz.prog W 0 (fun _ => true) true Tryz.f7.params.toList args.toList ds p := Nk
 rw [Tryz.params7] at hA hval
 obtain ⟨v0, vs0, d0, ds0, p0, q0, hargs, rfl, rfl, h0, r0⟩ := trodAll_cons hA
 obtain ⟨v1, vs1, d1, ds1, p1, q1, rfl, rfl, rfl, h1, r1⟩ := trodAll_cons r0
 obtain ⟨rfl, rfl, rfl⟩ := trodAll_nil r1
 obtain rfl : args = #[v0, v1] := by cases args; simp_all
 obtain ⟨rfl, rfl⟩ := trodVars_none hV
 have k0 := h0
 have lt0 : ∀ x ∈ p0, x.block < W.heap.size := by obtain ⟨m, hm⟩ := k0; exact DataW.trod_lt m _ _ _ hm
 have k1 := h1
 have lt1 : ∀ x ∈ p1, x.block < W.heap.size := by obtain ⟨m, hm⟩ := k1; exact DataW.trod_lt m _ _ _ hm
 obtain ⟨cv, ev, sh, lk, n, cd, aC, rfl, hWd, hEn⟩ := Ab (hval 0 25 v0 rfl rfl) h0
 obtain ⟨y, rfl, _, _, w1⟩ := open_int Tryz.underlying5 (hval 1 5 v1 rfl rfl) h1
 clear Nk MX
 refine (aaS Jn cv ev sh lk n cd aC y (u8_in w1).1 (u8_in w1).2 W (xB hL) hWd hEn).mono fun e W' ⟨he, aD⟩ => ?_
 subst he
 exact ⟨_, rfl, _, _, _, [], _, [], hW', trodAll_mk1 (shut_bool Tryz.underlying4 _), (trodAll_cons_mk (Below.trod laidOut ahV (of_decide_eq_true ahV) k0 aD lt0) (trodAll_cons_mk (Below.trod laidOut ahV (of_decide_eq_true ahV) k1 aD lt1) trodAll_mk0)), rfl, aD.frame _, fun h => by cases h⟩
theorem aaD : Rows.BoundsMovedSaid :=
 OpenClaim.holds_of_wide 7 Tryz.f7 rfl rfl rfl rfl rfl rfl rfl ⟨rfl, rfl, rfl, rfl, rfl⟩ rfl rfl rfl rfl rfl ahV Tryz.func7 ahV
  (of_decide_eq_true ahV) (by unfold Func.isWrapper; first | (rw [if_pos (by decide +kernel)]; kernel_rfl) | (rw [if_neg (by decide +kernel)]; exact ⟨rfl, rfl⟩))
  (fun os started H enc _ => aas os started H enc)
theorem boundsMoved_holds : Rows.BoundsMovedCardSaid :=
 Claim7.holds_tied_plain_at .later [] [.data] true (true, "18e705f162bceaa43781ed7deca70d1d7faeceb5fa0da73440935e85b2bbb869") false
  aaD (fun _ h => by cases h) ahV (fun _ h => by cases h) boundsMoved_row_tie rfl ⟨rfl, rfl⟩ ahV rfl
  (fun f fn hf hfn => by
   obtain rfl : f = 7 := Option.some.inj ((show Tryz.prog.funcNamed "ontime/ontimelaw29.BoundsMoved" = some 7 by kernel_rfl).symm.trans hf) |>.symm
   obtain rfl : fn = Tryz.f7 := (Option.some.inj (Tryz.func7.symm.trans hfn)).symm
   exact ⟨by kernel_rfl, fun j t ht => by
    rw [Tryz.params7] at ht
    rcases j with _ | _ | j
    ·obtain rfl : 25 = t := by simpa using ht
     exact (show Tryz.prog.wantsStandIn 25 = false by kernel_rfl)
    ·obtain rfl : 5 = t := by simpa using ht
     exact (show Tryz.prog.wantsStandIn 5 = false by kernel_rfl)
    ·simp at ht⟩)
  ahV
end
end Go.Proofs.YtlmgkipmfgijiaaGreatDoor
