/-
  What is proved here: parts ardBFm.
-/
import Derived.Test.YtlmgkipmfgijiaaGreatDoorYa
import Derived.Test.YtlmgkipmfgijiaaGreatDoorYt
import Derived.Test.YtlmgkipmfgijiaaGreatDoorYm
import Derived.Test.YtlmgkipmfgijiaaGreatDoorYn
import Derived.Test.YtlmgkipmfgijiaaGreatDoorYd
import Derived.Test.YtlmgkipmfgijiaaGreatDoorCards
import Derived.Test.YtlmgkipmfgijiaaGreatDoorTie
namespace Go.Proofs.YtlmgkipmfgijiaaGreatDoor
set_option linter.unusedVariables false
set_option linter.unusedSimpArgs false
set_option maxRecDepth 100000
set_option maxHeartbeats 8000000
section
open Go.ChangeShapes Go.WideShapes Go.ChangeAt Go.RowKit
theorem oa (os : Os) (started : os.Started) (H : Type) (enc : TypeId × Value → H) :
  ReturnsInHanded {} Tryz.checked os 8 .any (fun w args => (Rows.boundsFormSpec.pre enc Tryz.prog Tryz.f8 [] false w args ∧ laidMet Tryz.prog [("ontime/isa.formats", Rows.laid_ontime_isa_formats)] w) ∧ sizedMet enc Tryz.prog Tryz.f8 (OpenSpec.ofChange Rows.boundsFormSpec) false w args)
   (Rows.boundsFormSpec.post enc Tryz.prog Tryz.f8 false true false false) := by
 refine returnsInHanded_of_change_and (C := Tryz.checked) (X := fun w _ => laidMet Tryz.prog [("ontime/isa.formats", Rows.laid_ontime_isa_formats)] w) (fun _ _ _ hh h => h.of_heap hh) own started agP Tryz.func8
  (ChangeSpec.witness_at (enc := enc) (C := Tryz.checked) (os := os) (X := fun w _ => laidMet Tryz.prog [("ontime/isa.formats", Rows.laid_ontime_isa_formats)] w) false (oM os) #[.agg #[.slice none 0 0, .slice none 0 0, .int .i64 0, .int .i64 0], .int .i64 0] 8 rfl agP agP agP agP agP (F7 os _)) ?_
 intro W base args ds gs before LY hW hcnd _ hL _
 have hval : ∀ (j : Nat) t v, Tryz.f8.params[j]? = some t → args[j]? = some v → Value.okWide Tryz.prog W .any base t v := LY
 have hW' := hW
 obtain ⟨p, q, Mn, hV, rfl, hfz, hnd⟩ := hW
 have hA : DataW.TrodAll enc Tryz.prog W 0 (fun _ => true) true Tryz.f8.params.toList args.toList ds p := Mn
 rw [Tryz.params8] at hA hval
 obtain ⟨v0, vs0, d0, ds0, p0, q0, hargs, rfl, rfl, h0, r0⟩ := trodAll_cons hA
 obtain ⟨v1, vs1, d1, ds1, p1, q1, rfl, rfl, rfl, h1, r1⟩ := trodAll_cons r0
 obtain ⟨rfl, rfl, rfl⟩ := trodAll_nil r1
 obtain rfl : args = #[v0, v1] := by cases args; simp_all
 obtain ⟨rfl, rfl⟩ := trodVars_none hV
 have k0 := h0
 have lt0 : ∀ x ∈ p0, x.block < W.heap.size := by obtain ⟨m, hm⟩ := k0; exact DataW.trod_lt m _ _ _ hm
 have k1 := h1
 have lt1 : ∀ x ∈ p1, x.block < W.heap.size := by obtain ⟨m, hm⟩ := k1; exact DataW.trod_lt m _ _ _ hm
 obtain ⟨cv, ev, sh, lk, n, cd, aD, rfl, hWd, hEn⟩ := zF (hval 0 25 v0 rfl rfl) h0
 obtain ⟨task, rfl, _⟩ := open_int Tryz.underlying3 (hval 1 3 v1 rfl rfl) h1
 clear Mn LY
 refine (Ep Ii cv ev sh lk n cd aD task W (wU hL) hWd hEn).mono fun e W' ⟨he, aC⟩ => ?_
 subst he
 exact ⟨_, rfl, _, _, _, [], _, [], hW', trodAll_mk1 (shut_bool Tryz.underlying4 _), (trodAll_cons_mk (Below.trod laidOut agP (of_decide_eq_true agP) k0 aC lt0) (trodAll_cons_mk (Below.trod laidOut agP (of_decide_eq_true agP) k1 aC lt1) trodAll_mk0)), rfl, aC.frame _, fun h => by cases h⟩
theorem sr : Rows.BoundsFormSaid :=
 OpenClaim.holds_of_wide 8 Tryz.f8 rfl rfl rfl rfl rfl rfl rfl ⟨rfl, rfl, rfl, rfl, rfl⟩ rfl rfl rfl rfl rfl agP Tryz.func8 agP
  (of_decide_eq_true agP) (by unfold Func.isWrapper; first | (rw [if_pos (by decide +kernel)]; kernel_rfl) | (rw [if_neg (by decide +kernel)]; exact ⟨rfl, rfl⟩))
  (fun os started H enc _ => oa os started H enc)
theorem boundsForm_holds : Rows.BoundsFormCardSaid :=
 Claim7.holds_tied_plain_at .later [] [.data] true (true, "18e705f162bceaa43781ed7deca70d1d7faeceb5fa0da73440935e85b2bbb869") false
  sr (fun _ h => by cases h) agP (fun _ h => by cases h) boundsForm_row_tie rfl ⟨rfl, rfl⟩ agP rfl
  (fun f fn hf hfn => by
   obtain rfl : f = 8 := Option.some.inj ((show Tryz.prog.funcNamed "ontime/ontimelaw29.BoundsForm" = some 8 by kernel_rfl).symm.trans hf) |>.symm
   obtain rfl : fn = Tryz.f8 := (Option.some.inj (Tryz.func8.symm.trans hfn)).symm
   exact ⟨by kernel_rfl, fun j t ht => by
    rw [Tryz.params8] at ht
    rcases j with _ | _ | j
    ·obtain rfl : 25 = t := by simpa using ht
     exact (show Tryz.prog.wantsStandIn 25 = false by kernel_rfl)
    ·obtain rfl : 3 = t := by simpa using ht
     exact (show Tryz.prog.wantsStandIn 3 = false by kernel_rfl)
    ·simp at ht⟩)
  agP
end
end Go.Proofs.YtlmgkipmfgijiaaGreatDoor
