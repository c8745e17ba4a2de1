/-
  What is proved here: parts ardVAn.
-/
import Derived.Test.YtebklpnkcicpjaaGreatDoorXa
import Derived.Test.YtebklpnkcicpjaaGreatDoorXy
import Derived.Test.YtebklpnkcicpjaaGreatDoorXm
import Derived.Test.YtebklpnkcicpjaaGreatDoorXn
import Derived.Test.YtebklpnkcicpjaaGreatDoorXf
import Derived.Test.YtebklpnkcicpjaaGreatDoorCards
import Derived.Test.YtebklpnkcicpjaaGreatDoorTie
namespace Go.Proofs.YtebklpnkcicpjaaGreatDoor
set_option linter.unusedVariables false
set_option linter.unusedSimpArgs false
set_option maxRecDepth 100000
set_option maxHeartbeats 8000000
section
open Go.ChangeShapes Go.WideShapes Go.ChangeAt Go.RowKit
theorem kK (os : Os) (started : os.Started) (H : Type) (enc : TypeId × Value → H) :
  ReturnsInHanded {} Tryz.checked os 3 .any (fun w args => (Rows.valueAnalyzesSpec.pre enc Tryz.prog Tryz.f3 [] false w args ∧ laidMet Tryz.prog [("ontime/isa.formats", Rows.laid_ontime_isa_formats)] w) ∧ sizedMet enc Tryz.prog Tryz.f3 (OpenSpec.ofChange Rows.valueAnalyzesSpec) false w args)
   (Rows.valueAnalyzesSpec.post enc Tryz.prog Tryz.f3 false true false false) := by
 refine returnsInHanded_of_change_and (C := Tryz.checked) (X := fun w _ => laidMet Tryz.prog [("ontime/isa.formats", Rows.laid_ontime_isa_formats)] w) (fun _ _ _ hh h => h.of_heap hh) own started abp Tryz.func3
  (ChangeSpec.witness_at (enc := enc) (C := Tryz.checked) (os := os) (X := fun w _ => laidMet Tryz.prog [("ontime/isa.formats", Rows.laid_ontime_isa_formats)] w) false (o9 os) #[.agg #[.slice none 0 0, .slice none 0 0, .int .i64 0, .int .i64 0], .int .i64 0] 8 rfl abp abp abp abp abp (GI os _)) ?_
 intro W base args ds gs before Lu hW hcnd _ hL _
 have hval : ∀ (j : Nat) t v, Tryz.f3.params[j]? = some t → args[j]? = some v → Value.okWide Tryz.prog W .any base t v := Lu
 have Zg := hW
 obtain ⟨p, q, PZ, hV, rfl, hfz, RH⟩ := hW
 have hA : DataW.TrodAll enc Tryz.prog W 0 (fun _ => true) true Tryz.f3.params.toList args.toList ds p := PZ
 rw [Tryz.params3] at hA hval
 obtain ⟨v0, vs0, d0, ds0, p0, q0, hargs, rfl, rfl, h0, r0⟩ := trodAll_cons hA
 obtain ⟨v1, vs1, d1, ds1, p1, q1, rfl, rfl, rfl, h1, r1⟩ := trodAll_cons r0
 obtain ⟨rfl, rfl, rfl⟩ := trodAll_nil r1
 obtain rfl : args = #[v0, v1] := by cases args; simp_all
 obtain ⟨rfl, rfl⟩ := trodVars_none hV
 have k0 := h0
 have lt0 : ∀ x ∈ p0, x.block < W.heap.size := by obtain ⟨m, hm⟩ := k0; exact DataW.trod_lt m _ _ _ hm
 have k1 := h1
 have lt1 : ∀ x ∈ p1, x.block < W.heap.size := by obtain ⟨m, hm⟩ := k1; exact DataW.trod_lt m _ _ _ hm
 obtain ⟨cv, ev, sh, lk, n, cd, aM, rfl, Ze, Zp⟩ := zG (hval 0 25 v0 rfl rfl) h0
 obtain ⟨task, rfl, _⟩ := open_int Tryz.underlying3 (hval 1 3 v1 rfl rfl) h1
 clear PZ Lu
 refine (Fw Iw cv ev sh lk n cd aM task W (wN hL) Ze Zp).mono fun e W' ⟨he, aF⟩ => ?_
 subst he
 exact ⟨_, rfl, _, _, _, [], _, [], Zg, trodAll_mk1 (shut_bool Tryz.underlying4 _), (trodAll_cons_mk (Below.trod laidOut abp (of_decide_eq_true abp) k0 aF lt0) (trodAll_cons_mk (Below.trod laidOut abp (of_decide_eq_true abp) k1 aF lt1) trodAll_mk0)), rfl, aF.frame _, fun h => by cases h⟩
theorem nI : Rows.ValueAnalyzesSaid :=
 OpenClaim.holds_of_wide 3 Tryz.f3 rfl rfl rfl rfl rfl rfl rfl ⟨rfl, rfl, rfl, rfl, rfl⟩ rfl rfl rfl rfl rfl abp Tryz.func3 abp
  (of_decide_eq_true abp) (by unfold Func.isWrapper; first | (rw [if_pos abu]; kernel_rfl) | (rw [if_neg abu]; exact ⟨rfl, rfl⟩))
  (fun os started H enc _ => kK os started H enc)
theorem valueAnalyzes_holds : Rows.ValueAnalyzesCardSaid :=
 Claim7.holds_tied_plain_at .later [] [.data] true (true, "7ef10711567898784d4d3f63b989398b9db1133c1be6c4067fee0c9594f9a8fa") false
  nI (fun _ h => by cases h) abp (fun _ h => by cases h) valueAnalyzes_row_tie rfl ⟨rfl, rfl⟩ abp rfl
  (fun f fn hf hfn => by
   obtain rfl : f = 3 := Option.some.inj ((show Tryz.prog.funcNamed "ontime/ontimelaw28.ValueAnalyzes" = some 3 by kernel_rfl).symm.trans hf) |>.symm
   obtain rfl : fn = Tryz.f3 := (Option.some.inj (Tryz.func3.symm.trans hfn)).symm
   exact ⟨by kernel_rfl, fun j t ht => by
    rw [Tryz.params3] at ht
    rcases j with _ | _ | j
    ·obtain rfl : 25 = t := by simpa using ht
     exact (show Tryz.prog.wantsStandIn 25 = false by kernel_rfl)
    ·obtain rfl : 3 = t := by simpa using ht
     exact (show Tryz.prog.wantsStandIn 3 = false by kernel_rfl)
    ·simp at ht⟩)
  abp
end
end Go.Proofs.YtebklpnkcicpjaaGreatDoor
