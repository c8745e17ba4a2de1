/-
 What is proved here: the statement ValueSound: for every image, task, data, shared memory and input it returns true and leaves its input as it was; the tables of formats and of operators are as the program's text lays them.
-/
import Derived.Test.YtebklpnkcicpjaaDoorRlSo
import Derived.Test.YtebklpnkcicpjaaDoorRaAz
import Derived.Test.YtebklpnkcicpjaaDoorRaOp
import Derived.Test.YtebklpnkcicpjaaDoorRbKc
import Derived.Test.YtebklpnkcicpjaaDoorCards
import Derived.Test.YtebklpnkcicpjaaDoorTie
namespace Go.Proofs.YtebklpnkcicpjaaDoor
open Go.ChangeShapes Go.WideShapes Go.ChangeAt Go.RowKit
set_option linter.unusedVariables false
set_option linter.unusedSimpArgs false

set_option maxRecDepth 100000 in
theorem valueSound_lifted (os : Os) (started : os.Started) (H : Type) (enc : TypeId × Value → H) :
  ReturnsInHanded {} Tryd.checked os 8 .any (fun w args => (Rows.valueSoundSpec.pre enc Tryd.prog Tryd.f8 [] false w args ∧ laidMet Tryd.prog [("ontime/isa.formats", Rows.laid_ontime_isa_formats), ("ontime/core.operators", Rows.laid_ontime_core_operators)] w) ∧ sizedMet enc Tryd.prog Tryd.f8 (OpenSpec.ofChange Rows.valueSoundSpec) false w args)
   (Rows.valueSoundSpec.post enc Tryd.prog Tryd.f8 false true false false) := by
 refine returnsInHanded_of_change_and (C := Tryd.checked) (X := fun w _ => laidMet Tryd.prog [("ontime/isa.formats", Rows.laid_ontime_isa_formats), ("ontime/core.operators", Rows.laid_ontime_core_operators)] w) (fun _ _ _ hh h => h.of_heap hh) own started (by kernel_rfl) Tryd.func8
  (ChangeSpec.witness_at (enc := enc) (C := Tryd.checked) (os := os) (X := fun w _ => laidMet Tryd.prog [("ontime/isa.formats", Rows.laid_ontime_isa_formats), ("ontime/core.operators", Rows.laid_ontime_core_operators)] w) false (laidWorld2 os) #[.agg #[.slice none 0 0, .slice none 0 0, .int .i64 0, .int .i64 0], .int .i64 0, .slice none 0 0, .slice none 0 0, .slice none 0 0] 8 rfl (by kernel_rfl) (by kernel_rfl) (by kernel_rfl) (by kernel_rfl) (by kernel_rfl) (laid_met2 os _)) ?_
 intro W base args ds gs before hval0 hW hcnd _ hL _
 have hval : ∀ (j : Nat) t v, Tryd.f8.params[j]? = some t → args[j]? = some v → Value.okWide Tryd.prog W .any base t v := hval0
 have hW' := hW
 obtain ⟨p, q, hA0, hV, rfl, hfz, hnd⟩ := hW
 have hA : DataW.TrodAll enc Tryd.prog W 0 (fun _ => true) true Tryd.f8.params.toList args.toList ds p := hA0
 rw [Tryd.params8] at hA hval
 obtain ⟨v0, vs0, d0, ds0, p0, q0, hargs, rfl, rfl, h0, r0⟩ := trodAll_cons hA
 obtain ⟨v1, vs1, d1, ds1, p1, q1, rfl, rfl, rfl, h1, r1⟩ := trodAll_cons r0
 obtain ⟨v2, vs2, d2, ds2, p2, q2, rfl, rfl, rfl, h2, r2⟩ := trodAll_cons r1
 obtain ⟨v3, vs3, d3, ds3, p3, q3, rfl, rfl, rfl, h3, r3⟩ := trodAll_cons r2
 obtain ⟨v4, vs4, d4, ds4, p4, q4, rfl, rfl, rfl, h4, r4⟩ := trodAll_cons r3
 obtain ⟨rfl, rfl, rfl⟩ := trodAll_nil r4
 obtain rfl : args = #[v0, v1, v2, v3, v4] := by cases args; simp_all
 obtain ⟨rfl, rfl⟩ := trodVars_none hV
 have k0 := h0
 have lt0 : ∀ x ∈ p0, x.block < W.heap.size := by obtain ⟨m, hm⟩ := k0; exact DataW.trod_lt m _ _ _ hm
 have k1 := h1
 have lt1 : ∀ x ∈ p1, x.block < W.heap.size := by obtain ⟨m, hm⟩ := k1; exact DataW.trod_lt m _ _ _ hm
 have k2 := h2
 have lt2 : ∀ x ∈ p2, x.block < W.heap.size := by obtain ⟨m, hm⟩ := k2; exact DataW.trod_lt m _ _ _ hm
 have k3 := h3
 have lt3 : ∀ x ∈ p3, x.block < W.heap.size := by obtain ⟨m, hm⟩ := k3; exact DataW.trod_lt m _ _ _ hm
 have k4 := h4
 have lt4 : ∀ x ∈ p4, x.block < W.heap.size := by obtain ⟨m, hm⟩ := k4; exact DataW.trod_lt m _ _ _ hm
 obtain ⟨cv, ev, sh, lk, n, cd, ents, rfl, hWd, hEn⟩ := open_image (hval 0 38 v0 rfl rfl) h0
 obtain ⟨task, rfl, _⟩ := open_int Tryd.underlying3 (hval 1 3 v1 rfl rfl) h1
 obtain ⟨dl, hDa⟩ := open_i32s (hval 2 28 v2 rfl rfl) h2
 obtain ⟨sl, hSh⟩ := open_i32s (hval 3 28 v3 rfl rfl) h3
 obtain ⟨il, hIn⟩ := open_i32s (hval 4 28 v4 rfl rfl) h4
 clear hA0 hval0
 refine (vsound_any anl_spec cv ev sh lk n cd ents task v2 v3 v4 dl sl il W (tab_of_laid2 hL) (optab_of_laid2 hL) hWd hEn hDa hSh hIn).mono fun e W' ⟨he, bel⟩ => ?_
 subst he
 exact ⟨_, rfl, _, _, _, [], _, [], hW', trodAll_mk1 (shut_bool Tryd.underlying4 _), (trodAll_cons_mk (Below.trod laidOut (by kernel_rfl) (of_decide_eq_true (by kernel_rfl)) k0 bel lt0) (trodAll_cons_mk (Below.trod laidOut (by kernel_rfl) (of_decide_eq_true (by kernel_rfl)) k1 bel lt1) (trodAll_cons_mk (Below.trod laidOut (by kernel_rfl) (of_decide_eq_true (by kernel_rfl)) k2 bel lt2) (trodAll_cons_mk (Below.trod laidOut (by kernel_rfl) (of_decide_eq_true (by kernel_rfl)) k3 bel lt3) (trodAll_cons_mk (Below.trod laidOut (by kernel_rfl) (of_decide_eq_true (by kernel_rfl)) k4 bel lt4) trodAll_mk0))))), rfl, bel.frame _, fun h => by cases h⟩

theorem valueSound_row : Rows.ValueSoundSaid :=
 OpenClaim.holds_of_wide 8 Tryd.f8 rfl rfl rfl rfl rfl rfl rfl ⟨rfl, rfl, rfl, rfl, rfl⟩ rfl rfl rfl rfl rfl (by kernel_rfl) Tryd.func8 (by kernel_rfl)
  (of_decide_eq_true (by kernel_rfl)) (by unfold Func.isWrapper; first | (rw [if_pos (by decide +kernel)]; kernel_rfl) | (rw [if_neg (by decide +kernel)]; exact ⟨rfl, rfl⟩))
  (fun os started H enc _ => valueSound_lifted os started H enc)

theorem valueSound_holds : Rows.ValueSoundCardSaid :=
 Claim7.holds_tied_plain_at .later [] [.data, .data] true (true, "2d70e7b0bf68d0e8eb6968d554c55a448663dab88c0b10abba380bf83fce6869") false
  valueSound_row (fun _ h => by cases h) (by kernel_rfl) (fun _ h => by cases h) valueSound_row_tie rfl ⟨rfl, rfl⟩ (by kernel_rfl) rfl
  (fun f fn hf hfn => by
   obtain rfl : f = 8 := Option.some.inj ((show Tryd.prog.funcNamed "ontime/ontimelaw28.ValueSound" = some 8 by kernel_rfl).symm.trans hf) |>.symm
   obtain rfl : fn = Tryd.f8 := (Option.some.inj (Tryd.func8.symm.trans hfn)).symm
   exact ⟨by kernel_rfl, fun j t ht => by
    rw [Tryd.params8] at ht
    rcases j with _ | _ | _ | _ | _ | j
    ·obtain rfl : 38 = t := by simpa using ht
     exact (show Tryd.prog.wantsStandIn 38 = false by kernel_rfl)
    ·obtain rfl : 3 = t := by simpa using ht
     exact (show Tryd.prog.wantsStandIn 3 = false by kernel_rfl)
    ·obtain rfl : 28 = t := by simpa using ht
     exact (show Tryd.prog.wantsStandIn 28 = false by kernel_rfl)
    ·obtain rfl : 28 = t := by simpa using ht
     exact (show Tryd.prog.wantsStandIn 28 = false by kernel_rfl)
    ·obtain rfl : 28 = t := by simpa using ht
     exact (show Tryd.prog.wantsStandIn 28 = false by kernel_rfl)
    ·simp at ht⟩)
  (by kernel_rfl)

end Go.Proofs.YtebklpnkcicpjaaDoor


