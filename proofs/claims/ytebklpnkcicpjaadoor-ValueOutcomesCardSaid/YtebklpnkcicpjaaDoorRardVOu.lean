/-
 What is proved here: the statement ValueOutcomes: for every instruction, registers and offsets it returns true and leaves its input as it was; the table of formats is as the program's text lays it.
-/
import Derived.Test.YtebklpnkcicpjaaDoorRlOu
import Derived.Test.YtebklpnkcicpjaaDoorRaAz
import Derived.Test.YtebklpnkcicpjaaDoorRaOp
import Derived.Test.YtebklpnkcicpjaaDoorRbCd
import Derived.Test.YtebklpnkcicpjaaDoorCards
import Derived.Test.YtebklpnkcicpjaaDoorTie
namespace Go.Proofs.YtebklpnkcicpjaaDoor
open Go.ChangeShapes Go.WideShapes Go.ChangeAt Go.RowKit
set_option linter.unusedVariables false
set_option linter.unusedSimpArgs false

set_option maxRecDepth 100000 in
theorem wds_in {x : Int} (h : (Lit.int .i32 x).wf = true) : W32 x := by
 simp [Lit.wf] at h
 have e1 : IntKind.i32.min = -2147483648 := by decide
 have e2 : IntKind.i32.max = 2147483647 := by decide
 unfold W32
 omega
set_option maxRecDepth 100000 in
theorem open_wds {H : Type} {enc : TypeId × Value → H} {w : World} {base : Nat} {spare : Nat → Bool} {held : Bool} {r : Reach} {b0 : Nat} {v : Value} {d : DataW H} {p : List MemPlace} (hv : Value.okWide Tryd.prog w r b0 28 v) (h : DataW.Trod enc Tryd.prog w base spare held 28 v d p) : ∃ l, Wds w v l := by
 obtain ⟨l, ⟨A, cap, rfl, h1, h2, hc⟩, hw⟩ := open_ints_as Tryd.underlying28 Tryd.underlying21 (by kernel_rfl) hv h
 refine ⟨l, fun x hx => wds_in (hw x hx), A, cap, rfl, h1, h2, fun h0 => ?_⟩
 obtain ⟨b, off, rfl, hb, hx⟩ := hc h0
 refine ⟨b, off, rfl, hb, fun i hi => ?_⟩
 obtain ⟨cs, rfl, _, hj⟩ := hx i hi
 simpa using hj 0 (by omega)

set_option maxRecDepth 100000 in
theorem valueOutcomes_lifted (os : Os) (started : os.Started) (H : Type) (enc : TypeId × Value → H) :
  ReturnsInHanded {} Tryd.checked os 3 .any (fun w args => (Rows.valueOutcomesSpec.pre enc Tryd.prog Tryd.f3 [] false w args ∧ laidMet Tryd.prog [("ontime/isa.formats", Rows.laid_ontime_isa_formats)] w) ∧ sizedMet enc Tryd.prog Tryd.f3 (OpenSpec.ofChange Rows.valueOutcomesSpec) false w args)
   (Rows.valueOutcomesSpec.post enc Tryd.prog Tryd.f3 false true false false) := by
 refine returnsInHanded_of_change_and (C := Tryd.checked) (X := fun w _ => laidMet Tryd.prog [("ontime/isa.formats", Rows.laid_ontime_isa_formats)] w) (fun _ _ _ hh h => h.of_heap hh) own started (by kernel_rfl) Tryd.func3
  (ChangeSpec.witness_at (enc := enc) (C := Tryd.checked) (os := os) (X := fun w _ => laidMet Tryd.prog [("ontime/isa.formats", Rows.laid_ontime_isa_formats)] w) false (laidWorld os) #[.agg #[.int .u8 0, .int .i64 0, .int .i64 0, .int .i64 0, .int .i64 0], .agg #[.int .i32 0, .int .i32 0, .int .i32 0, .int .i32 0, .int .i32 0, .int .i32 0, .int .i32 0, .int .i32 0, .int .i32 0, .int .i32 0, .int .i32 0, .int .i32 0, .int .i32 0, .int .i32 0, .int .i32 0, .int .i32 0, .int .i32 0, .int .i32 0, .int .i32 0, .int .i32 0, .int .i32 0, .int .i32 0, .int .i32 0, .int .i32 0, .int .i32 0, .int .i32 0, .int .i32 0, .int .i32 0, .int .i32 0, .int .i32 0, .int .i32 0, .int .i32 0], .slice none 0 0] 8 rfl (by kernel_rfl) (by kernel_rfl) (by kernel_rfl) (by kernel_rfl) (by kernel_rfl) (laid_met os _)) ?_
 intro W base args ds gs before hval0 hW hcnd _ hL _
 have hval : ∀ (j : Nat) t v, Tryd.f3.params[j]? = some t → args[j]? = some v → Value.okWide Tryd.prog W .any base t v := hval0
 have hW' := hW
 obtain ⟨p, q, hA0, hV, rfl, hfz, hnd⟩ := hW
 have hA : DataW.TrodAll enc Tryd.prog W 0 (fun _ => true) true Tryd.f3.params.toList args.toList ds p := hA0
 rw [Tryd.params3] at hA hval
 obtain ⟨v0, vs0, d0, ds0, p0, q0, hargs, rfl, rfl, h0, r0⟩ := trodAll_cons hA
 obtain ⟨v1, vs1, d1, ds1, p1, q1, rfl, rfl, rfl, h1, r1⟩ := trodAll_cons r0
 obtain ⟨v2, vs2, d2, ds2, p2, q2, rfl, rfl, rfl, h2, r2⟩ := trodAll_cons r1
 obtain ⟨rfl, rfl, rfl⟩ := trodAll_nil r2
 obtain rfl : args = #[v0, v1, v2] := by cases args; simp_all
 obtain ⟨rfl, rfl⟩ := trodVars_none hV
 have k0 := h0
 have lt0 : ∀ x ∈ p0, x.block < W.heap.size := by obtain ⟨m, hm⟩ := k0; exact DataW.trod_lt m _ _ _ hm
 have k1 := h1
 have lt1 : ∀ x ∈ p1, x.block < W.heap.size := by obtain ⟨m, hm⟩ := k1; exact DataW.trod_lt m _ _ _ hm
 have k2 := h2
 have lt2 : ∀ x ∈ p2, x.block < W.heap.size := by obtain ⟨m, hm⟩ := k2; exact DataW.trod_lt m _ _ _ hm
 obtain ⟨op, ia, ib, ic, im, rfl, hop0, hop1⟩ := open_ins (hval 0 23 v0 rfl rfl) h0
 obtain ⟨r, rfl, hr⟩ := open_regs (hval 1 27 v1 rfl rfl) h1
 obtain ⟨ol, hO⟩ := open_wds (hval 2 28 v2 rfl rfl) h2
 clear hA0 hval0
 refine (vout_any anl_spec op ia ib ic im hop0 r hr v2 ol W (tab_of_laid hL) hO).mono fun e W' ⟨he, bel⟩ => ?_
 subst he
 exact ⟨_, rfl, _, _, _, [], _, [], hW', trodAll_mk1 (shut_bool Tryd.underlying4 _), (trodAll_cons_mk (Below.trod laidOut (by kernel_rfl) (of_decide_eq_true (by kernel_rfl)) k0 bel lt0) (trodAll_cons_mk (Below.trod laidOut (by kernel_rfl) (of_decide_eq_true (by kernel_rfl)) k1 bel lt1) (trodAll_cons_mk (Below.trod laidOut (by kernel_rfl) (of_decide_eq_true (by kernel_rfl)) k2 bel lt2) trodAll_mk0))), rfl, bel.frame _, fun h => by cases h⟩

theorem valueOutcomes_row : Rows.ValueOutcomesSaid :=
 OpenClaim.holds_of_wide 3 Tryd.f3 rfl rfl rfl rfl rfl rfl rfl ⟨rfl, rfl, rfl, rfl, rfl⟩ rfl rfl rfl rfl rfl (by kernel_rfl) Tryd.func3 (by kernel_rfl)
  (of_decide_eq_true (by kernel_rfl)) (by unfold Func.isWrapper; first | (rw [if_pos (by decide +kernel)]; kernel_rfl) | (rw [if_neg (by decide +kernel)]; exact ⟨rfl, rfl⟩))
  (fun os started H enc _ => valueOutcomes_lifted os started H enc)

theorem valueOutcomes_holds : Rows.ValueOutcomesCardSaid :=
 Claim7.holds_tied_plain_at .later [] [.data] true (true, "2d70e7b0bf68d0e8eb6968d554c55a448663dab88c0b10abba380bf83fce6869") false
  valueOutcomes_row (fun _ h => by cases h) (by kernel_rfl) (fun _ h => by cases h) valueOutcomes_row_tie rfl ⟨rfl, rfl⟩ (by kernel_rfl) rfl
  (fun f fn hf hfn => by
   obtain rfl : f = 3 := Option.some.inj ((show Tryd.prog.funcNamed "ontime/ontimelaw28.ValueOutcomes" = some 3 by kernel_rfl).symm.trans hf) |>.symm
   obtain rfl : fn = Tryd.f3 := (Option.some.inj (Tryd.func3.symm.trans hfn)).symm
   exact ⟨by kernel_rfl, fun j t ht => by
    rw [Tryd.params3] at ht
    rcases j with _ | _ | _ | j
    ·obtain rfl : 23 = t := by simpa using ht
     exact (show Tryd.prog.wantsStandIn 23 = false by kernel_rfl)
    ·obtain rfl : 27 = t := by simpa using ht
     exact (show Tryd.prog.wantsStandIn 27 = false by kernel_rfl)
    ·obtain rfl : 28 = t := by simpa using ht
     exact (show Tryd.prog.wantsStandIn 28 = false by kernel_rfl)
    ·simp at ht⟩)
  (by kernel_rfl)

end Go.Proofs.YtebklpnkcicpjaaDoor


