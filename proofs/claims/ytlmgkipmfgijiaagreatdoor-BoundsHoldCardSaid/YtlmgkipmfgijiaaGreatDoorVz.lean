/-
  What is proved here: parts ardBHo.
-/
import Derived.Test.YtlmgkipmfgijiaaGreatDoorVa
import Derived.Test.YtlmgkipmfgijiaaGreatDoorVy
import Derived.Test.YtlmgkipmfgijiaaGreatDoorVp
import Derived.Test.YtlmgkipmfgijiaaGreatDoorVq
import Derived.Test.YtlmgkipmfgijiaaGreatDoorVk
import Derived.Test.YtlmgkipmfgijiaaGreatDoorCards
import Derived.Test.YtlmgkipmfgijiaaGreatDoorTie
namespace Go.Proofs.YtlmgkipmfgijiaaGreatDoor
set_option linter.unusedVariables false
set_option linter.unusedSimpArgs false
set_option maxRecDepth 100000
set_option maxHeartbeats 8000000
section
open Go.ChangeShapes Go.WideShapes Go.ChangeAt Go.RowKit
theorem yg (os:Os) (started:os.Started) (H:Type) (enc:TypeId×Value→H) :
  ReturnsInHanded {} Tryz.checked os 9 .any (fun w args=>(Rows.boundsHoldSpec.pre enc Tryz.prog Tryz.f9 [] false w args∧laidMet Tryz.prog [("ontime/isa.formats", Rows.laid_ontime_isa_formats),("ontime/core.operators", Rows.laid_ontime_core_operators)] w)∧sizedMet enc Tryz.prog Tryz.f9 (OpenSpec.ofChange Rows.boundsHoldSpec) false w args)
   (Rows.boundsHoldSpec.post enc Tryz.prog Tryz.f9 false true false false):=by
 refine returnsInHanded_of_change_and (C:=Tryz.checked) (X:=fun w _=>laidMet Tryz.prog [("ontime/isa.formats", Rows.laid_ontime_isa_formats),("ontime/core.operators", Rows.laid_ontime_core_operators)] w) (fun _ _ _ hh h=>h.of_heap hh) own started A4 Tryz.func9
  (ChangeSpec.witness_at (enc:=enc) (C:=Tryz.checked) (os:=os) (X:=fun w _=>laidMet Tryz.prog [("ontime/isa.formats", Rows.laid_ontime_isa_formats),("ontime/core.operators", Rows.laid_ontime_core_operators)] w) false (cL os) #[.agg #[.slice none 0 0,.slice none 0 0,.int .i64 0,.int .i64 0],.int .i64 0,.slice none 0 0,.slice none 0 0,.slice none 0 0] 8 rfl A4 A4 A4 A4 A4 (abu os _)) ?_
 intro W base args ds gs before nY hW hcnd _ hL _;have hval:∀(j:Nat) t v,Tryz.f9.params[j]?=some t→args[j]?=some v→Value.okWide Tryz.prog W .any base t v:=nY;have Ym:=hW;obtain⟨p,q,Sq,hV,rfl,hfz,hnd⟩:=hW;have hA:DataW.TrodAll enc Tryz.prog W 0 (fun _=>true) true Tryz.f9.params.toList args.toList ds p:=Sq;rw [Tryz.params9] at hA hval;obtain⟨v0,vs0,d0,ds0,p0,q0,hargs,rfl,rfl,h0,r0⟩:=trodAll_cons hA;obtain⟨v1,vs1,d1,ds1,p1,q1,rfl,rfl,rfl,h1,r1⟩:=trodAll_cons r0;obtain⟨v2,vs2,d2,ds2,p2,q2,rfl,rfl,rfl,h2,r2⟩:=trodAll_cons r1;obtain⟨v3,vs3,d3,ds3,p3,q3,rfl,rfl,rfl,h3,r3⟩:=trodAll_cons r2;obtain⟨v4,vs4,d4,ds4,p4,q4,rfl,rfl,rfl,h4,r4⟩:=trodAll_cons r3;obtain⟨rfl,rfl,rfl⟩:=trodAll_nil r4;obtain rfl:args=#[v0,v1,v2,v3,v4]:=by cases args;simp_all
 obtain⟨rfl,rfl⟩:=trodVars_none hV;have k0:=h0;have lt0:∀x∈p0,x.block<W.heap.size:=by obtain⟨m,hm⟩:=k0;exact aI m _ _ _ hm
 have k1:=h1;have lt1:∀x∈p1,x.block<W.heap.size:=by obtain⟨m,hm⟩:=k1;exact aI m _ _ _ hm
 have k2:=h2;have lt2:∀x∈p2,x.block<W.heap.size:=by obtain⟨m,hm⟩:=k2;exact aI m _ _ _ hm
 have k3:=h3;have lt3:∀x∈p3,x.block<W.heap.size:=by obtain⟨m,hm⟩:=k3;exact aI m _ _ _ hm
 have k4:=h4;have lt4:∀x∈p4,x.block<W.heap.size:=by obtain⟨m,hm⟩:=k4;exact aI m _ _ _ hm
 obtain⟨cv,ev,sh,lk,n,cd,AO,rfl,hWd,hEn⟩:=aaH (hval 0 25 v0 rfl rfl) h0;obtain⟨task,rfl,_⟩:=open_int Db (hval 1 3 v1 rfl rfl) h1;obtain⟨dl,hDa⟩:=eE (hval 2 79 v2 rfl rfl) h2;obtain⟨sl,hSh⟩:=eE (hval 3 79 v3 rfl rfl) h3;obtain⟨il,hIn⟩:=eE (hval 4 79 v4 rfl rfl) h4;clear Sq nY;refine (atY aaK cv ev sh lk n cd AO task v2 v3 v4 dl sl il W (asy hL) (apo hL) hWd hEn hDa hSh hIn).mono fun e W' ⟨he,AA⟩=>?_;subst he;exact⟨_,rfl,_,_,_,[],_,[],Ym,trodAll_mk1 (shut_bool YH _),(cF (dD laidOut A4 (JB A4) k0 AA lt0) (cF (dD laidOut A4 (JB A4) k1 AA lt1) (cF (dD laidOut A4 (JB A4) k2 AA lt2) (cF (dD laidOut A4 (JB A4) k3 AA lt3) (cF (dD laidOut A4 (JB A4) k4 AA lt4) trodAll_mk0))))),rfl,AA.frame _,fun h=>by cases h⟩
theorem aqS:Rows.BoundsHoldSaid:=
 OpenClaim.holds_of_wide 9 Tryz.f9 rfl rfl rfl rfl rfl rfl rfl ⟨rfl,rfl,rfl,rfl,rfl⟩ rfl rfl rfl rfl rfl A4 Tryz.func9 A4
  (JB A4) (by unfold Func.isWrapper;first|(rw [A9 (by decide +kernel)];kernel_rfl)|(rw [A6 (by decide +kernel)];exact⟨rfl,rfl⟩))
  (fun os started H enc _=>yg os started H enc)
theorem boundsHold_holds:Rows.BoundsHoldCardSaid:=
 Claim7.holds_tied_plain_at .later [] [.data,.data] true (true, "18e705f162bceaa43781ed7deca70d1d7faeceb5fa0da73440935e85b2bbb869") false
  aqS (fun _ h=>by cases h) A4 (fun _ h=>by cases h) boundsHold_row_tie rfl ⟨rfl,rfl⟩ A4 rfl
  (fun f fn hf hfn=>by
   obtain rfl:f=9:=FZ ((show Tryz.prog.funcNamed "ontime/ontimelaw29.BoundsHold" = some 9 by kernel_rfl).symm.trans hf) |>.symm
   obtain rfl:fn=Tryz.f9:=(FZ (Tryz.func9.symm.trans hfn)).symm;exact⟨by kernel_rfl,fun j t ht=>by
    rw [Tryz.params9] at ht;rcases j with _|_|_|_|_|j
    ·obtain rfl:25=t:=by simpa using ht
     exact (show Tryz.prog.wantsStandIn 25=false by kernel_rfl)
    ·obtain rfl:3=t:=by simpa using ht
     exact (show Tryz.prog.wantsStandIn 3=false by kernel_rfl)
    ·obtain rfl:79=t:=by simpa using ht
     exact (show Tryz.prog.wantsStandIn 79=false by kernel_rfl)
    ·obtain rfl:79=t:=by simpa using ht
     exact (show Tryz.prog.wantsStandIn 79=false by kernel_rfl)
    ·obtain rfl:79=t:=by simpa using ht
     exact (show Tryz.prog.wantsStandIn 79=false by kernel_rfl)
    ·simp at ht⟩)
  A4
end
end Go.Proofs.YtlmgkipmfgijiaaGreatDoor
