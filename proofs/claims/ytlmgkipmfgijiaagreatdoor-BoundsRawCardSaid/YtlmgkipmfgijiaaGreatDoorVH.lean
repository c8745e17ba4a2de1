/-
  What is proved here: parts ardBRw.
-/
import Derived.Test.YtlmgkipmfgijiaaGreatDoorVa
import Derived.Test.YtlmgkipmfgijiaaGreatDoorVG
import Derived.Test.YtlmgkipmfgijiaaGreatDoorVm
import Derived.Test.YtlmgkipmfgijiaaGreatDoorVn
import Derived.Test.YtlmgkipmfgijiaaGreatDoorVd
import Derived.Test.YtlmgkipmfgijiaaGreatDoorCards
import Derived.Test.YtlmgkipmfgijiaaGreatDoorTie
namespace Go.Proofs.YtlmgkipmfgijiaaGreatDoor
set_option linter.unusedVariables false
set_option linter.unusedSimpArgs false
set_option maxRecDepth 100000
set_option maxHeartbeats 8000000
section
open Go.ChangeShapes Go.WideShapes Go.ChangeAt Go.RowKit
theorem xO (os:Os) (started:os.Started) (H:Type) (enc:TypeId×Value→H) :
  ReturnsInHanded {} Tryz.checked os 4 .any (fun w args=>(Rows.boundsRawSpec.pre enc Tryz.prog Tryz.f4 [] false w args∧laidMet Tryz.prog [("ontime/isa.formats", Rows.laid_ontime_isa_formats)] w)∧sizedMet enc Tryz.prog Tryz.f4 (OpenSpec.ofChange Rows.boundsRawSpec) false w args)
   (Rows.boundsRawSpec.post enc Tryz.prog Tryz.f4 false true false false):=by
 refine wX (C:=Tryz.checked) (X:=fun w _=>laidMet Tryz.prog [("ontime/isa.formats", Rows.laid_ontime_isa_formats)] w) (fun _ _ _ hh h=>h.of_heap hh) own started A6 Tryz.func4
  (um (enc:=enc) (C:=Tryz.checked) (os:=os) (X:=fun w _=>laidMet Tryz.prog [("ontime/isa.formats", Rows.laid_ontime_isa_formats)] w) false (ZQ os) #[.agg #[.slice none 0 0,.slice none 0 0,.int .i64 0,.int .i64 0],.int .i64 0,.agg #[.int .i64 0,.slice none 0 0,.slice none 0 0,.int .i64 0],.int .i64 0] 8 rfl A6 A6 A6 A6 A6 (nI os _)) ?_
 intro W base args ds gs before Rl hW hcnd _ hL _;have hval:∀(j:Nat) t v,Tryz.f4.params[j]?=some t→args[j]?=some v→Value.okWide Tryz.prog W .any base t v:=Rl;have Xl:=hW;obtain⟨p,q,LG,hV,rfl,hfz,hnd⟩:=hW;have hA:DataW.TrodAll enc Tryz.prog W 0 (fun _=>true) true Tryz.f4.params.toList args.toList ds p:=LG;rw [Tryz.params4] at hA hval;obtain⟨v0,vs0,d0,ds0,p0,q0,hargs,rfl,rfl,h0,r0⟩:=trodAll_cons hA;obtain⟨v1,vs1,d1,ds1,p1,q1,rfl,rfl,rfl,h1,r1⟩:=trodAll_cons r0;obtain⟨v2,vs2,d2,ds2,p2,q2,rfl,rfl,rfl,h2,r2⟩:=trodAll_cons r1;obtain⟨v3,vs3,d3,ds3,p3,q3,rfl,rfl,rfl,h3,r3⟩:=trodAll_cons r2;obtain⟨rfl,rfl,rfl⟩:=trodAll_nil r3;obtain rfl:args=#[v0,v1,v2,v3]:=by cases args;simp_all
 obtain⟨rfl,rfl⟩:=trodVars_none hV;have k0:=h0;have lt0:∀x∈p0,x.block<W.heap.size:=by obtain⟨m,hm⟩:=k0;exact RR m _ _ _ hm
 have k1:=h1;have lt1:∀x∈p1,x.block<W.heap.size:=by obtain⟨m,hm⟩:=k1;exact RR m _ _ _ hm
 have k2:=h2;have lt2:∀x∈p2,x.block<W.heap.size:=by obtain⟨m,hm⟩:=k2;exact RR m _ _ _ hm
 have k3:=h3;have lt3:∀x∈p3,x.block<W.heap.size:=by obtain⟨m,hm⟩:=k3;exact RR m _ _ _ hm
 obtain⟨cv,ev,sh,lk,n,cd,AU,rfl,Wl,Xe⟩:=lS (hval 0 25 v0 rfl rfl) h0;obtain⟨task,rfl,_⟩:=open_int CS (hval 1 3 v1 rfl rfl) h1;obtain⟨hd,ua,ub,pr,bl,la,rfl,hBl,hLa⟩:=arE (hval 2 46 v2 rfl rfl) h2;obtain⟨A8,rfl,_⟩:=open_int CS (hval 3 3 v3 rfl rfl) h3;clear LG Rl;refine (aiI jR cv ev sh lk n cd AU task hd ua ub pr bl la A8 W (j6 hL) Wl Xe hBl hLa).mono fun e W' ⟨he,A7⟩=>?_;subst he;exact⟨_,rfl,_,_,_,[],_,[],Xl,trodAll_mk1 (shut_bool U7 _),(Re (Qn laidOut A6 (GQ A6) k0 A7 lt0) (Re (Qn laidOut A6 (GQ A6) k1 A7 lt1) (Re (Qn laidOut A6 (GQ A6) k2 A7 lt2) (Re (Qn laidOut A6 (GQ A6) k3 A7 lt3) trodAll_mk0)))),rfl,A7.frame _,fun h=>by cases h⟩
theorem anz:Rows.BoundsRawSaid:=
 oq 4 Tryz.f4 rfl rfl rfl rfl rfl rfl rfl ⟨rfl,rfl,rfl,rfl,rfl⟩ rfl rfl rfl rfl rfl A6 Tryz.func4 A6
  (GQ A6) vr
  (fun os started H enc _=>xO os started H enc)
theorem boundsRaw_holds:Rows.BoundsRawCardSaid:=
 Claim7.holds_tied_plain_at .later [] [.data] true (true, "18e705f162bceaa43781ed7deca70d1d7faeceb5fa0da73440935e85b2bbb869") false
  anz (fun _ h=>by cases h) A6 (fun _ h=>by cases h) boundsRaw_row_tie rfl ⟨rfl,rfl⟩ A6 rfl
  (fun f fn hf hfn=>by
   obtain rfl:f=4:=Gl ((show Tryz.prog.funcNamed "ontime/ontimelaw29.BoundsRaw" = some 4 by kernel_rfl).symm.trans hf) |>.symm
   obtain rfl:fn=Tryz.f4:=(Gl (Tryz.func4.symm.trans hfn)).symm;exact⟨by kernel_rfl,fun j t ht=>by
    rw [Tryz.params4] at ht;rcases j with _|_|_|_|j
    ·obtain rfl:25=t:=by simpa using ht
     exact (show Tryz.prog.wantsStandIn 25=false by kernel_rfl)
    ·obtain rfl:3=t:=by simpa using ht
     exact (show Tryz.prog.wantsStandIn 3=false by kernel_rfl)
    ·obtain rfl:46=t:=by simpa using ht
     exact (show Tryz.prog.wantsStandIn 46=false by kernel_rfl)
    ·obtain rfl:3=t:=by simpa using ht
     exact (show Tryz.prog.wantsStandIn 3=false by kernel_rfl)
    ·simp at ht⟩)
  A6
end
end Go.Proofs.YtlmgkipmfgijiaaGreatDoor
