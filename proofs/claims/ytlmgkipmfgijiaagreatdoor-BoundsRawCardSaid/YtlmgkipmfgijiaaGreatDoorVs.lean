/-
  What is proved here: parts rBo, lCnQ.
-/
import Derived.Test.YtlmgkipmfgijiaaGreatDoorVa
import Derived.Test.YtlmgkipmfgijiaaGreatDoorVr
namespace Go.Proofs.YtlmgkipmfgijiaaGreatDoor
set_option linter.unusedVariables false
set_option linter.unusedSimpArgs false
set_option maxRecDepth 100000
set_option maxHeartbeats 8000000
open Go.RowKit
section
theorem apH:∀k:Nat,k<30→((fm k).wr=true↔((2≤k∧k≤18)∨k=20∨k=26)):=by decide +kernel
theorem acu (i:Ins) (h0:0≤i.op) (w:World) :
  Calls Tryz.prog 50 #[.agg #[.int .u8 i.op,.int .i64 i.a,.int .i64 i.b,.int .i64 i.c,.int .i64 i.AG]] w fun e w'=>e=.returned (.int .i64 (rW i))∧Below w.heap.size w w':=by
 obtain⟨op,ia,ib,ic,im⟩:=i;have h0:0≤op:=h0;obtain⟨V,hV⟩:=AA (w.alloc (.cells #[.int .u8 op,.int .i64 ia,.int .i64 ib,.int .i64 ic,.int .i64 im] 67));have bV:Below w.heap.size w V:=hV▸(AP _ _).alloc (AH _) _;have kV:V.heap[w.heap.size]?=some (.cells #[.int .u8 op,.int .i64 ia,.int .i64 ib,.int .i64 ic,.int .i64 im] 67 (0,0)):=hV▸Ai _ _;obtain⟨c0,c1,c2,c3,c4,lV⟩:=Fy kV;have HV:=A3 (nT ⟨op,ia,ib,ic,im⟩ h0 V);have KV:=A3 kV;have BV:=A3 bV;obtain⟨vi,MW⟩:∃v,CE ⟨op,ia,ib,ic,im⟩=v:=⟨_,rfl⟩;rw [MW] at HV;have HR:=A3 (show rW ⟨op,ia,ib,ic,im⟩=if vi=true∧((2≤op∧op≤18)∨op=20∨op=26) then ia else 0 by
  have hwr:PV ⟨op,ia,ib,ic,im⟩=(vi && (fm op.toNat).wr && decide (ia≠0)):=by unfold PV;rw [MW]
  show (if PV ⟨op,ia,ib,ic,im⟩=true then ia else 0)=_;rw [hwr];cases vi with
  | false=>simp
  | true=>
   have h30:op<30:=by
    have h:=MW;unfold CE at h;simp only [EY,DK] at h;exact h.1
   have hk2:((fm op.toNat).wr=true)↔((2≤op∧op≤18)∨op=20∨op=26):=(apH op.toNat A0).trans A0;by_cases hw:(2≤op∧op≤18)∨op=20∨op=26
   ·rw [hk2.2 hw,AE (show true=true∧_ from⟨rfl,hw⟩)]
    by_cases ha:ia=0<;>simp [ha]
   ·have:(fm op.toNat).wr=false:=by rw [←tV,hk2];exact hw
    rw [this,A9 (show ¬(true=true∧_) from fun h=>hw h.2)]
    simp)
 simp only at HV;clear bV kV MW;go_enter Tryz.func50,Tryz.ntmps50;cases vi with
 | false=>
  go_upto_region 2 with (go_at_call 80;refine HV.out.mono ?_;rintro e W1 ⟨rfl,hb1⟩);have B1:=A3 (BV.out.trans (hb1.mono BV.out.size));obtain⟨c0,c1,c2,c3,c4,l1⟩:=Fy ((hb1.block _ lV).trans KV.out);clear hb1 hV lV;have Dz:=A3 (show rW ⟨op,ia,ib,ic,im⟩=0 by rw [HR.out];simp);go_wp2_with fail;go_ret;exact⟨by rw [Dz.out];rfl,B1.out⟩
 | true=>
  go_upto_region 3 with (go_at_call 80;refine HV.out.mono ?_;rintro e W1 ⟨rfl,hb1⟩);have B1:=A3 (BV.out.trans (hb1.mono BV.out.size));obtain⟨c0,c1,c2,c3,c4,l1⟩:=Fy ((hb1.block _ lV).trans KV.out);clear hb1 hV lV;by_cases h1:2≤op∧op≤18
  ·have e1:decide (2≤op)=true:=AR h1.1
   have e2:decide (op≤18)=true:=AR h1.2;have Dz:=A3 (show rW ⟨op,ia,ib,ic,im⟩=ia by rw [HR.out];simp [h1]);clear h1;go_wp2_with fail;go_ret;exact⟨by rw [Dz.out];rfl,B1.out⟩
  obtain⟨x1,hx1⟩:∃x,decide (2≤op)=x:=⟨_,rfl⟩;have e2:x1=true→decide (op≤18)=false:=fun h=>Aq (fun h2=>h1 ⟨GQ (hx1.trans h),h2⟩);by_cases h2:op=20
  ·have Dz:=A3 (show rW ⟨op,ia,ib,ic,im⟩=ia by rw [HR.out];simp [h2])
   have e3:(op==20)=true:=by simp [h2]
   clear h1 h2;rcases x1 with _|_
   ·go_wp2_with fail
    go_ret;exact⟨by rw [Dz.out];rfl,B1.out⟩
   ·have e4:=e2 rfl
    go_wp2_with fail;go_ret;exact⟨by rw [Dz.out];rfl,B1.out⟩
  have e3:(op==20)=false:=by simpa using h2
  by_cases h3:op=26
  ·have Dz:=A3 (show rW ⟨op,ia,ib,ic,im⟩=ia by rw [HR.out];simp [h3])
   have e5:(op==26)=true:=by simp [h3]
   clear h1 h2 h3;rcases x1 with _|_
   ·go_wp2_with fail
    go_ret;exact⟨by rw [Dz.out];rfl,B1.out⟩
   ·have e4:=e2 rfl
    go_wp2_with fail;go_ret;exact⟨by rw [Dz.out];rfl,B1.out⟩
  have e5:(op==26)=false:=by simpa using h3
  have Dz:=A3 (show rW ⟨op,ia,ib,ic,im⟩=0 by rw [HR.out,A9 (fun h=>by rcases h.2 with h4|h4|h4;exact h1 h4;exact h2 h4;exact h3 h4)]);clear h1 h2 h3;rcases x1 with _|_
  ·go_wp2_with fail
   go_ret;exact⟨by rw [Dz.out];rfl,B1.out⟩
  ·have e4:=e2 rfl
   go_wp2_with fail;go_ret;exact⟨by rw [Dz.out];rfl,B1.out⟩
theorem apR (x:Int) (h0:0≤x) (h1:x<4294967296):0≤(BB x).1.op:=by
 by_cases h:(BB x).2=0
 ·obtain⟨k,hg,_⟩:=WJ h0 h
  have:=hg.op;omega
 ·unfold BB at h ⊢
  split
  ·rename_i hc
   rw [AE hc] at h;exact absurd rfl h
  ·exact JE _
open Classical in
noncomputable def Mf (L:List (List Int)) (D:List Int) (hd:Nat) (bl la:List Int) (b:Nat):Bool:=decide ((∀t∈la,Ah D t.toNat b)∧¬(b≠hd∧(b:Int)∈bl∧MG (Bj L) (fun x=>DY bl x=true) hd b))
open Classical in
theorem aqD {L:List (List Int)} {D:List Int} {hd:Nat} {bl la:List Int} {b:Nat} {e:Ending} (h:Vs ((∀t∈la,Ah D t.toNat b)∧¬(b≠hd∧(b:Int)∈bl∧MG (Bj L) (fun x=>DY bl x=true) hd b)) e):e=.returned (.bool (Mf L D hd bl la b)):=by
 obtain⟨r,rfl,hr⟩:=h;have:Mf L D hd bl la b=r:=by
  unfold Mf;rw [OI,DK];exact hr.symm
 rw [this]
theorem zK (A8:Int) (on:Bool) (s:Rs) (i:Ins):(Lh A8 on s i).wr≤s.wr+1:=by
 unfold Lh;split
 ·exact AH _
 ·omega
theorem arO (A8:Int) (on:Bool) (s:Rs) (i:Ins):(Ll A8 on s i).wr=s.wr:=by
 unfold Ll;split<;>rfl
theorem am0 (cv:Value) (FA TA NA BA CA:Option Addr) (gn fc tc nc bn bc cn cc:Nat) (N:Nat) (cd:Nat→Int) (G:List AV) (hd:Nat) (bl la:List Int) (A8:Int) (ord:List Nat) (pos:Nat→Nat) (D:List Int) (w:World) (HW:Words w cv N cd) (hG:G.length=gn) (hg5:gn≤5000)
  (HF:Ints w (.slice FA gn fc) (G.map (·.lo))) (HT:Ints w (.slice TA gn tc) (G.map (·.hi))) (HL:CO w (.slice NA gn nc) (G.map (·.nx))) (HN:NL (G.map (·.nx)) gn) (hin:∀x∈G,0≤x.lo∧x.lo≤x.hi∧x.hi≤(N:Int)) (HB:Ints w (.slice BA bn bc) bl) (H2:Ints w (.slice CA cn cc) la) (hh:hd<gn) (gr:Gr gn (Bj (G.map (·.nx))) ord pos) (it:IM gn (Bj (G.map (·.nx))) ord pos D) (hla:∀t∈la,∃u:Nat,t=(u:Int)∧u∈ord) :
  Calls Tryz.prog 16 #[cv,.agg #[.slice FA gn fc,.slice TA gn tc,.slice NA gn nc],.agg #[.int .i64 (hd:Int),.slice BA bn bc,.slice CA cn cc],.int .i64 A8] w fun e w'=>e=.returned (.tuple #[.int .i64 (Ji A8 (Fj A8 (DY bl) (Mf (G.map (·.nx)) D hd bl la) (FC cd G) gn)).1,.bool (Ji A8 (Fj A8 (DY bl) (Mf (G.map (·.nx)) D hd bl la) (FC cd G) gn)).2])∧Below w.heap.size w w':=by
 obtain⟨KA,arY,rfl,hk1,hk2,hkc⟩:=HW.at_;have hN6:=HW.le;obtain⟨V,hV,k5,k6,bV,sV⟩:=Pm w #[.slice FA gn fc,.slice TA gn tc,.slice NA gn nc] #[.int .i64 (hd:Int),.slice BA bn bc,.slice CA cn cc] 40 42;obtain⟨q5,hq5⟩:∃q,w.heap.size=q:=⟨_,rfl⟩;obtain⟨q6,hq6⟩:∃q,q5+1=q:=⟨_,rfl⟩;rw [hq5,hq6] at k6;rw [hq5] at k5;have BV:=A3 bV;have Pk:=A3 (HW.below bV);have HFV:=A3 (HF.below bV);have HTV:=A3 (HT.below bV);have MS:=A3 (HL.below bV);have Ec:=A3 (HB.below bV);have Uc:=A3 (H2.below bV);have II:=A3 HN;have GR:=A3 gr;have IT:=A3 it;have I7:=A3 hla;have Qg:=A3 hG;have Ei:=A3 hin;have Sl:=A3 HW.wd;have HKC:=A3 (show ∀p,p<N→∃cb NR,KA=some ⟨cb,NR,none⟩∧cb<V.heap.size∧V.cell? ⟨cb,NR+p,none⟩=some (.int .u32 (cd p)) from fun p hp=>by
  obtain⟨cb,NR,e1,e2,e3⟩:=hkc A0
  exact⟨cb,NR,e1,by have:=bV.size;omega,(bV.cell (p:=⟨cb,NR+p,none⟩) e2).trans (e3 p hp)⟩)
 have l5:q5<V.heap.size:=BR k5;have l6:q6<V.heap.size:=BR k6;have K5:=A3 k5;have K6:=A3 k6;have arQ:=Oo hk2;clear HW HF HT HL HN HB H2 gr it hla hG hin hkc bV k5 k6 sV;obtain⟨on,hon⟩:∃f,Mf (G.map (·.nx)) D hd bl la=f:=⟨_,rfl⟩;obtain⟨C,hC⟩:=AA (FC cd G);rw [hon,hC];have HON:=A3 hon;have HC:=A3 hC;clear hon hC;go_enter Tryz.func16,Tryz.ntmps16;go_upto_region 1 with fail;clear hV hq5 hq6;by_cases hr1:A8<10
 ·have e1:decide (A8<10)=true:=AR hr1
  have HR:=A3 (show ∀s,Ji A8 s=(0,false) from fun s=>by unfold Ji;rw [AE (.inl hr1)]);clear hr1;go_wp2_with fail;go_ret2;rw [HR.out];exact⟨rfl,BV.out⟩
 have e1:decide (A8<10)=false:=Aq hr1;by_cases hr2:13<A8
 ·have e2:decide (13<A8)=true:=AR hr2
  have HR:=A3 (show ∀s,Ji A8 s=(0,false) from fun s=>by unfold Ji;rw [AE (.inr hr2)]);clear hr1 hr2;go_wp2_with fail;go_ret2;rw [HR.out];exact⟨rfl,BV.out⟩
 have e2:decide (13<A8)=false:=Aq hr2;have DD:=A3 (Dt hr1 hr2);clear hr1 hr2;go_wp2_with fail;go_loopw [10,11,12,13] (fun a10 a11 a12 a13 wr=>∃b:Nat,b≤gn∧a13=.int .i64 (b:Int)∧a10=.int .i64 ((Fj A8 (DY bl) on C b).wr:Int)∧a11=.bool (Fj A8 (DY bl) on C b).gd∧a12=.int .i64 (Fj A8 (DY bl) on C b).le∧(Fj A8 (DY bl) on C b).wr≤b*1000000∧Below V.heap.size V wr) (fun _ _ _ a13 _=>gn - (intOf a13).toNat);case atStart=>exact⟨0,by omega,rfl,rfl,rfl,rfl,by show 0≤0*1000000;omega,AP _ _⟩
 case round=>
  clear e1 e2;obtain⟨b,hb,rfl,rfl,rfl,rfl,hwr,J8⟩:=hrel;obtain⟨w8,hw8⟩:∃w8:World,w8=wr:=⟨_,rfl⟩;subst hw8;have HW:=A3 hwr;have Bi:=A3 J8;have s8:=J8.size;have k5:=(J8.block q5 l5).trans K5.out;have k6:=(J8.block q6 l6).trans K6.out;have d0:w8.cell? ⟨q5,0,none⟩=some (.slice FA gn fc):=by simp [World.cell?,k5]
  have d1:w8.cell? ⟨q5,1,none⟩=some (.slice TA gn tc):=by simp [World.cell?,k5]
  have d2:w8.cell? ⟨q5,2,none⟩=some (.slice NA gn nc):=by simp [World.cell?,k5]
  have u1:w8.cell? ⟨q6,1,none⟩=some (.slice BA bn bc):=by simp [World.cell?,k6]
  have k5w:q5<w8.heap.size:=by omega
  have k6w:q6<w8.heap.size:=by omega
  clear hwr J8 k5 k6;by_cases hlt:b<gn
  ·have dl:decide ((b:Int)<(gn:Int))=true:=AR A0
   have db:(b:Int)<(gn:Int):=by omega
   obtain⟨S,hS⟩:=AA (Fj A8 (DY bl) on C b);have HS:=A3 hS;rw [hS];rw [hS] at HW;have XJ:=A3 (show Fj A8 (DY bl) on C (b+1)=if DY bl b=true then FZ A8 (on b) S (C.getD b []) else S by rw [oP,HS.out];rfl);have N7:=A3 (mV (.slice BA bn bc) bl (b:Int) w8 (Ec.out.below Bi.out));clear hS;by_cases hib:(b:Int)∈bl;case neg=>
    rw [Aq hib] at N7;have IK:=A3 (show Fj A8 (DY bl) on C (b+1)=S by rw [XJ.out,A9 (fun h=>hib (QO.1 h))]);obtain⟨wr,gd,le⟩:=S;go_wp2_with (go_at_call 26;refine N7.out.mono ?_;rintro e w' ⟨rfl,rfl⟩);go_roundw;case rel=>exact⟨b+1,by omega,by go_num,by rw [IK.out],by rw [IK.out],by rw [IK.out],by rw [IK.out];exact EM HW.out A0,Bi.out⟩
    case measure=>exact Aa
   rw [AR hib] at N7;have IK:=A3 (show Fj A8 (DY bl) on C (b+1)=FZ A8 (on b) S (C.getD b []) by rw [XJ.out,AE (QO.2 hib)]);obtain⟨x,hx⟩:∃x,G[b]?=some x:=⟨_,Aj (by rw [Qg.out];exact hlt)⟩;obtain⟨i1,i2,i3⟩:=Ei.out x (Bf hx);obtain⟨f,hf⟩:∃f:Nat,x.lo=(f:Int):=⟨x.lo.toNat,by omega⟩;obtain⟨t,ht⟩:∃t:Nat,x.hi=(t:Int):=⟨x.hi.toNat,by omega⟩;have hft:f≤t:=by omega
   have htN:t≤N:=by omega
   obtain⟨s1,fb,fo,hs1,rfl,hfb,c1⟩:=Ints.at_ (l:=G.map (·.lo)) (A:=FA) (cap:=fc) (by rw [ED,Qg.out];exact HFV.out) Bi.out (j:=b) (by rw [ED,Qg.out];exact hlt);obtain rfl:x.lo=s1:=by rw [Cr,hx] at hs1;simpa using hs1
   rw [hf] at c1;have HTO:=A3 (show ∃tb Rk,TA=some ⟨tb,Rk,none⟩∧tb<V.heap.size∧V.cell? ⟨tb,Rk+b,none⟩=some (.int .i64 (t:Int)) by
    obtain⟨s2,tb,Rk,hs2,e1,htb,c2⟩:=Ints.at_ (l:=G.map (·.hi)) (A:=TA) (cap:=tc) (by rw [ED,Qg.out];exact HTV.out) (AP _ _) (j:=b) (by rw [ED,Qg.out];exact hlt);obtain rfl:x.hi=s2:=by rw [Cr,hx] at hs2;simpa using hs2
    rw [ht] at c2
    exact⟨tb,Rk,e1,htb,c2⟩)
   have PC:=A3 (show C.getD b []=(List.range (t - f)).map fun j=>(BB (cd (f+j))).1 by
    rw [←HC.out];unfold FC;rw [List.getD,Cr,Ev (by rw [Qg.out];exact hlt)];show DW cd G b=_;unfold DW codeFrom;rw [show G.getD b ⟨0,0,[]⟩=x by simp [List.getD,hx],hf,ht,show ((t:Int) - (f:Int)).toNat=t - f by omega];refine Q4 fun j _=>?_;unfold Ak
    rw [show ((f:Int)+(j:Int)).toNat=f+j by omega])
   have kfb:fb<w8.heap.size:=by omega
   have Ms:=A3 (show ∀W,Below V.heap.size V W→Calls Tryz.prog 51 #[.agg #[.slice (some ⟨fb,fo,none⟩) gn fc,.slice TA gn tc,.slice NA gn nc],.agg #[.int .i64 (hd:Int),.slice BA bn bc,.slice CA cn cc],.int .i64 (b:Int)] W fun e w'=>e=.returned (.bool (on b))∧Below W.heap.size W w' from fun W h=>
    (aoC (some ⟨fb,fo,none⟩) TA gn fc gn tc (.slice NA gn nc) (G.map (·.nx)) gn hd (.slice BA bn bc) (.slice CA cn cc) bl la b ord pos D W (MS.out.below h) II.out (Ec.out.below h) (Uc.out.below h) hlt hh GR.out IT.out I7.out).mono fun e w' ⟨h1,h2⟩=>⟨by rw [aqD h1,HON.out],h2⟩)
   obtain⟨ob,Ce⟩:∃o,on b=o:=⟨_,rfl⟩;rw [Ce] at Ms IK;have OX:=A3 (show FZ A8 ob S ((C.getD b []).take (f - f))=S by rw [Nat.sub_self,List.take_zero];rfl);clear hx hs1 i1 i2 i3 hf ht Ce hib;go_upto_region 9 with (go_at_call 26;refine N7.out.mono ?_;rintro e w' ⟨rfl,rfl⟩);clear d0 d1 d2 u1 c1 N7;go_loopw [10,11,12,14] (fun a10 a11 a12 a14 wr=>∃p:Nat,f≤p∧p≤t∧a14=.int .i64 (p:Int)∧a10=.int .i64 ((FZ A8 ob S ((C.getD b []).take (p - f))).wr:Int)∧a11=.bool (FZ A8 ob S ((C.getD b []).take (p - f))).gd∧a12=.int .i64 (FZ A8 ob S ((C.getD b []).take (p - f))).le∧(FZ A8 ob S ((C.getD b []).take (p - f))).wr≤b*1000000+(p - f)∧Below V.heap.size V wr) (fun _ _ _ a14 _=>t - (intOf a14).toNat);case atStart=>exact⟨f,AH _,hft,rfl,by rw [OX.out],by rw [OX.out],by rw [OX.out],by rw [OX.out];exact EM HW.out A0,Bi.out⟩
   case round=>
    clear HW Bi OX k5w k6w kfb s8;obtain⟨p,hfp,hpt,rfl,rfl,rfl,rfl,hwr,J8⟩:=hrel;obtain⟨w9,hw9⟩:∃w9:World,w9=wr:=⟨_,rfl⟩;subst hw9;have HW:=A3 hwr;have Bi:=A3 J8;have s9:=J8.size;have k5:=(J8.block q5 l5).trans K5.out;have d0:w9.cell? ⟨q5,0,none⟩=some (.slice (some ⟨fb,fo,none⟩) gn fc):=by simp [World.cell?,k5]
    have d1:w9.cell? ⟨q5,1,none⟩=some (.slice TA gn tc):=by simp [World.cell?,k5]
    have k5w:q5<w9.heap.size:=by omega
    obtain⟨tb,Rk,hTA,htb,ct⟩:=HTO.out;subst hTA;have c2:=(J8.cell (p:=⟨tb,Rk+b,none⟩) htb).trans ct;have ktb:tb<w9.heap.size:=by omega
    clear hwr J8 k5 ct;by_cases ari:p<t
    ·have dp:decide ((p:Int)<(t:Int))=true:=AR A0
     have dpN:(p:Int)<(N:Int):=by omega
     obtain⟨cb,NR,rfl,hcb,ce⟩:=HKC.out p A0;have c3:=(Bi.out.cell (p:=⟨cb,NR+p,none⟩) hcb).trans ce;have kcb:cb<w9.heap.size:=by omega
     have hwd:=Sl.out p A0;have I1:=A3 (anM (cd p) hwd.1 hwd.2 w9);have Fq:=A3 (apR (cd p) hwd.1 hwd.2);obtain⟨I,hI⟩:=AA ((BB (cd p)).1);have HST:=A3 (show FZ A8 ob S ((C.getD b []).take (p+1 - f))=Ll A8 ob (Lh A8 ob (FZ A8 ob S ((C.getD b []).take (p - f))) I) I by
      rw [show p+1 - f=(p - f)+1 by omega];refine aqg A8 ob S ?_;rw [PC.out,Cr,Ev A0];show some (BB (cd (f+(p - f)))).1=some I
      rw [show f+(p - f)=p by omega,hI])
     rw [hI] at I1 Fq;obtain⟨T,hT⟩:=AA (FZ A8 ob S ((C.getD b []).take (p - f)));rw [hT] at HST HW;rw [hT];obtain⟨dd,hdd⟩:∃q,decide ((BB (cd p)).2=0)=q:=⟨_,rfl⟩;rw [hdd] at I1;obtain⟨op,ia,ib,ic,im⟩:=I;simp only [Ins.val] at I1;simp only at Fq;clear hI hT hdd ce hwd;go_upto_region 12 with (go_at_call 49;refine I1.out.mono ?_;rintro e eO ⟨rfl,Mz⟩);obtain⟨b15,lW⟩:∃q,eO.heap.size=q:=⟨_,rfl⟩;obtain⟨U,hU⟩:=AA (eO.alloc (.cells #[.int .u8 op,.int .i64 ia,.int .i64 ib,.int .i64 ic,.int .i64 im] 67));rw [hU];have bU:Below eO.heap.size eO U:=hU▸(AP _ _).alloc (AH _) _;have kU:U.heap[b15]?=some (.cells #[.int .u8 op,.int .i64 ia,.int .i64 ib,.int .i64 ic,.int .i64 im] 67 (0,0)):=by rw [←lW,← hU];exact Ai _ _
     rw [lW];have J7:=A3 (Bi.out.trans ((Mz.trans (bU.mono Mz.size)).mono Bi.out.size));have KU:=A3 kU;have mz:=A3 (acu ⟨op,ia,ib,ic,im⟩ Fq.out U);simp only at mz;clear hU bU kU Mz lW d0 d1 c2 c3 dp dpN I1 k5w ktb kcb;obtain⟨T1,dL⟩:=AA (Lh A8 ob T ⟨op,ia,ib,ic,im⟩);have Tp:=A3 dL;rw [dL] at HST;have HW1:=A3 (show T1.wr≤T.wr+1 by rw [←dL];exact zK _ _ _ _);clear dL;obtain⟨g0,g1,g2,g3,g4,lU⟩:=Fy KU.out;have sU:=J7.out.size;have x5U:=(J7.out.block q5 l5).trans K5.out;have x6U:=(J7.out.block q6 l6).trans K6.out;have n5:q5<U.heap.size:=by omega
     have n6:q6<U.heap.size:=by omega
     obtain⟨rw1,hrw⟩:∃q,rW ⟨op,ia,ib,ic,im⟩=q:=⟨_,rfl⟩;rw [hrw] at mz;go_upto_if 60 with (go_at_call 50;refine mz.out.mono ?_;rintro e Rj ⟨rfl,Kh⟩);have m0:=(Kh.cell (p:=⟨b15,0,none⟩) lU).trans g0;have m1:=(Kh.cell (p:=⟨b15,1,none⟩) lU).trans g1;have m2:=(Kh.cell (p:=⟨b15,2,none⟩) lU).trans g2;have m4:=(Kh.cell (p:=⟨b15,4,none⟩) lU).trans g4;have mU:=Cq lU Kh.size;have x5:=(Kh.block q5 n5).trans x5U;have x6:=(Kh.block q6 n6).trans x6U;have y0:Rj.cell? ⟨q5,0,none⟩=some (.slice (some ⟨fb,fo,none⟩) gn fc):=by simp [World.cell?,x5]
     have y1:Rj.cell? ⟨q5,1,none⟩=some (.slice (some ⟨tb,Rk,none⟩) gn tc):=by simp [World.cell?,x5]
     have y2:Rj.cell? ⟨q5,2,none⟩=some (.slice NA gn nc):=by simp [World.cell?,x5]
     have z0:Rj.cell? ⟨q6,0,none⟩=some (.int .i64 (hd:Int)):=by simp [World.cell?,x6]
     have z1:Rj.cell? ⟨q6,1,none⟩=some (.slice BA bn bc):=by simp [World.cell?,x6]
     have z2:Rj.cell? ⟨q6,2,none⟩=some (.slice CA cn cc):=by simp [World.cell?,x6]
     have n5':=Cq n5 Kh.size;have n6':=Cq n6 Kh.size;have Fl:=A3 (J7.out.trans (Kh.mono sU));have s11:=Fl.out.size;clear Kh x5 x6 x5U x6U n5 n6 g0 g1 g2 g3 g4 lU sU;go_cut [10,11] from 60 to 82 (fun a10 a11 wx=>a10=.int .i64 (T1.wr:Int)∧a11=.bool T1.gd∧Below Rj.heap.size Rj wx)
     case first=>
      by_cases hw:rw1=A8;case neg=>
       have e1:(rw1==A8)=false:=by simpa using hw
       have HQ:=A3 (show T1=T by rw [←Tp.out];unfold Lh;rw [hrw,A9 hw]);clear hw hrw;go_wp2_with (go_at_call 51;refine (Ms.out _ Fl.out).mono ?_;rintro e MI ⟨rfl,QM⟩);go_meet;exact⟨by rw [HQ.out],by rw [HQ.out],AP _ _⟩
      have e1:(rw1==A8)=true:=by simpa using hw
      have w1:IntKind.i64.wrap ((T.wr:Int)+1)=(T.wr:Int)+1:=GN _ (by have:=HW.out;omega);have cg:=A3 (show T1=⟨T.wr+1,decide (op=15) && (decide (ib=A8) && (decide (im=1) && ob)),T.le⟩ by rw [←Tp.out];unfold Lh;rw [hrw,AE hw]);clear hw hrw;by_cases h1:op=15;case neg=>
       have e2:(op==15)=false:=by simpa using h1
       have HQ:=A3 (show T1=⟨T.wr+1,false,T.le⟩ by rw [cg.out,Aq h1];rfl);clear h1;go_wp2_with (go_at_call 51;refine (Ms.out _ Fl.out).mono ?_;rintro e MI ⟨rfl,QM⟩);go_meet;exact⟨by rw [HQ.out];rfl,by rw [HQ.out],AP _ _⟩
      have e2:(op==15)=true:=by simpa using h1
      by_cases h2:ib=A8;case neg=>
       have e3:(ib==A8)=false:=by simpa using h2
       have HQ:=A3 (show T1=⟨T.wr+1,false,T.le⟩ by rw [cg.out,AR h1,Aq h2];rfl);clear h1 h2;go_wp2_with (go_at_call 51;refine (Ms.out _ Fl.out).mono ?_;rintro e MI ⟨rfl,QM⟩);go_meet;exact⟨by rw [HQ.out];rfl,by rw [HQ.out],AP _ _⟩
      have e3:(ib==A8)=true:=by simpa using h2
      by_cases h3:im=1;case neg=>
       have e4:(im==1)=false:=by simpa using h3
       have HQ:=A3 (show T1=⟨T.wr+1,false,T.le⟩ by rw [cg.out,AR h1,AR h2,Aq h3];rfl);clear h1 h2 h3;go_wp2_with (go_at_call 51;refine (Ms.out _ Fl.out).mono ?_;rintro e MI ⟨rfl,QM⟩);go_meet;exact⟨by rw [HQ.out];rfl,by rw [HQ.out],AP _ _⟩
      have e4:(im==1)=true:=by simpa using h3
      have HQ:=A3 (show T1=⟨T.wr+1,ob,T.le⟩ by rw [cg.out,AR h1,AR h2,AR h3];rfl);clear h1 h2 h3;go_wp2_with (go_at_call 51;refine (Ms.out _ Fl.out).mono ?_;rintro e MI ⟨rfl,QM⟩);go_meet;exact⟨by rw [HQ.out];rfl,by rw [HQ.out],QM⟩
     obtain⟨rfl,rfl,CV⟩:=hcut;obtain⟨OC,eC⟩:∃E:World,E=wc:=⟨_,rfl⟩;subst eC;clear y0 y1 y2 z0 z1 z2;have FP:=A3 (Fl.out.trans (CV.mono s11));have hle:T1.le=T.le:=by
      rw [←Tp.out];unfold Lh;split<;>rfl
     have f0:=(CV.cell (p:=⟨b15,0,none⟩) mU).trans m0;have f1:=(CV.cell (p:=⟨b15,1,none⟩) mU).trans m1;have f4:=(CV.cell (p:=⟨b15,4,none⟩) mU).trans m4;have l15:=Cq mU CV.size;have x5:=(FP.out.block q5 l5).trans K5.out;have x6:=(FP.out.block q6 l6).trans K6.out;have y0:OC.cell? ⟨q5,0,none⟩=some (.slice (some ⟨fb,fo,none⟩) gn fc):=by simp [World.cell?,x5]
     have y1:OC.cell? ⟨q5,1,none⟩=some (.slice (some ⟨tb,Rk,none⟩) gn tc):=by simp [World.cell?,x5]
     have y2:OC.cell? ⟨q5,2,none⟩=some (.slice NA gn nc):=by simp [World.cell?,x5]
     have z0:OC.cell? ⟨q6,0,none⟩=some (.int .i64 (hd:Int)):=by simp [World.cell?,x6]
     have z1:OC.cell? ⟨q6,1,none⟩=some (.slice BA bn bc):=by simp [World.cell?,x6]
     have z2:OC.cell? ⟨q6,2,none⟩=some (.slice CA cn cc):=by simp [World.cell?,x6]
     have n5:q5<OC.heap.size:=BR x5;have n6:q6<OC.heap.size:=BR x6;have VS:=A3 (show T1.wr≤b*1000000+(p+1 - f) by have:=HW.out;have:=HW1.out;omega);have G0:=A3 hle;obtain⟨tl,htl⟩:∃q,T.le=q:=⟨_,rfl⟩;rw [htl] at G0 ⊢;clear CV x5 x6 hle htl m0 m1 m2 m4 mU n5' n6' hrw;by_cases h1:op=25;case neg=>
      have e1:(op==25)=false:=by simpa using h1
      have HZ:=A3 (show FZ A8 ob S ((C.getD b []).take (p+1 - f))=T1 by rw [HST.out];unfold Ll;rw [A9 (fun h=>h1 h.1)]);clear h1;go_wp2_with (go_at_call 51;refine (Ms.out _ FP.out).mono ?_;rintro e TZ ⟨rfl,DX⟩;have m4:=(DX.cell (p:=⟨b15,4,none⟩) l15).trans f4;have m15:=Cq l15 DX.size;have Qe:=A3 (FP.out.trans (DX.mono FP.out.size));clear DX);go_roundw;case rel=>exact⟨p+1,by omega,by omega,by go_num,by rw [HZ.out],by rw [HZ.out],by rw [HZ.out,G0.out],by rw [HZ.out];exact VS.out,FP.out⟩
      case measure=>exact Aa
     have e1:(op==25)=true:=by simpa using h1
     by_cases h2:ia=A8;case neg=>
      have e2:(ia==A8)=false:=by simpa using h2
      have HZ:=A3 (show FZ A8 ob S ((C.getD b []).take (p+1 - f))=T1 by rw [HST.out];unfold Ll;rw [A9 (fun h=>h2 h.2.1)]);clear h1 h2;go_wp2_with (go_at_call 51;refine (Ms.out _ FP.out).mono ?_;rintro e TZ ⟨rfl,DX⟩;have m4:=(DX.cell (p:=⟨b15,4,none⟩) l15).trans f4;have m15:=Cq l15 DX.size;have Qe:=A3 (FP.out.trans (DX.mono FP.out.size));clear DX);go_roundw;case rel=>exact⟨p+1,by omega,by omega,by go_num,by rw [HZ.out],by rw [HZ.out],by rw [HZ.out,G0.out],by rw [HZ.out];exact VS.out,FP.out⟩
      case measure=>exact Aa
     have e2:(ia==A8)=true:=by simpa using h2
     cases ob with
     | false=>
      have HZ:=A3 (show FZ A8 false S ((C.getD b []).take (p+1 - f))=T1 by rw [HST.out];unfold Ll;rw [A9 (fun h=>by have:=h.2.2.1;cases this)]);clear h1 h2;go_wp2_with (go_at_call 51;refine (Ms.out _ FP.out).mono ?_;rintro e TZ ⟨rfl,DX⟩;have m4:=(DX.cell (p:=⟨b15,4,none⟩) l15).trans f4;have m15:=Cq l15 DX.size;have Qe:=A3 (FP.out.trans (DX.mono FP.out.size));clear DX);go_roundw;case rel=>exact⟨p+1,by omega,by omega,by go_num,by rw [HZ.out],by rw [HZ.out],by rw [HZ.out,G0.out],by rw [HZ.out];exact VS.out,Qe.out⟩
      case measure=>exact Aa
     | true=>
      by_cases h3:tl=0
      ·have e3:(tl==0)=true:=by simpa using h3
       have HZ:=A3 (show FZ A8 true S ((C.getD b []).take (p+1 - f))=⟨T1.wr,T1.gd,im⟩ by rw [HST.out];unfold Ll;rw [AE ⟨h1,h2,rfl,.inl (by rw [G0.out];exact h3)⟩]);clear h1 h2 h3;go_wp2_with (go_at_call 51;refine (Ms.out _ FP.out).mono ?_;rintro e TZ ⟨rfl,DX⟩;have m4:=(DX.cell (p:=⟨b15,4,none⟩) l15).trans f4;have m15:=Cq l15 DX.size;have Qe:=A3 (FP.out.trans (DX.mono FP.out.size));clear DX);go_roundw;case rel=>exact⟨p+1,by omega,by omega,by go_num,by rw [HZ.out],by rw [HZ.out],by rw [HZ.out],by rw [HZ.out];exact VS.out,Qe.out⟩
       case measure=>exact Aa
      have e3:(tl==0)=false:=by simpa using h3
      by_cases h4:im<tl
      ·have e4:decide (im<tl)=true:=AR h4
       have HZ:=A3 (show FZ A8 true S ((C.getD b []).take (p+1 - f))=⟨T1.wr,T1.gd,im⟩ by rw [HST.out];unfold Ll;rw [AE ⟨h1,h2,rfl,.inr (by rw [G0.out];exact h4)⟩]);clear h1 h2 h3 h4;go_wp2_with (go_at_call 51;refine (Ms.out _ FP.out).mono ?_;rintro e TZ ⟨rfl,DX⟩;have m4:=(DX.cell (p:=⟨b15,4,none⟩) l15).trans f4;have m15:=Cq l15 DX.size;have Qe:=A3 (FP.out.trans (DX.mono FP.out.size));clear DX);go_roundw;case rel=>exact⟨p+1,by omega,by omega,by go_num,by rw [HZ.out],by rw [HZ.out],by rw [HZ.out],by rw [HZ.out];exact VS.out,Qe.out⟩
       case measure=>exact Aa
      ·have e4:decide (im<tl)=false:=Aq h4
       have HZ:=A3 (show FZ A8 true S ((C.getD b []).take (p+1 - f))=T1 by rw [HST.out];unfold Ll;rw [A9 (fun h=>by rcases h.2.2.2 with h5|h5;exact h3 (G0.out▸h5);exact h4 (G0.out▸h5))]);clear h1 h2 h3 h4;go_wp2_with (go_at_call 51;refine (Ms.out _ FP.out).mono ?_;rintro e TZ ⟨rfl,DX⟩;have m4:=(DX.cell (p:=⟨b15,4,none⟩) l15).trans f4;have m15:=Cq l15 DX.size;have Qe:=A3 (FP.out.trans (DX.mono FP.out.size));clear DX);go_roundw;case rel=>exact⟨p+1,by omega,by omega,by go_num,by rw [HZ.out],by rw [HZ.out],by rw [HZ.out,G0.out],by rw [HZ.out];exact VS.out,Qe.out⟩
       case measure=>exact Aa
    ·obtain rfl:t=p:=by omega
     have dp:decide ((t:Int)<(t:Int))=false:=by simp
     have O4:=A3 (show FZ A8 ob S ((C.getD b []).take (t - f))=Fj A8 (DY bl) on C (b+1) by
      rw [IK.out,Gq (by rw [PC.out];simp)])
     rw [O4.out] at HW;rw [O4.out];have HW2:=A3 (show (Fj A8 (DY bl) on C (b+1)).wr≤(b+1)*1000000 from EM HW.out A0);clear O4 HW;go_wp2_with fail;go_roundw;case rel=>exact⟨b+1,by omega,by go_num,rfl,rfl,rfl,HW2.out,Bi.out⟩
     case measure=>exact Aa
  ·obtain rfl:gn=b:=by omega
   have dl:decide ((gn:Int)<(gn:Int))=false:=by simp
   obtain⟨⟨sw,sg,sl⟩,hS⟩:∃S,Fj A8 (DY bl) on C gn=S:=⟨_,rfl⟩;have LZ:=A3 (show Ji A8 (Fj A8 (DY bl) on C gn)=(sl,decide (sw=1) && (sg && decide (0<sl))) by rw [hS];unfold Ji;rw [A9 (fun h=>by have:=DD.out;omega)]);rw [hS];clear hS;by_cases h1:sw=1
   ·have e1:((sw:Int)==1)=true:=by simp [h1]
    have e3:decide (sw=1)=true:=AR h1;rcases sg with _|_
    ·clear h1
     go_wp2_with fail;go_ret2;exact⟨by rw [LZ.out];simp [e3],BV.out.trans (Bi.out.mono BV.out.size)⟩
    ·clear h1
     go_wp2_with fail;go_ret2;exact⟨by rw [LZ.out];simp [e3],BV.out.trans (Bi.out.mono BV.out.size)⟩
   ·have e1:((sw:Int)==1)=false:=by simp;omega
    have e3:decide (sw=1)=false:=Aq h1;clear h1;go_wp2_with fail;go_ret2;exact⟨by rw [LZ.out];simp [e3],BV.out.trans (Bi.out.mono BV.out.size)⟩
end
section
theorem mh (G:List AV):Bj (G.map (·.nx))=Ar G:=by
 funext b;unfold Bj Ar;congr 1
 by_cases hb:b<G.length
 ·simp [List.getD,hb]
 ·simp [List.getD,E0 (by omega:G.length≤b)]
theorem rz (n:Nat) (bl:List Int) {b:Nat} (hb:b<n):(EH n bl).getD b false=DY bl b:=by
 unfold EH DY;simp [List.getD,hb]
theorem zH {n:Nat} {bl:List Int} (h:∀t∈bl,0≤t∧t<(n:Int)):sn (EH n bl)=fun x=>DY bl x=true:=by
 funext x;unfold sn;by_cases hx:x<n
 ·rw [rz n bl hx]
 ·have h1:(EH n bl).getD x false=false:=by simp [EH,List.getD,E0 (show (List.range n).length≤x by simp;omega)]
  rw [h1];refine propext ⟨fun h=>UD,fun h2=>?_⟩;have:=h _ (QO.1 h2);omega
open Classical in
theorem ar2 {L:List (List Int)} {D:List Int} {hd:Nat} {bl la:List Int} {b:Nat}:Mf L D hd bl la b=true↔(∀t∈la,Ah D t.toNat b)∧¬(b≠hd∧(b:Int)∈bl∧MG (Bj L) (fun x=>DY bl x=true) hd b):=by
 unfold Mf;simp only [DK]
theorem ap9 {n:Nat} {cd:Nat→Int} {G:List AV} (hw:∀i,i<n→0≤cd i∧cd i<4294967296) (hl:∀x∈G,0≤x.lo) (h:Lu n cd G):∀l∈FC cd G,∀i∈l,∃k,Good i k:=by
 intro l hl' i hi;obtain⟨k,hk,rfl⟩:=Bx.1 hl';have hk:=J9.1 hk;unfold DW codeFrom at hi;obtain⟨j,hj,rfl⟩:=Bx.1 hi;have hj:=J9.1 hj;have e:G.getD k ⟨0,0,[]⟩=G[k]:=by simp [List.getD,Aj hk]
 rw [e] at hj ⊢;have h0:=hl _ (Cn hk);obtain⟨a,ha⟩:∃a:Nat,(G[k]).lo+(j:Int)=(a:Int):=⟨((G[k]).lo+(j:Int)).toNat,by omega⟩;rw [ha];have h1:=h _ (Cn hk) a A0 A0;obtain⟨q,hq,_⟩:=WJ (hw a h1.1).1 h1.2;unfold Ak;rw [Dk];exact⟨q,hq⟩
theorem aoK {n:Nat} {cd:Nat→Int} {G:List AV} {D:List Int} (hw:∀i,i<n→0≤cd i∧cd i<4294967296) (hl:∀x∈G,0≤x.lo) (hc:Lu n cd G) (hD:M5 G=D) (x:Lp) (hbl:∀t∈x.bl,0≤t∧t<(G.length:Int)) (A8:Int) :
  (Ji A8 (Fj A8 (DY x.bl) (Mf (G.map (·.nx)) D x.h.toNat x.bl x.la) (FC cd G) G.length)).2=(Dr cd G x A8).2∧((Dr cd G x A8).2=true→(Ji A8 (Fj A8 (DY x.bl) (Mf (G.map (·.nx)) D x.h.toNat x.bl x.la) (FC cd G) G.length)).1=(Dr cd G x A8).1)∧((Dr cd G x A8).2=false→(Dr cd G x A8).1=0):=by
 unfold Dr;by_cases hr:A8<10∨13<A8
 ·unfold Ji Io
  rw [AE hr,AE hr];exact⟨rfl,fun _=>rfl,fun _=>rfl⟩
 ·refine (Jy.all A0 A0 (ap9 hw hl hc) (fun b hb=>rz _ _ (by rw [XY] at hb;exact hb)) (fun b hb hin i hi Ge=>?_) G.length (by rw [XY];exact AH _)).res
  rw [XY] at hb;have hrel:(FR cd G).getD b false=true:=by
   unfold FR;have e:(FC cd G)[b]?=some ((FC cd G).getD b []):=by simp [List.getD,Aj (show b<(FC cd G).length by rw [XY];exact hb)]
   rw [List.getD,Cr,e];exact mj.2 ⟨i,hi,Ge⟩
  have e1:(Uj cd G x).getD b false=pB G (FR cd G) (M5 G) x.h.toNat x.bl (x.la.map Int.toNat) G.length b:=by
   unfold Uj Fb;simp [List.getD,hb]
  rw [e1,OI,UM,ar2,hD,mh];unfold My;rw [zH hbl];have GU:=QO.1 hin;constructor
  ·rintro⟨-,-,-,h3,h4⟩
   exact⟨fun t ht=>h3 _ (Bx.2 ⟨t,ht,rfl⟩),fun h=>h4 ⟨h.1,h.2.2⟩⟩
  ·rintro⟨h3,h4⟩
   refine⟨hb,GU,hrel,fun l hl'=>?_,fun h=>h4 ⟨h.1,GU,h.2⟩⟩;obtain⟨t,ht,rfl⟩:=Bx.1 hl';exact h3 t ht
end
end Go.Proofs.YtlmgkipmfgijiaaGreatDoor
