/-
  What is proved here: parts dAw, dAw2, dLw, gR04, gR04b, gR04c, lCnP, dRch, dDmr, dTrr, rCy, rOn.
-/
import Derived.Test.YtlmgkipmfgijiaaGreatDoorVa
import Derived.Test.YtlmgkipmfgijiaaGreatDoorVq
import Derived.Test.YtlmgkipmfgijiaaGreatDoorVb
import Derived.Laws.EntriesVeiled
import Derived.Test.YtlmgkipmfgijiaaGreatDoorVc
import Derived.Test.YtlmgkipmfgijiaaGreatDoorVp
import Derived.Test.YtlmgkipmfgijiaaGreatDoorVo
import Derived.Test.YtlmgkipmfgijiaaGreatDoorVe
import Derived.BigQuiet
import Derived.Deep.RegionHeld3
namespace Go.Proofs.YtlmgkipmfgijiaaGreatDoor
set_option linter.unusedVariables false
set_option linter.unusedSimpArgs false
set_option maxRecDepth 100000
set_option maxHeartbeats 8000000
open Go.RowKit
def dQ (n:Nat) (AU:List CP) (sh:Int):Prop:=n≤90∧AU.length≤4∧sh≤64
instance (n:Nat) (AU:List CP) (sh:Int):Decidable (dQ n AU sh):=by unfold dQ;infer_instance
def VE (n:Nat) (AU:List CP) (sh:Int):Int:=if dQ n AU sh then 1 else 0
theorem aqs (cv ev:Value) (sh lk:Int) (n:Nat) (cd:Nat→Int) (AU:List CP) (w:World) (HW:Mr w cv n cd) (HE:Il w ev AU) :
  Calls Tryz.prog 11 #[.agg #[cv,ev,.int .i64 sh,.int .i64 lk]] w fun e w'=>e=.returned (.int .i64 (VE n AU sh))∧Below w.heap.size w w':=by
 obtain⟨A,cap,rfl,hc1,hc2,-⟩:=HW.at_;obtain⟨EA,Cz,rfl,he1,he2,-⟩:=HE.at_;have h63:AU.length≤2 ^ 63 - 1:=by unfold maxLen at he2;omega
 have h64:n≤2 ^ 63 - 1:=by unfold maxLen at hc2;omega
 obtain⟨V,hV⟩:=AA (w.alloc (.cells #[.slice A n cap,.slice EA AU.length Cz,.int .i64 sh,.int .i64 lk] 25));have k0:V.heap[w.heap.size]?=some (.cells #[.slice A n cap,.slice EA AU.length Cz,.int .i64 sh,.int .i64 lk] 25 (0,0)):=hV▸Ai _ _;obtain⟨y0,y1,y2,y3,y4⟩:=Ep k0;have BV:=A3 (show Below w.heap.size w V from hV▸(AP _ _).alloc (AH _) _);obtain⟨m,hm⟩:=AA AU.length;obtain⟨r,hr⟩:=AA (VE n AU sh);rw [hr];have HR:=A3 (show r=if n≤90∧m≤4∧sh≤64 then 1 else 0 by rw [←hr,← hm];rfl);rw [hm] at y1 h63 hV he1;rw [hm];clear k0 HW HE hr hm he2 hc2;go_enter Tryz.func11,Tryz.ntmps11;by_cases h1:n≤90
 ·have d1:decide (90<(n:Int))=false:=Aq A0
  have d1':decide (90<n)=false:=Aq A0;by_cases h2:m≤4
  ·have d2:decide (4<(m:Int))=false:=Aq A0
   have d2':decide (4<m)=false:=Aq A0;by_cases h3:sh≤64
   ·have d3:decide (64<sh)=false:=Aq A0
    have HF:=A3 (show r=1 by rw [HR.out,AE ⟨h1,h2,h3⟩]);clear h1 h2 h3;go_wp2_with fail;go_ret;exact⟨by rw [HF.out];rfl,BV.out⟩
   ·have d3:decide (64<sh)=true:=AR A0
    have HF:=A3 (show r=0 by rw [HR.out,A9 (fun h=>h3 h.2.2)]);clear h1 h2 h3;go_wp2_with fail;go_ret;exact⟨by rw [HF.out];rfl,BV.out⟩
  ·have d2:decide (4<(m:Int))=true:=AR A0
   have d2':decide (4<m)=true:=AR A0;have HF:=A3 (show r=0 by rw [HR.out,A9 (fun h=>h2 h.2.1)]);clear h1 h2;go_wp2_with fail;go_ret;exact⟨by rw [HF.out];rfl,BV.out⟩
 ·have d1:decide (90<(n:Int))=true:=AR A0
  have d1':decide (90<n)=true:=AR A0;have HF:=A3 (show r=0 by rw [HR.out,A9 (fun h=>h1 h.1)]);clear h1;go_wp2_with fail;go_ret;exact⟨by rw [HF.out];rfl,BV.out⟩
theorem aqF {w:World} {B:Nat} {A:Option Addr} {cap:Nat} (h:w.ownsRow B 70 1 (.slice A 6 cap) 6 (Jl (SJ.map fun i=>(encI i).1))):Words w (.slice A 6 cap) 6 Ap:=
 xN (ws:=bsC) h AK anQ
theorem anv {w:World} {e:Ending} (h:gT w 6 Ap [⟨L9,0,6,0⟩] 0 0 0 e):∃(A A' LA S2 IA DA:Option Addr) (c c' lc rc ic dn dc:Nat),e=.returned (.tuple #[.agg #[.slice A 3 c,.slice A' 3 c'],.slice LA 1 lc,.agg #[.slice S2 3 rc,.slice IA 3 ic,.slice DA dn dc],.bool true])∧Dc w (.slice A 3 c) Au∧CO w (.slice A' 3 c') J0∧Ih w (.slice LA 1 lc) [FK]∧Ho w (.slice S2 3 rc) [true,true,true]∧3≤ic∧ic≤maxLen:=by
 obtain⟨k,en,G,P,bv,pv,lv,rv,iv,dv,D,L,s,hk,hg,hA,he⟩:=h;obtain rfl:k=0:=by omega
 obtain rfl:(⟨L9,0,6,0⟩:CP)=en:=by have:=hg.he;simpa using this
 have ho:=am8 hg.out;injection ho with e1 e2;subst e1 e2;have hs:=aoG hA.ends;subst hs;have hL:=ac5 hA.loops;subst hL;obtain⟨A,c,hb,-,-⟩:=hA.Ou.slice;obtain⟨A',c',hp,-,-⟩:=hA.lls.slice;obtain⟨LA,lc,hl,-,-⟩:=hA.Si.slice;obtain⟨S2,rc,hr,-,-,-⟩:=id hA.Mv;obtain⟨IA,ic,hi,hi1,hi2⟩:=hA.Af;obtain⟨DA,dn,dc,hd⟩:=hA.dvs;have hb:bv=.slice A 3 c:=hb;have hp:pv=.slice A' 3 c':=hp;have hl:lv=.slice LA 1 lc:=hl;have hr:rv=.slice S2 3 rc:=hr;have hi:iv=.slice IA 3 ic:=hi;subst hb hp hl hr hi hd;exact⟨A,A',LA,S2,IA,DA,c,c',lc,rc,ic,dn,dc,he,hA.Ou,hA.lls,hA.Si,hA.Mv,hi1,hi2⟩
theorem amr:Cv 6 Ap [⟨L9,0,6,0⟩] 0 0 0 ⟨L9,0,6,0⟩ Au J0:=by
 refine⟨rfl,anj,?_⟩;have hR:Eb (Ak Ap) 0 6 [0,1,2,3,4,5] [] (-1):=by
  refine⟨by decide,fun a ha=>(mE a).2 ha,by simp,fun a ha t ht h1 h2=>.inl ?_,.inl AO,.inl ⟨rfl,fun a ha=>x8 a ha⟩⟩;simp;omega
 have h:=Out.ok (c:=Ak Ap) (st:=0) (en:=6) _ hR;rw [show ((6:Int) - 0).toNat=6 from rfl,vP,nR,qN] at h;exact h
theorem yO:Qm 6 Ap [⟨L9,0,6,0⟩] 0 0 0:=⟨0,_,Au,J0,rfl,amr,fun D _=>apT D⟩
theorem xS (AZ:WV) (w:World) (T:C8 w):Calls Tryz.prog 10 #[] w fun e w'=>e=.returned (.bool true)∧Below w.heap.size w w':=by
 obtain⟨X,hX⟩:=AA (w.alloc (.cells (IZ SJ).toArray 67));have bX:Below w.heap.size w X:=hX▸(AP _ _).alloc (AH _) _;have kX:X.heap[w.heap.size]?=some (.cells (IZ SJ).toArray 67 (0,0)):=hX▸Ai _ _;have Vb:=A3 (show nk X (.slice (some ⟨w.heap.size,0,none⟩) 6 6) SJ from⟨_,6,rfl,AH _,by unfold maxLen;omega,fun _=>⟨w.heap.size,0,rfl,BR kX,fun i x hx=>by
  have c:∀j,j<5→X.cell? ⟨w.heap.size,0+i*5+j,none⟩=(Mq x)[j]?:=fun j hj=>by
   rw [EU];simp only [World.cell?,kX];rw [←nL SJ i j x hx hj];simp
  exact⟨c 0 A0,c 1 A0,c 2 A0,c 3 A0,c 4 A0⟩⟩⟩)
 have TX:=A3 (T.below bX);have BX:=A3 bX;clear T bX kX;have hX':w.alloc (.cells #[.int .u8 14,.int .i64 10,.int .i64 0,.int .i64 0,.int .i64 0,.int .u8 25,.int .i64 10,.int .i64 0,.int .i64 0,.int .i64 4,.int .u8 15,.int .i64 10,.int .i64 10,.int .i64 0,.int .i64 1,.int .u8 15,.int .i64 5,.int .i64 10,.int .i64 0,.int .i64 (-4),.int .u8 23,.int .i64 5,.int .i64 0,.int .i64 0,.int .i64 (-4),.int .u8 1,.int .i64 0,.int .i64 0,.int .i64 0,.int .i64 0] 67)=X:=hX;clear hX;go_enter Tryz.func10,Tryz.ntmps10;go_wp2_with fail;refine (apP _ SJ X TX.out Vb.out AK AK).mono ?_;rintro e W1 ⟨⟨cv,ev,A,cap,rfl,hcv,hrow,hent⟩,hb1⟩;have hcv:cv=.slice A 6 cap:=hcv;subst hcv;have hrow:W1.ownsRow X.heap.size 70 1 (.slice A 6 cap) 6 (Jl (SJ.map fun i=>(encI i).1)):=hrow;have HW:=aqF hrow;have hent:Il W1 ev [⟨L9,0,6,0⟩]:=hent;obtain⟨EA,Cz,hev,-,-,-⟩:=hent.at_;have hev:ev=.slice EA 1 Cz:=hev;subst hev;clear hX';go_wp2_with fail;obtain⟨V,hV⟩:=AA (W1.alloc (.cells #[.slice A 6 cap,.slice EA 1 Cz,.int .i64 0,.int .i64 0] 25));obtain⟨b1,VF⟩:∃b,W1.heap.size=b:=⟨_,rfl⟩;have bV:Below W1.heap.size W1 V:=hV▸(AP _ _).alloc (AH _) _;have kV:V.heap[b1]?=some (.cells #[.slice A 6 cap,.slice EA 1 Cz,.int .i64 0,.int .i64 0] 25 (0,0)):=by rw [←VF];exact hV▸Ai _ _
 obtain⟨y0,y1,y2,y3,y4⟩:=Ep kV;have bXV:Below X.heap.size X V:=hb1.trans (bV.mono hb1.size);have BV:=A3 (BX.out.trans (bXV.mono BX.out.size));have Pk:=A3 (HW.below bV);have VZ:=A3 (hent.below bV);have TV:=A3 (TX.out.below bXV);rw [hV,VF];clear hrow HW hent hb1 bV kV bXV Vb;refine (adb AZ _ _ 0 0 6 Ap [⟨L9,0,6,0⟩] 0 V TV.out Pk.out A0 VZ.out).mono ?_;rintro e W2 ⟨h,hb2⟩;rcases h with⟨-,hy⟩|⟨hn,-⟩;case inr=>exact absurd yO hn
 obtain⟨GA,PA,LA,S2,IA,DA,gc,pc,lc,rc,ic,dn,dc,rfl,hG,hP,hL,hR,hi1,hi2⟩:=anv hy;have HG:=A3 hG;have HP:=A3 hP;have HL:=A3 hL;have HR:=A3 hR;have HI:=A3 (Dt hi1 hi2);have B2:=A3 hb2;have s2:=hb2.size;clear hy hG hP hL hR hi1 hi2 hb2 hV VF;go_upto_region 3 with fail;obtain⟨Y,hY,k2,k4,bY,sY⟩:=Pm W2 #[.slice GA 3 gc,.slice PA 3 pc] #[.slice S2 3 rc,.slice IA 3 ic,.slice DA dn dc] 31 59;rw [hY];obtain⟨q2,hq2⟩:∃q,W2.heap.size=q:=⟨_,rfl⟩;obtain⟨q4,hq4⟩:∃q,q2+1=q:=⟨_,rfl⟩;rw [hq2,hq4] at k4;rw [hq2] at k2;rw [hq2,hq4];have lq2:q2<Y.heap.size:=BR k2;have g0:Y.cell? ⟨q2,0,none⟩=some (.slice GA 3 gc):=by simp [World.cell?,k2]
 have g1:Y.cell? ⟨q2,1,none⟩=some (.slice PA 3 pc):=by simp [World.cell?,k2]
 have r0:Y.cell? ⟨q4,0,none⟩=some (.slice S2 3 rc):=by simp [World.cell?,k4]
 have r1:Y.cell? ⟨q4,1,none⟩=some (.slice IA 3 ic):=by simp [World.cell?,k4]
 have r2:Y.cell? ⟨q4,2,none⟩=some (.slice DA dn dc):=by simp [World.cell?,k4]
 have Nl:Below V.heap.size V Y:=B2.out.trans (bY.mono B2.out.size);have z0:=(Nl.cell (p:=⟨b1,0,none⟩) y4).trans y0;have z1:=(Nl.cell (p:=⟨b1,1,none⟩) y4).trans y1;have z2:=(Nl.cell (p:=⟨b1,2,none⟩) y4).trans y2;have z3:=(Nl.cell (p:=⟨b1,3,none⟩) y4).trans y3;have z4:b1<Y.heap.size:=by have:=Nl.size;omega
 have BY:=A3 (BV.out.trans (Nl.mono BV.out.size));have HLY:=A3 (HL.out.below bY);have HFD:=A3 (oC (.slice A 6 cap) (.slice EA 1 Cz) _ _ 0 0 6 Ap Au J0 Y (TV.out.below Nl) (Pk.out.below Nl) (HG.out.below bY) (HP.out.below bY) AK AK [FK] _ (HL.out.below bY) AK AK [true,true,true] _ (.slice IA 3 ic) (.slice DA dn dc) (HR.out.below bY) 3 ⟨IA,ic,rfl,HI.out⟩ (fun _=>nP));have Kq:=A3 (show ∀(W:World) (v1 v2:Value) (p:Int),Below Y.heap.size Y W→Ints W v1 [1]→Ints W v2 [1]→Calls Tryz.prog 17 #[.agg #[.slice A 6 cap,.slice EA 1 Cz,.int .i64 0,.int .i64 0],.agg #[.slice GA 3 gc,.slice PA 3 pc],.agg #[.int .i64 1,v1,v2,.int .i64 p]] W fun e w'=>e=.returned (.tuple #[.int .i64 10,.int .i64 4,.bool true])∧Below W.heap.size W w' from fun W v1 v2 p hb h1 h2=>by
  have h:=w6 (.slice A 6 cap) (.slice EA 1 Cz) _ _ 0 0 6 Ap Au J0 W ((TV.out.below Nl).below hb) ((Pk.out.below Nl).below hb) ((HG.out.below bY).below hb) ((HP.out.below bY).below hb) AK AK FK p v1 v2 h1 h2 AK (fun _=>nP);rw [aoP] at h
  exact h)
 have Em:=A3 (show Rv 6 Ap Au J0 [FK] [true,true,true] 3 from⟨tK,vM,rfl,rfl,fun x hx=>by
  obtain rfl:x=FK:=by simpa using hx
  exact tU⟩)
 clear hY k2 k4 bY sY hq2 hq4 Nl y0 y1 y2 y3 y4;go_wp2_with fail;refine HFD.out.mono ?_;rintro e W3 ⟨hF,hb3⟩;have hv:=hF.yes Em.out;rw [amC] at hv;obtain⟨ov,rfl,hov⟩:=hv;obtain⟨oA,oc,hoe,ho1,ho2⟩:=hov.slice;have hoe:ov=.slice oA 1 oc:=hoe;subst hoe;obtain⟨t,ob,oo,ht,hoA,Ce,o1⟩:=(show Ints W3 (.slice oA ([4]:List Int).length oc) [4] from hov).at_ (AP _ _) (j:=0) AK;subst hoA;have ht:t=4:=by simpa using ht.symm
 subst ht;have ho1:1≤oc:=ho1;rw [fU] at o1;obtain⟨lb,lo,x,A1,m1,cp1,A2,m2,cp2,p,Sj,hlb,hx,l0,l1,l2,l3,h1,h2⟩:=HLY.out.at_ hb3 (k:=0) AK;have hx:x=FK:=by simpa using hx.symm
 subst hx Sj;have l0:W3.cell? ⟨lb,lo,none⟩=some (.int .i64 1):=l0;have l1:W3.cell? ⟨lb,lo+1,none⟩=some (.slice A1 m1 cp1):=l1;have l2:W3.cell? ⟨lb,lo+2,none⟩=some (.slice A2 m2 cp2):=l2;have l3:W3.cell? ⟨lb,lo+3,none⟩=some (.int .i64 p):=l3;have Y9:lb<W3.heap.size:=by have:=hb3.size;omega
 have g0':=(hb3.cell (p:=⟨q2,0,none⟩) lq2).trans g0;have g1':=(hb3.cell (p:=⟨q2,1,none⟩) lq2).trans g1;have z0':=(hb3.cell (p:=⟨b1,0,none⟩) z4).trans z0;have z1':=(hb3.cell (p:=⟨b1,1,none⟩) z4).trans z1;have z2':=(hb3.cell (p:=⟨b1,2,none⟩) z4).trans z2;have z3':=(hb3.cell (p:=⟨b1,3,none⟩) z4).trans z3;have s3:=hb3.size;have ara:q2<W3.heap.size:=by omega
 have z4':b1<W3.heap.size:=by omega
 have B3:=A3 (BY.out.trans (hb3.mono BY.out.size));have YV:=A3 (show ∀x:Ext W3,Calls Tryz.prog 17 #[.agg #[.slice A 6 cap,.slice EA 1 Cz,.int .i64 0,.int .i64 0],.agg #[.slice GA 3 gc,.slice PA 3 pc],.agg #[.int .i64 1,.slice A1 m1 cp1,.slice A2 m2 cp2,.int .i64 p]] x.w fun e w'=>e=.returned (.tuple #[.int .i64 10,.int .i64 4,.bool true])∧Below x.w.heap.size x.w w' from fun x=>Kq.out x.w _ _ p (hb3.trans (x.h.mono hb3.size)) ((h1.below hb3).below x.h) ((h2.below hb3).below x.h));have OB:=A3 o1;clear hF hov hx h1 h2 hb3 g0 g1 r0 r1 r2 z0 z1 z2 z3 HFD;go_upto_region 6 with fail;refine Cg A6 A6 ?_;repeat (go_big_quiet_step ((go_at_call 17;exact Calls.AQ (YV.out _))))
 refine Ba ?_;rintro _ ⟨x1,rfl⟩;have o2:=(x1.h.cell (p:=⟨ob,oo,none⟩) Ce).trans OB.out;have BF:=A3 (B3.out.trans (x1.h.mono B3.out.size));go_wp2_with fail;go_ret;exact⟨rfl,BF.out⟩
theorem arA {G:List AV} (h2:∀x∈G,x.nx.length≤2) (k:Nat):(Cf G k []).length≤2*k:=by
 unfold Cf;simp only [XU,M8];induction k with
 | zero=>simp
 | succ k ih=>
  rw [J5,QD,FO];have h:(G.getD k ⟨0,0,[]⟩).nx.length≤2:=by
   by_cases hk:k<G.length
   ·rw [show G.getD k ⟨0,0,[]⟩=G[k] by simp [List.getD,Aj hk]]
    exact h2 _ (Cn hk)
   ·rw [show G.getD k ⟨0,0,[]⟩=⟨0,0,[]⟩ by simp [List.getD,E0 (by omega:G.length≤k)]]
    simp
  simp only [JO,fD,M8,ED];omega
theorem LB.uT {G:List AV} {P:List (List Int)} {ord:List Nat} {pos:Nat→Nat} {D:List Int} {L:List Lp} (h:LB P ord pos (Cf G G.length []) D L) (hn:G.length≤5000) (h2:∀x∈G,x.nx.length≤2):∀x∈L,x.la.length≤10000:=fun x hx=>by
 rw [(h.each x hx).1];have h1:=vE ord pos (Cf G G.length []) x.h.toNat;have h3:=arA h2 G.length;simp only [Bg,ED];omega
theorem LB.hd {G:List AV} {P:List (List Int)} {ord:List Nat} {pos:Nat→Nat} {D:List Int} {L:List Lp} (h:LB P ord pos (Cf G G.length []) D L) (hV:Ea G P):∀x∈L,0≤x.h∧x.h<(G.length:Int):=fun x hx=>by
 have h1:=(h.mem x.h).1 (Bx.2 ⟨x,hx,rfl⟩);refine⟨h1.1,?_⟩;cases hl:EP ord pos (Cf G G.length []) x.h.toNat with
 | nil=>exact absurd hl h1.2
 | cons a l=>
  have ha:a∈EP ord pos (Cf G G.length []) x.h.toNat:=by rw [hl];simp
  unfold EP at ha;obtain⟨e,he,_⟩:=Bx.1 ha;obtain⟨h3,h4⟩:=Sz.1 he;obtain⟨p,q,rfl,_,hq,_⟩:=lJ hV h3;have h5:=GQ h4;have:(q:Int).toNat=x.h.toNat:=h5.2.2;omega
theorem LB.len {G:List AV} {P:List (List Int)} {ord:List Nat} {pos:Nat→Nat} {D:List Int} {L:List Lp} (h:LB P ord pos (Cf G G.length []) D L) (hV:Ea G P):L.length≤G.length:=by
 have h1:=h.hd hV;have h2:(L.map fun x=>x.h.toNat).Nodup:=by
  have h3:=h.Rf;rw [jk] at h3;unfold List.Nodup;rw [jk];refine h3.imp_of_mem fun {a b} ha hb hab=>?_;have:=h1 a ha;have:=h1 b hb;omega
 have h4:=OS (n:=G.length) h2 (fun x hx=>by
  obtain⟨y,hy,rfl⟩:=Bx.1 hx;have:=h1 y hy
  omega)
 simpa using h4
theorem Ea.nil {P:List (List Int)} (h:Ea [] P):False:=h.ne rfl
def Ig (k:Nat):List UInt8:=match Db k with | .Sn=>[] | .Sy=>[65,66,67] | .TU=>[65,66] | .ai=>[65] | .i=>[]
def OM (k:Nat):Int:=if k<14 then 1 else M9 k
def PO (k:Nat):Int:=if k<14 then 0 else MT k
def Xr (op:Int) (k:Nat):Prop:=∀w:World,Calls Tryz.prog 79 #[.int .u8 op] w fun e w'=>e=.returned (.tuple #[.string ⟨(Ig k).toArray⟩,.int .i64 (OM k),.int .i64 (PO k),.bool true])∧w=w'
theorem acg (op:Int) (k:Nat) (h:(op=0∧k=0)∨(op=1∧k=1)∨(op=2∧k=2)∨(op=3∧k=3)∨(op=4∧k=4)∨(op=5∧k=5)∨(op=6∧k=6)∨(op=7∧k=7)∨(op=8∧k=8)∨(op=9∧k=9)∨(op=10∧k=10)∨(op=11∧k=11)∨(op=12∧k=12)∨(op=13∧k=13)∨(op=14∧k=14)∨(op=15∧k=15)∨(op=16∧k=16)∨(op=17∧k=17)∨(op=18∧k=18)∨(op=19∧k=19)∨(op=20∧k=20)∨(op=21∧k=21)∨(op=22∧k=22)∨(op=23∧k=23)∨(op=24∧k=24)∨(op=25∧k=25)∨(op=26∧k=26)∨(op=27∧k=27)∨(op=28∧k=28)∨(op=29∧k=29)):Xr op k:=by
 intro w;obtain⟨v,hv⟩:∃v,v=Value.tuple #[.string ⟨(Ig k).toArray⟩,.int .i64 (OM k),.int .i64 (PO k),.bool true]:=⟨_,rfl⟩;rw [←hv];have HV:=A3 hv;clear hv;rcases h with⟨rfl,rfl⟩|⟨rfl,rfl⟩|⟨rfl,rfl⟩|⟨rfl,rfl⟩|⟨rfl,rfl⟩|⟨rfl,rfl⟩|⟨rfl,rfl⟩|⟨rfl,rfl⟩|⟨rfl,rfl⟩|⟨rfl,rfl⟩|⟨rfl,rfl⟩|⟨rfl,rfl⟩|⟨rfl,rfl⟩|⟨rfl,rfl⟩|⟨rfl,rfl⟩|⟨rfl,rfl⟩|⟨rfl,rfl⟩|⟨rfl,rfl⟩|⟨rfl,rfl⟩|⟨rfl,rfl⟩|⟨rfl,rfl⟩|⟨rfl,rfl⟩|⟨rfl,rfl⟩|⟨rfl,rfl⟩|⟨rfl,rfl⟩|⟨rfl,rfl⟩|⟨rfl,rfl⟩|⟨rfl,rfl⟩|⟨rfl,rfl⟩|⟨rfl,rfl⟩;all_goals
  go_enter Tryz.func79,Tryz.ntmps79;go_wp2_with fail;refine Al (v:=v) (by rw [HV.out];simp [results,Tryz.results79,go_sem, *];first|done|decide) rfl ⟨rfl,by first|rfl|trivial⟩
theorem aow (k:Nat) (hk:k<30):((k:Int)=0∧k=0)∨((k:Int)=1∧k=1)∨((k:Int)=2∧k=2)∨((k:Int)=3∧k=3)∨((k:Int)=4∧k=4)∨((k:Int)=5∧k=5)∨((k:Int)=6∧k=6)∨((k:Int)=7∧k=7)∨((k:Int)=8∧k=8)∨((k:Int)=9∧k=9)∨((k:Int)=10∧k=10)∨((k:Int)=11∧k=11)∨((k:Int)=12∧k=12)∨((k:Int)=13∧k=13)∨((k:Int)=14∧k=14)∨((k:Int)=15∧k=15)∨((k:Int)=16∧k=16)∨((k:Int)=17∧k=17)∨((k:Int)=18∧k=18)∨((k:Int)=19∧k=19)∨((k:Int)=20∧k=20)∨((k:Int)=21∧k=21)∨((k:Int)=22∧k=22)∨((k:Int)=23∧k=23)∨((k:Int)=24∧k=24)∨((k:Int)=25∧k=25)∨((k:Int)=26∧k=26)∨((k:Int)=27∧k=27)∨((k:Int)=28∧k=28)∨((k:Int)=29∧k=29):=by
 obtain rfl|rfl|rfl|rfl|rfl|rfl|rfl|rfl|rfl|rfl|rfl|rfl|rfl|rfl|rfl|rfl|rfl|rfl|rfl|rfl|rfl|rfl|rfl|rfl|rfl|rfl|rfl|rfl|rfl|rfl:k=0∨k=1∨k=2∨k=3∨k=4∨k=5∨k=6∨k=7∨k=8∨k=9∨k=10∨k=11∨k=12∨k=13∨k=14∨k=15∨k=16∨k=17∨k=18∨k=19∨k=20∨k=21∨k=22∨k=23∨k=24∨k=25∨k=26∨k=27∨k=28∨k=29:=by omega
 all_goals simp
theorem gM (k:Nat) (hk:k<30):Xr (k:Int) k:=acg k k (aow k hk)
theorem amQ (op:Int) (h0:30≤op) (w:World):Calls Tryz.prog 79 #[.int .u8 op] w fun e w'=>e=.returned (.tuple #[.string ⟨#[]⟩,.int .i64 1,.int .i64 0,.bool false])∧w=w':=by
 have e0:decide (2≤op)=true:=AR A0;have e1:decide (op≤13)=false:=Aq A0;have q:∀k:Int,k<30→(op==k)=false:=fun k hk=>Ls.2 A0;have q0:=q 0 AK;have q1:=q 1 AK;have q14:=q 14 AK;have q15:=q 15 AK;have q16:=q 16 AK;have q17:=q 17 AK;have q18:=q 18 AK;have q19:=q 19 AK;have q20:=q 20 AK;have q21:=q 21 AK;have q22:=q 22 AK;have q23:=q 23 AK;have q24:=q 24 AK;have q25:=q 25 AK;have q26:=q 26 AK;have q27:=q 27 AK;have q28:=q 28 AK;have q29:=q 29 AK;clear h0 q;go_enter Tryz.func79,Tryz.ntmps79;go_wp2_with fail;refine Al (v:=.tuple #[.string ⟨#[]⟩,.int .i64 1,.int .i64 0,.bool false]) (by simp [results,Tryz.results79,go_sem, *]) rfl ⟨rfl,by first|rfl|trivial⟩
def O1 (x:Int) (u:Bool):Bool:=if u=true then decide (0≤x) && decide (x<16) else decide (x=0)
theorem nG (x:Int) (u:Bool) (w:World):Calls Tryz.prog 101 #[.int .i64 x,.bool u] w fun e w'=>e=.returned (.bool (O1 x u))∧w=w':=by
 cases u with
 | false=>
  rcases h:(x==0);all_goals
   go_enter Tryz.func101,Tryz.ntmps101;go_wp2_with fail;go_ret;simp at h;exact⟨EE (by simp [O1,h]),by first|rfl|trivial⟩
 | true=>
  rcases h:decide (0≤x)<;>rcases h2:decide (x<16);all_goals
   go_enter Tryz.func101,Tryz.ntmps101;go_wp2_with fail;go_ret;exact⟨EE (by simp only [O1,N1,h,h2];rfl),by first|rfl|trivial⟩
theorem nS:∀k,k<30→(0<(Ig k).length↔(Db k).LD=15)∧(1<(Ig k).length↔(Db k).L8=15)∧(2<(Ig k).length↔(Db k).Kg=15)∧((Db k).LD=15∨(Db k).LD=0)∧((Db k).L8=15∨(Db k).L8=0)∧((Db k).Kg=15∨(Db k).Kg=0):=by decide
theorem jt:∀k,k<30→(PO k<OM k∧M9 k=0∧MT k=0)∨(OM k≤PO k∧M9 k=OM k∧MT k=PO k):=by decide
theorem kK {x h:Int} {n m:Nat} (h1:m<n↔h=15) (h2:h=15∨h=0):O1 x (decide (m<n))=true↔0≤x∧x≤h:=by
 unfold O1;by_cases e:m<n
 ·rw [AR e,AE rfl,h1.1 e]
  simp;omega
 ·have:h=0:=by rcases h2 with h2|h2;exact absurd (h1.2 h2) e;exact h2
  rw [Aq e,A9 AO,this];simp;omega
theorem nT (i:Ins) (h0:0≤i.op) (w:World):Calls Tryz.prog 80 #[.agg #[.int .u8 i.op,.int .i64 i.a,.int .i64 i.b,.int .i64 i.c,.int .i64 i.AG]] w fun e w'=>e=.returned (.bool (CE i))∧Below w.heap.size w w':=by
 have HV:=A3 (PT h0);obtain⟨vi,MW⟩:=AA (CE i);rw [MW] at HV ⊢;clear MW;obtain⟨op,a,b,c,AG⟩:=i;simp only at h0 HV ⊢;obtain⟨V,hV⟩:=AA (w.alloc (.cells #[.int .u8 op,.int .i64 a,.int .i64 b,.int .i64 c,.int .i64 AG] 67));have bV:Below w.heap.size w V:=hV▸(AP _ _).alloc (AH _) _;have kV:V.heap[w.heap.size]?=some (.cells #[.int .u8 op,.int .i64 a,.int .i64 b,.int .i64 c,.int .i64 AG] 67):=hV▸Ai _ _;have y0:V.cell? ⟨w.heap.size,0,none⟩=some (.int .u8 op):=by simp [World.cell?,kV]
 have y1:V.cell? ⟨w.heap.size,1,none⟩=some (.int .i64 a):=by simp [World.cell?,kV]
 have y2:V.cell? ⟨w.heap.size,2,none⟩=some (.int .i64 b):=by simp [World.cell?,kV]
 have y3:V.cell? ⟨w.heap.size,3,none⟩=some (.int .i64 c):=by simp [World.cell?,kV]
 have y4:V.cell? ⟨w.heap.size,4,none⟩=some (.int .i64 AG):=by simp [World.cell?,kV]
 have sV:w.heap.size<V.heap.size:=by rw [←hV];simp
 have BV:=A3 bV;clear bV kV;by_cases ho:op<30;case neg=>
  have HF:=A3 (fun W=>amQ op A0 W);have hn:vi=false:=by
   cases vi with
   | false=>rfl
   | true=>obtain⟨k,hk⟩:=HV.out.1 rfl;have:=hk.op;have:=hk.lt;simp only at *;omega
  subst hn;clear ho HV h0;go_enter Xa,ZT;go_wp2_with (go_at_call 79;refine (HF.out _).mono ?_;rintro e w' ⟨rfl,rfl⟩);go_ret;exact⟨rfl,BV.out⟩
 obtain⟨k,rfl⟩:∃k:Nat,op=(k:Int):=⟨op.toNat,by omega⟩;have hk:k<30:=by omega
 have HF:=A3 (fun W=>gM k hk W);obtain⟨n1,n2,n3,n4,n5,n6⟩:=nS k hk;have HL:=A3 (jt k hk);have RA:=A3 (kK (x:=a) n1 n4);have RB:=A3 (kK (x:=b) n2 n5);have RC:=A3 (kK (x:=c) n3 n6);have HG:=A3 (show vi=true↔(O1 a (decide (0<(Ig k).length))=true∧O1 b (decide (1<(Ig k).length))=true∧O1 c (decide (2<(Ig k).length))=true)∧(M9 k≤AG∧AG≤MT k) from by
  rw [HV.out,RA.out,RB.out,RC.out];constructor
  ·rintro⟨k',g1,g2,g3,g4,g5,g6⟩
   have:k=k':=by simp only at g1;omega
   subst this;exact⟨⟨g3,g4,g5⟩,g6⟩
  ·rintro⟨⟨g3,g4,g5⟩,g6⟩
   exact⟨k,rfl,hk,g3,g4,g5,g6⟩)
 have hsz:(ByteArray.mk (Ig k).toArray).size=(Ig k).length:=by simp [ByteArray.size]
 obtain⟨fs,PE⟩:∃fs:ByteArray,(⟨(Ig k).toArray⟩:ByteArray)=fs:=⟨_,rfl⟩;obtain⟨lo,hlo⟩:=AA (OM k);obtain⟨hi,hhi⟩:=AA (PO k);unfold Xr at HF;rw [PE] at hsz;have Kk:=A3 (show ∀W,Calls Tryz.prog 79 #[.int .u8 (k:Int)] W fun e w'=>e=.returned (.tuple #[.string fs,.int .i64 lo,.int .i64 hi,.bool true])∧W=w' from fun W=>by rw [←PE,← hlo,← hhi];exact HF.out W);rw [hlo,hhi] at HL;rw [←hsz] at HG;obtain⟨uA,huA⟩:=AA (decide (0<fs.size));obtain⟨uB,V8⟩:=AA (decide (1<fs.size));obtain⟨uC,Vm⟩:=AA (decide (2<fs.size));have iA:decide ((0:Int)<(fs.size:Int))=uA:=by rw [←huA];exact XF.2 A0
 have iB:decide ((1:Int)<(fs.size:Int))=uB:=by rw [←V8];exact XF.2 A0
 have iC:decide ((2:Int)<(fs.size:Int))=uC:=by rw [←Vm];exact XF.2 A0
 rw [huA,V8,Vm] at HG;have GA:=A3 (fun W=>nG a uA W);have GB:=A3 (fun W=>nG b uB W);have GC:=A3 (fun W=>nG c uC W);clear hlo hhi PE hsz HF RA RB RC n1 n2 n3 n4 n5 n6 HV ho h0 hk;rcases hA:O1 a uA
 ·rw [hA] at HG GA
  have hn:vi=false:=by cases vi with|false=>rfl|true=>simpa using (HG.out.1 rfl).1.1
  clear hA;go_enter Xa,ZT;go_wp2_with (first|(go_at_call 79;refine (Kk.out _).mono ?_;rintro e w' ⟨rfl,rfl⟩)|(go_at_call 101;refine (GA.out _).mono ?_;rintro e w' ⟨rfl,rfl⟩));go_ret;exact⟨by subst hn;rfl,BV.out⟩
 rw [hA] at HG GA;clear hA;rcases hB:O1 b uB
 ·rw [hB] at HG GB
  have hn:vi=false:=by cases vi with|false=>rfl|true=>simpa using (HG.out.1 rfl).1.2.1
  clear hB;go_enter Xa,ZT;go_wp2_with (first|(go_at_call 79;refine (Kk.out _).mono ?_;rintro e w' ⟨rfl,rfl⟩)|(go_at_call 101;first|(with_reducible refine (GA.out _).mono ?_;rintro e w' ⟨rfl,rfl⟩)|(with_reducible refine (GB.out _).mono ?_;rintro e w' ⟨rfl,rfl⟩)));go_ret;exact⟨by subst hn;rfl,BV.out⟩
 rw [hB] at HG GB;clear hB;rcases hC:O1 c uC
 ·rw [hC] at HG GC
  have hn:vi=false:=by cases vi with|false=>rfl|true=>simpa using (HG.out.1 rfl).1.2.2
  clear hC;go_enter Xa,ZT;go_wp2_with (first|(go_at_call 79;refine (Kk.out _).mono ?_;rintro e w' ⟨rfl,rfl⟩)|(go_at_call 101;first|(with_reducible refine (GA.out _).mono ?_;rintro e w' ⟨rfl,rfl⟩)|(with_reducible refine (GB.out _).mono ?_;rintro e w' ⟨rfl,rfl⟩)|(with_reducible refine (GC.out _).mono ?_;rintro e w' ⟨rfl,rfl⟩)));go_ret;exact⟨by subst hn;rfl,BV.out⟩
 rw [hC] at HG GC;clear hC;rcases HL.out with⟨l1,l2,l3⟩|⟨l1,l2,l3⟩
 ·have d:decide (hi<lo)=true:=AR l1
  have hn:vi=(AG==0):=by
   apply OI.2;rw [HG.out,l2,l3];simp;omega
  clear l1 l2 l3 HL;go_enter Xa,ZT;go_wp2_with (first|(go_at_call 79;refine (Kk.out _).mono ?_;rintro e w' ⟨rfl,rfl⟩)|(go_at_call 101;first|(with_reducible refine (GA.out _).mono ?_;rintro e w' ⟨rfl,rfl⟩)|(with_reducible refine (GB.out _).mono ?_;rintro e w' ⟨rfl,rfl⟩)|(with_reducible refine (GC.out _).mono ?_;rintro e w' ⟨rfl,rfl⟩)));go_ret;exact⟨by subst hn;rfl,BV.out⟩
 ·have d:decide (hi<lo)=false:=Aq A0
  have hn:vi=(decide (lo≤AG) && decide (AG≤hi)):=by
   apply OI.2;rw [HG.out,l2,l3];simp
  clear l1 l2 l3 HL;rcases h5:decide (lo≤AG)<;>rcases h6:decide (AG≤hi);all_goals
   rw [h5,h6] at hn;go_enter Xa,ZT;go_wp2_with (first|(go_at_call 79;refine (Kk.out _).mono ?_;rintro e w' ⟨rfl,rfl⟩)|(go_at_call 101;first|(with_reducible refine (GA.out _).mono ?_;rintro e w' ⟨rfl,rfl⟩)|(with_reducible refine (GB.out _).mono ?_;rintro e w' ⟨rfl,rfl⟩)|(with_reducible refine (GC.out _).mono ?_;rintro e w' ⟨rfl,rfl⟩)));go_ret;exact⟨by subst hn;rfl,BV.out⟩
theorem aoE (i:Ins) (k:Nat) (hg:Good i k) (w:World):Calls Tryz.prog 81 #[.agg #[.int .u8 i.op,.int .i64 i.a,.int .i64 i.b,.int .i64 i.c,.int .i64 i.AG]] w fun e w'=>e=.returned (.int .u32 (Gn i))∧Below w.heap.size w w':=by
 have hk:=hg.lt;have hb:=WC k hk;have hop:=hg.op;have HL:=A3 (jt k hk);have HN:=A3 hg.uO;have h1:=hg.a;have h2:=hg.b;have h3:=hg.c;have h4:=hg.AG;obtain⟨_,_,_,n4,n5,n6⟩:=nS k hk;have a1:0≤i.a∧i.a≤15:=by omega
 have a2:0≤i.b∧i.b≤15:=by omega
 have a3:0≤i.c∧i.c≤15:=by omega
 have HI:=A3 h4;have a4 : -131072≤i.AG∧i.AG≤131071:=by omega
 have HF:=A3 (fun W=>gM k hk W);clear h1 h2 h3 h4 n4 n5 n6 hb hg;unfold Gn at HN ⊢;obtain⟨op,a,b,c,AG⟩:=i;simp only at hop a1 a2 a3 a4 HI HN ⊢;subst hop;obtain⟨z,hz0⟩:=AA (if AG<0 then AG+262144 else AG);rw [hz0] at HN ⊢;have HZ:=A3 hz0;clear hz0;obtain⟨lo,hlo⟩:=AA (OM k);obtain⟨hi,hhi⟩:=AA (PO k);obtain⟨fs,PE⟩:∃fs:ByteArray,(⟨(Ig k).toArray⟩:ByteArray)=fs:=⟨_,rfl⟩;unfold Xr at HF;have Kk:=A3 (show ∀W,Calls Tryz.prog 79 #[.int .u8 (k:Int)] W fun e w'=>e=.returned (.tuple #[.string fs,.int .i64 lo,.int .i64 hi,.bool true])∧W=w' from fun W=>by rw [←PE,← hlo,← hhi];exact HF.out W);rw [hlo,hhi] at HL;clear hlo hhi PE HF;have u1:IntKind.u32.wrap (k:Int)=(k:Int):=Jt _ A0;have u2:IntKind.u32.wrap ((k:Int)*67108864)=(k:Int)*67108864:=Jt _ A0;have u3:IntKind.u32.wrap a=a:=Jt _ A0;have u4:IntKind.u32.wrap (a*4194304)=a*4194304:=Jt _ A0;have u5:IntKind.u32.wrap ((k:Int)*67108864+a*4194304)=(k:Int)*67108864+a*4194304:=Jt _ A0;have u6:IntKind.u32.wrap b=b:=Jt _ A0;have u7:IntKind.u32.wrap (b*262144)=b*262144:=Jt _ A0;have u8:IntKind.u32.wrap ((k:Int)*67108864+a*4194304+b*262144)=(k:Int)*67108864+a*4194304+b*262144:=Jt _ A0;have u9:IntKind.u32.wrap c=c:=Jt _ A0;have u10:IntKind.u32.wrap (c*16384)=c*16384:=Jt _ A0;have u11:IntKind.u32.wrap ((k:Int)*67108864+a*4194304+b*262144+c*16384)=(k:Int)*67108864+a*4194304+b*262144+c*16384:=Jt _ A0;rcases HL.out with⟨l1,l2,l3⟩|⟨l1,l2,l3⟩
 ·have d:decide (hi<lo)=true:=AR l1
  have hz:AG=0:=by have:=HI.out;omega
  subst hz;clear l1 l2 l3 HL;go_enter Tryz.func81,Tryz.ntmps81;go_wp2_with (go_at_call 79;refine (Kk.out _).mono ?_;rintro e w' ⟨rfl,rfl⟩);go_ret;exact⟨aP (by rw [←HZ.out];simp),(AP _ _).alloc (AH _) _⟩
 ·have d:decide (hi<lo)=false:=Aq A0
  clear l1 l2 l3 HL;by_cases hneg:AG<0
  ·have d2:decide (AG<0)=true:=AR hneg
   have u12:IntKind.i64.wrap (AG+262144)=AG+262144:=GN _ A0;have u13:IntKind.u32.wrap (AG+262144)=AG+262144:=Jt _ A0;have u14:IntKind.u32.wrap ((k:Int)*67108864+a*4194304+b*262144+c*16384+(AG+262144))=(k:Int)*67108864+a*4194304+b*262144+c*16384+(AG+262144):=Jt _ (by have:=HN.out;have:=HZ.out;rw [AE hneg] at this;omega);have HH:=A3 (show AG+262144=z from by rw [←HZ.out,AE hneg]);clear hneg;go_enter Tryz.func81,Tryz.ntmps81;go_wp2_with (go_at_call 79;refine (Kk.out _).mono ?_;rintro e w' ⟨rfl,rfl⟩);go_ret;exact⟨aP (by rw [HH.out]),(AP _ _).alloc (AH _) _⟩
  ·have d2:decide (AG<0)=false:=Aq hneg
   have u13:IntKind.u32.wrap AG=AG:=Jt _ A0;have u14:IntKind.u32.wrap ((k:Int)*67108864+a*4194304+b*262144+c*16384+AG)=(k:Int)*67108864+a*4194304+b*262144+c*16384+AG:=Jt _ (by have:=HN.out;have:=HZ.out;rw [A9 hneg] at this;omega);have HH:=A3 (show AG=z from by rw [←HZ.out,A9 hneg]);clear hneg;go_enter Tryz.func81,Tryz.ntmps81;go_wp2_with (go_at_call 79;refine (Kk.out _).mono ?_;rintro e w' ⟨rfl,rfl⟩);go_ret;exact⟨aP (by rw [HH.out]),(AP _ _).alloc (AH _) _⟩
def Pg (x:Int) (k:Nat):Ins:=⟨(k:Int),x / 4194304 % 16,if 1<(Ig k).length then x / 262144 % 16 else 0,if 2<(Ig k).length then x / 16384 % 16 else 0,if OM k≤PO k then (if 131071<x % 262144 then x % 262144 - 262144 else x % 262144) else 0⟩
def Dh.xB:Dh→Bool | .Sn=>false | .Sy=>false | .TU=>true | .ai=>true | .i=>true
theorem aoN:∀k,k<30→decide (OM k≤PO k)=(Db k).xB:=by decide
theorem ye {i:Ins} {k:Nat} (h:Good i k):Pg (Gn i) k=i:=by
 have hk:=h.lt;have hi:=WC _ hk;have ha:=h.a;have hb:=h.b;have hc:=h.c;have hm:=h.AG;have hop:=h.op;have hL:=jt k hk;have hS:=aoN k hk;obtain⟨op,a,b,c,AG⟩:=i;simp only at ha hb hc hm hop;unfold Pg Gn;simp only [Ins.mk.injEq,hop];cases hs:Db k<;>rw [hs] at ha hb hc hS<;>simp only [Dh.LD,Dh.L8,Dh.Kg,Dh.xB,DK,decide_eq_false_iff_not,Ig,hs,GD,Yp] at ha hb hc hS ⊢;all_goals
  simp only [hS,N1,N0,true_and,Nat.reduceAdd,Nat.reduceLT];split<;>(try split)<;>(refine⟨?_,?_,?_,?_⟩<;>omega)
theorem Good.xq {i:Ins} {k:Nat} (h:Good i k):Gn i / 67108864=(k:Int):=by
 have hk:=h.lt;have hi:=WC _ hk;have ha:=h.a;have hb:=h.b;have hc:=h.c;have hm:=h.AG;have hz:=fH _ hk;have hop:=h.op;unfold Gn;cases hs:Db k<;>rw [hs] at ha hb hc hz<;>simp only [Dh.LD,Dh.L8,Dh.Kg,Dh.ops,true_or,or_true,ep] at ha hb hc hz<;>split<;>omega
theorem yQ {x:Int} {k:Nat} (h0:0≤x) (hk:x / 67108864=(k:Int)):BB x=if CE (Pg x k)=true∧Gn (Pg x k)=x then (Pg x k,0) else (⟨0,0,0,0,0⟩,3):=by
 by_cases h:CE (Pg x k)=true∧Gn (Pg x k)=x
 ·rw [AE h]
  obtain⟨k',hg⟩:=(PT (by show 0≤(k:Int);omega)).1 h.1;have:=hg.dec;rw [h.2] at this;exact this
 ·rw [A9 h]
  by_cases h2:(BB x).2=0
  ·obtain⟨k',hg,hn⟩:=WJ h0 h2
   have h3:=hg.xq;rw [hn] at h3;have hkk:k'=k:=by omega
   subst hkk;have h4:=ye hg;rw [hn] at h4;rw [h4] at h;exact absurd ⟨(PT (by have:=hg.op;omega)).2 ⟨_,hg⟩,hn⟩ h
  ·unfold BB at h2 ⊢
   by_cases h5:x / 67108864<30∧encI (Lc x)=(x,0)
   ·rw [AE h5] at h2
    exact absurd rfl h2
   ·rw [A9 h5]
theorem cG {w:World} {b:Nat} {o:Obj} (h:w.heap[b]?=some o):b<w.heap.size:=(Be.1 h).1
theorem anM (x:Int) (hx0:0≤x) (hx1:x<4294967296) (w:World) :
  Calls Tryz.prog 49 #[.int .u32 x] w fun e w'=>e=.returned (.tuple #[(BB x).1.val,.bool (decide ((BB x).2=0))])∧Below w.heap.size w w':=by
 obtain⟨q,hq⟩:=AA (x / 67108864);have td:∀m:Int,0<m→m≤4294967296→x.tdiv m % 4294967296=x / m:=fun m h1 h2=>by
  rw [Int.tdiv_eq_ediv_of_nonneg hx0];exact Int.emod_eq_of_lt (Int.ediv_nonneg hx0 A0) (Int.lt_of_le_of_lt (Int.ediv_le_self m hx0) hx1)
 have td0:x.tdiv 67108864 % 4294967296=q:=by rw [td _ AK AK,hq]
 by_cases hqk:q<30;case neg=>
  have HD:=A3 (show BB x=(⟨0,0,0,0,0⟩,3) by unfold BB;simp [hq,hqk]);have d:decide (30≤q)=true:=by simp;omega
  go_enter Tryz.func49,Tryz.ntmps49;go_wp2_with fail;refine Al (v:=.tuple #[.agg #[.int .u8 0,.int .i64 0,.int .i64 0,.int .i64 0,.int .i64 0],.bool false]) mY rfl ⟨?_,?_⟩
  ·rw [HD.out];rfl
  ·(repeat (first|exact AP _ _|refine CJ ?_ ?_ _|refine QH ?_ ?_ _))<;>(first|(simp;done)|(simp;omega)|omega)
 obtain⟨k,rfl⟩:∃k:Nat,q=(k:Int):=⟨q.toNat,by omega⟩;have hk:k<30:=by omega
 obtain⟨A4,hA4⟩:=AA (x / 4194304);obtain⟨B4,hB4⟩:=AA (x / 262144);obtain⟨C4,eR⟩:=AA (x / 16384);have dD:x.tdiv 4194304 % 4294967296=A4:=by rw [td _ AK AK,hA4]
 have tdb:x.tdiv 262144 % 4294967296=B4:=by rw [td _ AK AK,hB4]
 have tdc:x.tdiv 16384 % 4294967296=C4:=by rw [td _ AK AK,eR]
 have d30:decide (30≤(k:Int))=false:=by simp;omega
 have apf:decide (30≤k)=false:=by simp;omega
 have HD:=A3 (yQ hx0 hq);have HF:=A3 (fun W=>gM k hk W);have hsz:(ByteArray.mk (Ig k).toArray).size=(Ig k).length:=by simp [ByteArray.size]
 obtain⟨fs,PE⟩:∃fs:ByteArray,(⟨(Ig k).toArray⟩:ByteArray)=fs:=⟨_,rfl⟩;obtain⟨lo,hlo⟩:=AA (OM k);obtain⟨hi,hhi⟩:=AA (PO k);unfold Xr at HF;rw [PE] at hsz;have Kk:=A3 (show ∀W,Calls Tryz.prog 79 #[.int .u8 (k:Int)] W fun e w'=>e=.returned (.tuple #[.string fs,.int .i64 lo,.int .i64 hi,.bool true])∧W=w' from fun W=>by rw [←PE,← hlo,← hhi];exact HF.out W);obtain⟨a4,ha4⟩:=AA (x / 4194304 % 16);obtain⟨b4,hb4⟩:=AA (x / 262144 % 16);obtain⟨c4,hc4⟩:=AA (x / 16384 % 16);obtain⟨m4,hm4⟩:=AA (x % 262144);have gA:A4 % 16=a4:=by omega
 have tmb:B4 % 16=b4:=by omega
 have tmc:C4 % 16=c4:=by omega
 have tmm:x % 262144=m4:=by omega
 have tmn:x.tmod 262144=m4:=by rw [Int.tmod_eq_emod_of_nonneg hx0];omega
 obtain⟨uB,V8⟩:=AA (decide (1<fs.size));obtain⟨uC,Vm⟩:=AA (decide (2<fs.size));obtain⟨uL,huL⟩:=AA (decide (lo≤hi));obtain⟨uM,huM⟩:=AA (decide (131071<m4));have zw:decide ((1:Int)<(fs.size:Int))=uB:=by rw [←V8];exact XF.2 A0
 have anE:decide ((2:Int)<(fs.size:Int))=uC:=by rw [←Vm];exact XF.2 A0
 have hr4:Pg x k=⟨(k:Int),a4,if uB=true then b4 else 0,if uC=true then c4 else 0,if uL=true then (if uM=true then m4 - 262144 else m4) else 0⟩:=by
  unfold Pg;rw [ha4,hb4,hc4,hm4,hlo,hhi,← hsz,← V8,← Vm,← huL,← huM];simp only [DK]
 rw [hr4] at HD;have HV:=A3 (fun W:World=>nT ⟨(k:Int),a4,if uB=true then b4 else 0,if uC=true then c4 else 0,if uL=true then (if uM=true then m4 - 262144 else m4) else 0⟩ (by show 0≤(k:Int);omega) W);have HE:=A3 (show CE ⟨(k:Int),a4,if uB=true then b4 else 0,if uC=true then c4 else 0,if uL=true then (if uM=true then m4 - 262144 else m4) else 0⟩=true→∀W:World,_ from fun h W=>by
  have hg:=(PT (by show 0≤(k:Int);omega)).1 h
  exact (aoE _ hg.choose hg.choose_spec W))
 simp only at HV HE;obtain⟨i4,hi4⟩:∃i4:Ins,(⟨(k:Int),a4,if uB=true then b4 else 0,if uC=true then c4 else 0,if uL=true then (if uM=true then m4 - 262144 else m4) else 0⟩:Ins)=i4:=⟨_,rfl⟩;rw [hi4] at HD HV HE;obtain⟨vi,MW⟩:=AA (CE i4);obtain⟨N,hN⟩:=AA (Gn i4);rw [MW,hN] at HD;rw [MW] at HV;rw [MW,hN] at HE;have KD:=A3 hi4;have wk:(k:Int) % 256=(k:Int):=by omega
 have wa:wrap64 a4=a4:=gD _ A0;have wb:wrap64 b4=b4:=gD _ A0;have wc_:wrap64 c4=c4:=gD _ A0;have wm:wrap64 m4=m4:=gD _ A0;have wm3:wrap64 (m4 - 262144)=m4 - 262144:=gD _ A0;have wm2:IntKind.i64.wrap (m4 - 262144)=m4 - 262144:=GN _ A0;clear PE hsz hlo hhi HF hi4 hr4 MW hN hx0 hx1 hqk hk td hA4 hB4 eR ha4 hb4 hc4 hm4 hq;go_enter Tryz.func49,Tryz.ntmps49;go_upto_region 6 with (go_at_call 79;refine (Kk.out _).mono ?_;rintro e w' ⟨rfl,rfl⟩);obtain⟨X,hX⟩:=AA ((w.alloc (.cells #[.int .u8 0,.int .i64 0,.int .i64 0,.int .i64 0,.int .i64 0] 67)).alloc (.cells #[.int .u8 (k:Int),.int .i64 a4,.int .i64 0,.int .i64 0,.int .i64 0] 67));have kX:X.heap[w.heap.size+1]?=some (.cells #[.int .u8 (k:Int),.int .i64 a4,.int .i64 0,.int .i64 0,.int .i64 0] 67):=by rw [←hX];exact E4 _ _ AO
 have kR:X.heap[w.heap.size]?=some (.cells #[.int .u8 0,.int .i64 0,.int .i64 0,.int .i64 0,.int .i64 0] 67):=by rw [←hX,Bb _ _ AO];exact Ai _ _
 have bX:Below w.heap.size w X:=hX▸((AP _ _).alloc (AH _) _).alloc AO _;have sX:w.heap.size+2=X.heap.size:=by rw [←hX];simp
 rw [hX];clear hX;obtain⟨b',hb'⟩:∃b',(if uB=true then b4 else 0)=b':=⟨_,rfl⟩;obtain⟨c',hc'⟩:∃c',(if uC=true then c4 else 0)=c':=⟨_,rfl⟩;obtain⟨m',hm'⟩:∃m',(if uL=true then (if uM=true then m4 - 262144 else m4) else 0)=m':=⟨_,rfl⟩;rw [hb',hc',hm'] at HV HE KD;have Bi:=A3 hb';have HCC:=A3 hc';have HMM:=A3 hm';have hwl:w.heap.size+1<X.heap.size:=by omega
 clear hb' hc' hm' sX;have K1:=A3 kX;have KR:=A3 kR;have BX:=A3 bX;go_upto_if 32 with fail;go_cut [5] from 26 to 37 (fun a5 wx=>a5=.string fs∧wx.heap[w.heap.size+1]?=some (.cells #[.int .u8 (k:Int),.int .i64 a4,.int .i64 b',.int .i64 0,.int .i64 0] 67)∧wx.heap[w.heap.size]?=some (.cells #[.int .u8 0,.int .i64 0,.int .i64 0,.int .i64 0,.int .i64 0] 67)∧Below w.heap.size w wx)
 case first=>
  clear HV HE HD KD Kk dD gA td0;have o0:X.cell? ⟨w.heap.size+1,0,none⟩=some (.int .u8 (k:Int)):=by simp [World.cell?,kX]
  have o2:X.cell? ⟨w.heap.size+1,2,none⟩=some (.int .i64 0):=by simp [World.cell?,kX]
  have o3:X.cell? ⟨w.heap.size+1,3,none⟩=some (.int .i64 0):=by simp [World.cell?,kX]
  have o4:X.cell? ⟨w.heap.size+1,4,none⟩=some (.int .i64 0):=by simp [World.cell?,kX]
  have f2:X.frozen? ⟨w.heap.size+1,2,none⟩=false:=by simp [World.frozen?,kX]
  have f3:X.frozen? ⟨w.heap.size+1,3,none⟩=false:=by simp [World.frozen?,kX]
  have f4:X.frozen? ⟨w.heap.size+1,4,none⟩=false:=by simp [World.frozen?,kX]
  clear kX kR bX;cases uB;all_goals
   go_wp2_with fail;go_meet;case rel=>
    refine⟨rfl,?_,?_,?_⟩
    ·rw [←Bi.out]
     first
      | exact K1.out
      | exact Ej _ _ _ _ _ _ K1.out
      | exact Ej _ _ _ _ _ _ (Ej _ _ _ _ _ _ K1.out)
    ·repeat rw [BL _ _ _ _ bS]
     exact KR.out
    ·(repeat (first|exact BX.out|refine CJ ?_ ?_ _))<;>(show w.heap.size≤w.heap.size+1;omega)
 case rest=>
  obtain⟨rfl,kI,kR,bc⟩:=hcut;obtain⟨W1,hW1⟩:∃W1:World,W1=wc:=⟨_,rfl⟩;subst hW1;clear K1 KR BX kX bX;have K1:=A3 kI;have KR:=A3 kR;have BX:=A3 bc;go_upto_if 40 with fail;go_cut [5] from 38 to 45 (fun a5 wx=>a5=.string fs∧wx.heap[w.heap.size+1]?=some (.cells #[.int .u8 (k:Int),.int .i64 a4,.int .i64 b',.int .i64 c',.int .i64 0] 67)∧wx.heap[w.heap.size]?=some (.cells #[.int .u8 0,.int .i64 0,.int .i64 0,.int .i64 0,.int .i64 0] 67)∧Below w.heap.size w wx)
  case first=>
   clear HV HE HD KD Kk dD gA td0;have o0:W1.cell? ⟨w.heap.size+1,0,none⟩=some (.int .u8 (k:Int)):=by simp [World.cell?,kI]
   have o2:W1.cell? ⟨w.heap.size+1,2,none⟩=some (.int .i64 b'):=by simp [World.cell?,kI]
   have o3:W1.cell? ⟨w.heap.size+1,3,none⟩=some (.int .i64 0):=by simp [World.cell?,kI]
   have o4:W1.cell? ⟨w.heap.size+1,4,none⟩=some (.int .i64 0):=by simp [World.cell?,kI]
   have f2:W1.frozen? ⟨w.heap.size+1,2,none⟩=false:=by simp [World.frozen?,kI]
   have f3:W1.frozen? ⟨w.heap.size+1,3,none⟩=false:=by simp [World.frozen?,kI]
   have f4:W1.frozen? ⟨w.heap.size+1,4,none⟩=false:=by simp [World.frozen?,kI]
   have hwl:w.heap.size+1<W1.heap.size:=cG kI;clear kI kR bc;cases uC;all_goals
    go_wp2_with fail;go_meet;case rel=>
     refine⟨rfl,?_,?_,?_⟩
     ·rw [←HCC.out]
      first
       | exact K1.out
       | exact Ej _ _ _ _ _ _ K1.out
       | exact Ej _ _ _ _ _ _ (Ej _ _ _ _ _ _ K1.out)
     ·repeat rw [BL _ _ _ _ bS]
      exact KR.out
     ·(repeat (first|exact BX.out|refine CJ ?_ ?_ _))<;>(show w.heap.size≤w.heap.size+1;omega)
  case rest=>
   obtain⟨rfl,kI,kR,bc⟩:=hcut;obtain⟨W2,hW2⟩:∃W2:World,W2=wc:=⟨_,rfl⟩;subst hW2;clear K1 KR BX;have K1:=A3 kI;have KR:=A3 kR;have BX:=A3 bc;go_upto_if 48 with fail;go_cut [5] from 46 to 59 (fun a5 wx=>a5=.string fs∧wx.heap[w.heap.size+1]?=some (.cells #[.int .u8 (k:Int),.int .i64 a4,.int .i64 b',.int .i64 c',.int .i64 m'] 67)∧wx.heap[w.heap.size]?=some (.cells #[.int .u8 0,.int .i64 0,.int .i64 0,.int .i64 0,.int .i64 0] 67)∧Below w.heap.size w wx)
   case first=>
    clear HV HE HD KD Kk dD gA td0;have o0:W2.cell? ⟨w.heap.size+1,0,none⟩=some (.int .u8 (k:Int)):=by simp [World.cell?,kI]
    have o2:W2.cell? ⟨w.heap.size+1,2,none⟩=some (.int .i64 b'):=by simp [World.cell?,kI]
    have o3:W2.cell? ⟨w.heap.size+1,3,none⟩=some (.int .i64 c'):=by simp [World.cell?,kI]
    have o4:W2.cell? ⟨w.heap.size+1,4,none⟩=some (.int .i64 0):=by simp [World.cell?,kI]
    have f2:W2.frozen? ⟨w.heap.size+1,2,none⟩=false:=by simp [World.frozen?,kI]
    have f3:W2.frozen? ⟨w.heap.size+1,3,none⟩=false:=by simp [World.frozen?,kI]
    have f4:W2.frozen? ⟨w.heap.size+1,4,none⟩=false:=by simp [World.frozen?,kI]
    have hwl:w.heap.size+1<W2.heap.size:=cG kI;clear kI kR bc;cases uL<;>cases uM;all_goals
     go_wp2_with fail;go_meet;case rel=>
      refine⟨rfl,?_,?_,?_⟩
      ·rw [←HMM.out]
       first
        | exact K1.out
        | exact Ej _ _ _ _ _ _ K1.out
        | exact Ej _ _ _ _ _ _ (Ej _ _ _ _ _ _ K1.out)
      ·repeat rw [BL _ _ _ _ bS]
       exact KR.out
      ·(repeat (first|exact BX.out|refine CJ ?_ ?_ _))<;>(show w.heap.size≤w.heap.size+1;omega)
   case rest=>
    obtain⟨rfl,kI,MB,bc⟩:=hcut;have BC:=A3 bc;have KR':=A3 MB;have bcs:=bc.size;have hlt:w.heap.size<wc.heap.size:=cG MB;have o0:wc.cell? ⟨w.heap.size+1,0,none⟩=some (.int .u8 (k:Int)):=by simp [World.cell?,kI]
    have o1:wc.cell? ⟨w.heap.size+1,1,none⟩=some (.int .i64 a4):=by simp [World.cell?,kI]
    have o2:wc.cell? ⟨w.heap.size+1,2,none⟩=some (.int .i64 b'):=by simp [World.cell?,kI]
    have o3:wc.cell? ⟨w.heap.size+1,3,none⟩=some (.int .i64 c'):=by simp [World.cell?,kI]
    have o4:wc.cell? ⟨w.heap.size+1,4,none⟩=some (.int .i64 m'):=by simp [World.cell?,kI]
    have hl1:w.heap.size+1<wc.heap.size:=cG kI;have r0:wc.cell? ⟨w.heap.size,0,none⟩=some (.int .u8 0):=by simp [World.cell?,MB]
    have r1:wc.cell? ⟨w.heap.size,1,none⟩=some (.int .i64 0):=by simp [World.cell?,MB]
    have r2:wc.cell? ⟨w.heap.size,2,none⟩=some (.int .i64 0):=by simp [World.cell?,MB]
    have r3:wc.cell? ⟨w.heap.size,3,none⟩=some (.int .i64 0):=by simp [World.cell?,MB]
    have r4:wc.cell? ⟨w.heap.size,4,none⟩=some (.int .i64 0):=by simp [World.cell?,MB]
    have f0:wc.frozen? ⟨w.heap.size,0,none⟩=false:=by simp [World.frozen?,MB]
    have f1:wc.frozen? ⟨w.heap.size,1,none⟩=false:=by simp [World.frozen?,MB]
    have f2:wc.frozen? ⟨w.heap.size,2,none⟩=false:=by simp [World.frozen?,MB]
    have f3:wc.frozen? ⟨w.heap.size,3,none⟩=false:=by simp [World.frozen?,MB]
    have f4:wc.frozen? ⟨w.heap.size,4,none⟩=false:=by simp [World.frozen?,MB]
    have HV':=A3 (show Calls Tryz.prog 80 #[.agg #[.int .u8 (k:Int),.int .i64 a4,.int .i64 b',.int .i64 c',.int .i64 m']] wc fun e w'=>e=.returned (.bool vi)∧∃y:Ext wc,y.w=w' from (HV.out wc).mono fun e w' ⟨h1,h2⟩=>⟨h1,⟨w',h2⟩,rfl⟩);have HE':=A3 (show vi=true→∀y:Ext wc,Calls Tryz.prog 81 #[.agg #[.int .u8 (k:Int),.int .i64 a4,.int .i64 b',.int .i64 c',.int .i64 m']] y.w fun e w'=>e=.returned (.int .u32 N)∧∃z:Ext wc,z.w=w' from fun h y=>(HE.out h y.w).mono fun e w' ⟨h1,h2⟩=>⟨h1,⟨w',y.h.trans (h2.mono y.h.size)⟩,rfl⟩);clear kI MB bc HV HE K1 KR BX Kk d30 apf td0 dD tdb tdc gA tmb tmc tmm tmn wm3 wk wa wb wc_ wm wm2 V8 Vm huL huM zw anE KR' kR Bi HCC HMM hwl;cases vi with
    | false=>
     have U9:=A3 (show BB x=(⟨0,0,0,0,0⟩,3) by rw [HD.out,A9 AO]);go_wp2_with (go_at_call 80;refine HV'.out.mono ?_;rintro e w' ⟨rfl,y,rfl⟩);refine Al (v:=.tuple #[.agg #[.int .u8 0,.int .i64 0,.int .i64 0,.int .i64 0,.int .i64 0],.bool false]) mY rfl ⟨?_,?_⟩
     ·rw [U9.out];rfl
     ·(repeat (first|exact Ext.below BC.out bcs y|refine CJ ?_ ?_ _))<;>exact AH _
    | true=>
     have HE2:=A3 (HE'.out rfl);by_cases hN:N=x
     ·have d:(N != x)=false:=by simp [hN]
      have U9:=A3 (show BB x=(⟨(k:Int),a4,b',c',m'⟩,0) by rw [HD.out,AE ⟨rfl,hN⟩,← KD.out]);clear hN;go_wp2_with (first|(go_at_call 80;refine HV'.out.mono ?_;rintro e w' ⟨rfl,y,rfl⟩)|(go_at_call 81;refine (HE2.out _).mono ?_;rintro e w' ⟨rfl,z,rfl⟩));refine Al (v:=.tuple #[.agg #[.int .u8 (k:Int),.int .i64 a4,.int .i64 b',.int .i64 c',.int .i64 m'],.bool true]) mY rfl ⟨?_,?_⟩
      ·rw [U9.out];rfl
      ·(repeat (first|exact Ext.below BC.out bcs z|refine CJ ?_ ?_ _))<;>exact AH _
     ·have d:(N != x)=true:=by simp [hN]
      have U9:=A3 (show BB x=(⟨0,0,0,0,0⟩,3) by rw [HD.out,A9 (fun h=>hN h.2)]);clear hN;go_wp2_with (first|(go_at_call 80;refine HV'.out.mono ?_;rintro e w' ⟨rfl,y,rfl⟩)|(go_at_call 81;refine (HE2.out _).mono ?_;rintro e w' ⟨rfl,z,rfl⟩));refine Al (v:=.tuple #[.agg #[.int .u8 0,.int .i64 0,.int .i64 0,.int .i64 0,.int .i64 0],.bool false]) mY rfl ⟨?_,?_⟩
      ·rw [U9.out];rfl
      ·(repeat (first|exact Ext.below BC.out bcs z|refine CJ ?_ ?_ _))<;>exact AH _
structure Rs where
 wr:Nat
 gd:Bool
 le:Int
def rW (i:Ins):Int:=if PV i=true then i.a else 0
def Lh (A8:Int) (on:Bool) (s:Rs) (i:Ins):Rs:=if rW i=A8 then ⟨s.wr+1,decide (i.op=15) && (decide (i.b=A8) && (decide (i.AG=1) && on)),s.le⟩ else s
def Ll (A8:Int) (on:Bool) (s:Rs) (i:Ins):Rs:=if i.op=25∧i.a=A8∧on=true∧(s.le=0∨i.AG<s.le) then ⟨s.wr,s.gd,i.AG⟩ else s
def FZ (A8:Int) (on:Bool) (s:Rs) (l:List Ins):Rs:=l.foldl (fun s i=>Ll A8 on (Lh A8 on s i) i) s
def kJ (A8:Int) (inl on:Nat→Bool) (C:List (List Ins)) (s:Rs) (b:Nat):Rs:=if inl b=true then FZ A8 (on b) s (C.getD b []) else s
def Fj (A8:Int) (inl on:Nat→Bool) (C:List (List Ins)) (k:Nat):Rs:=(List.range k).foldl (kJ A8 inl on C) ⟨0,false,0⟩
def Ji (A8:Int) (s:Rs):Int×Bool:=if A8<10∨13<A8 then (0,false) else (s.le,decide (s.wr=1) && (s.gd && decide (0<s.le)))
theorem aqg (A8:Int) (on:Bool) (s:Rs) {l:List Ins} {j:Nat} {i:Ins} (h:l[j]?=some i):FZ A8 on s (l.take (j+1))=Ll A8 on (Lh A8 on (FZ A8 on s (l.take j)) i) i:=by
 unfold FZ;rw [G4,h,PR];rfl
theorem oP (A8:Int) (inl on:Nat→Bool) (C:List (List Ins)) (k:Nat):Fj A8 inl on C (k+1)=kJ A8 inl on C (Fj A8 inl on C k) k:=by
 unfold Fj;rw [J5,PR];rfl
structure Jy (s:Cs) (t:Rs):Prop where
 wr:t.wr=s.wr
 z:s.wr=0→s.st=0
 o:s.wr=1→s.st=t.gd.toNat
 f:s.fd=true→t.le=s.bd∧0<t.le
 n:s.fd=false→t.le=0
theorem uo {A8:Int} (hr:10≤A8) (i:Ins):rW i=A8↔cW A8 i=true:=by
 unfold rW cW;rcases PV i with _|_
 ·simp;omega
 ·simp
theorem Jy.step {A8:Int} (h0:10≤A8) (h1:A8≤13) {pb on:Bool} {i:Ins} {k:Nat} (hg:Good i k) (hp:Hg i=true→i.a=A8→pb=on) {s:Cs} {t:Rs} (h:Jy s t):Jy (Nc A8 pb s i) (Ll A8 on (Lh A8 on t i) i):=by
 have hc:i.op=15→i.c=0:=fun e=>by
  have h15:k=15:=by have:=hg.op;omega
  subst h15;have h2:=hg.c;rw [show (Db 15).Kg=0 by decide] at h2;omega
 have hi:i.op=25→1≤i.AG:=fun e=>by
  have h25:k=25:=by have:=hg.op;omega
  subst h25;have h2:=hg.AG;rw [show M9 25=1 by decide] at h2;omega
 have hB:cB A8 i=true→pb=on:=fun hb=>by
  unfold cB at hb;simp only [EY,DK] at hb;refine hp ?_ hb.2;unfold Hg;simp only [EY,aS,DK];exact⟨⟨by omega,by omega⟩,.inl hb.1⟩
 have hS:cS A8 i=true→pb=on:=fun hs=>by
  unfold cS at hs;have hs:=GQ hs;subst hs;refine hp ?_ rfl;simp [Hg];omega
 have h2:Jy ⟨s.wr+(cW A8 i).toNat,s.st+(cW A8 i && (cS A8 i && pb)).toNat,s.bd,s.fd⟩ (Lh A8 on t i):=by
  unfold Lh;by_cases hw:rW i=A8
  ·rw [AE hw]
   have hw':=(uo h0 i).1 hw;have ha:i.a=A8:=by
    unfold cW at hw';simp only [EY,DK] at hw';exact hw'.2
   have hgd:(cS A8 i && pb)=(decide (i.op=15) && (decide (i.b=A8) && (decide (i.AG=1) && on))):=by
    by_cases hs:cS A8 i=true
    ·have hpb:=hS hs
     have hs':=GQ (show decide (i=⟨15,A8,A8,0,1⟩)=true from hs);rw [hs,hs',hpb];simp
    ·have hs':¬i=⟨15,A8,A8,0,1⟩:=fun e=>hs (AR e)
     have hs2:cS A8 i=false:=by simpa using hs
     rw [hs2];by_cases h15:i.op=15
     ·by_cases hb:i.b=A8
      ·by_cases hm:i.AG=1
       ·exact absurd (by obtain⟨o,a,b,c,m⟩:=i;simp only at h15 hb hm ha hc;have:=hc h15;subst h15 hb hm ha this;rfl) hs'
       ·simp [hm]
      ·simp [hb]
     ·simp [h15]
   rw [hw',← hgd];refine⟨by simp [h.wr],fun hz=>by simp at hz,fun ho=>?_,h.f,h.n⟩;have hz:s.wr=0:=by simpa using ho
   simp [h.z hz]
  ·rw [A9 hw]
   have hw':cW A8 i=false:=by
    rw [←tV,← uo h0 i];exact hw
   rw [hw'];exact⟨by simp [h.wr],by simpa using h.z,by simpa using h.o,h.f,h.n⟩
 have e:Nc A8 pb s i=⟨s.wr+(cW A8 i).toNat,s.st+(cW A8 i && (cS A8 i && pb)).toNat,if (cB A8 i && pb && (!s.fd || decide (i.AG<s.bd)))=true then i.AG else s.bd,s.fd || (cB A8 i && pb && (!s.fd || decide (i.AG<s.bd)))⟩:=rfl;rw [e];generalize s.wr+(cW A8 i).toNat=w at h2 ⊢;generalize s.st+(cW A8 i && (cS A8 i && pb)).toNat=st at h2 ⊢;generalize Lh A8 on t i=u at h2 ⊢;unfold Ll;by_cases hb:cB A8 i=true
 ·have hpb:=hB hb
  have hb':=hb;unfold cB at hb';simp only [EY,DK] at hb';have hm:=hi hb'.1;rw [hb,hpb];rcases on with _|_
  ·rw [A9 AO]
   simpa using h2
  ·have hf:=h2.f
   have hn:=h2.n;simp only at hf hn;rcases hfd:s.fd with _|_
   ·rw [hfd] at hn
    have hl:=hn rfl;have e2:(if i.op=25∧i.a=A8∧true=true∧(u.le=0∨i.AG<u.le) then (⟨u.wr,u.gd,i.AG⟩:Rs) else u)=⟨u.wr,u.gd,i.AG⟩:=AE ⟨hb'.1,hb'.2,rfl,.inl hl⟩;rw [e2];refine⟨h2.wr,h2.z,h2.o,fun _=>⟨by simp,by show 0<i.AG;omega⟩,fun hh=>by simp at hh⟩
   ·rw [hfd] at hf
    obtain⟨hl,hp0⟩:=hf rfl;by_cases hlt:i.AG<s.bd
    ·have e2:(if i.op=25∧i.a=A8∧true=true∧(u.le=0∨i.AG<u.le) then (⟨u.wr,u.gd,i.AG⟩:Rs) else u)=⟨u.wr,u.gd,i.AG⟩:=AE ⟨hb'.1,hb'.2,rfl,.inr A0⟩
     rw [e2];refine⟨h2.wr,h2.z,h2.o,fun _=>⟨by simp [hlt],by show 0<i.AG;omega⟩,fun hh=>by simp at hh⟩
    ·have e2:(if i.op=25∧i.a=A8∧true=true∧(u.le=0∨i.AG<u.le) then (⟨u.wr,u.gd,i.AG⟩:Rs) else u)=u:=A9 (by rintro⟨-,-,-,h5|h5⟩<;>omega)
     rw [e2];refine⟨h2.wr,h2.z,h2.o,fun _=>⟨by simp [hlt,hl],hp0⟩,fun hh=>by simp at hh⟩
 ·have hb2:cB A8 i=false:=by simpa using hb
  have hb3:¬(i.op=25∧i.a=A8):=fun hh=>hb (by unfold cB;simp [hh]);have e2:(if i.op=25∧i.a=A8∧on=true∧(u.le=0∨i.AG<u.le) then (⟨u.wr,u.gd,i.AG⟩:Rs) else u)=u:=A9 (fun hh=>hb3 ⟨hh.1,hh.2.1⟩);rw [hb2,e2];simpa using h2
theorem Jy.list {A8:Int} (h0:10≤A8) (h1:A8≤13) {pb on:Bool}:∀(l:List Ins),(∀i∈l,∃k,Good i k)→(∀i∈l,Hg i=true→i.a=A8→pb=on)→∀ {s:Cs} {t:Rs},Jy s t→Jy (He A8 pb s l) (FZ A8 on t l)
 | [],_,_,s,t,h=>h
 | i :: l,hg,hp,s,t,h=>by
  unfold He FZ;rw [Me,Me];obtain⟨k,hk⟩:=hg i AO;exact Jy.list h0 h1 l (fun x hx=>hg x (by simp [hx])) (fun x hx=>hp x (by simp [hx])) (h.step h0 h1 hk (hp i AO))
theorem Jy.all {A8:Int} (h0:10≤A8) (h1:A8≤13) {inl pl:List Bool} {inr on:Nat→Bool} {C:List (List Ins)} (hg:∀l∈C,∀i∈l,∃k,Good i k) (hin:∀b,b<C.length→inl.getD b false=inr b) (hp:∀b,b<C.length→inr b=true→∀i∈C.getD b [],Hg i=true→pl.getD b false=on b):∀k,k≤C.length→Jy (F0 A8 inl pl C k) (Fj A8 inr on C k)
 | 0,_=>⟨rfl,fun _=>rfl,fun h=>absurd h (by show ¬(0:Nat)=1;omega),fun h=>absurd h (by show ¬false=true;decide),fun _=>rfl⟩
 | k+1,hk=>by
  have ih:=Jy.all h0 h1 hg hin hp k A0;rw [oP];have e:F0 A8 inl pl C (k+1)=Vq A8 inl pl C (F0 A8 inl pl C k) k:=by
   unfold F0;rw [J5,PR];rfl
  rw [e];generalize F0 A8 inl pl C k=s at ih ⊢;generalize Fj A8 inr on C k=t at ih ⊢;unfold Vq kJ;rw [hin k A0];split
  ·rename_i hi
   have e2:C.getD k []=C[k]:=by simp [List.getD,Aj (show k<C.length by omega)]
   exact Jy.list h0 h1 _ (fun i hi'=>hg _ (Cn (show k<C.length by omega)) i (by rw [←e2];exact hi')) (fun i hi' hc _=>hp k A0 hi i hi' hc) ih
  ·exact ih
theorem Jy.res {A8:Int} {s:Cs} {t:Rs} (h:Jy s t):(Ji A8 t).2=(Io A8 s).2∧((Io A8 s).2=true→(Ji A8 t).1=(Io A8 s).1)∧((Io A8 s).2=false→(Io A8 s).1=0):=by
 unfold Ji Io;by_cases hr:A8<10∨13<A8
 ·rw [AE hr,AE hr]
  exact⟨rfl,fun _=>rfl,fun _=>rfl⟩
 ·rw [A9 hr,A9 hr,h.wr]
  by_cases hw:s.wr=1
  ·have ho:=h.o hw
   rcases hf:s.fd with _|_
   ·have:=h.n hf
    rw [AE AO];exact⟨by simp [this],fun h=>by simp at h,fun _=>rfl⟩
   ·have:=h.f hf
    rcases hgd:t.gd with _|_
    ·rw [hgd] at ho
     rw [AE (.inr (.inl (by rw [ho];decide)))];exact⟨by simp,fun h=>by simp at h,fun _=>rfl⟩
    ·rw [hgd] at ho
     rw [A9 (by simp [hw,ho])];exact⟨by simp [hw,this.2],fun _=>this.1,fun h=>by simp at h⟩
  ·rw [AE (.inl hw)]
   exact⟨by simp [hw],fun h=>by simp at h,fun _=>rfl⟩
def Bj (L:List (List Int)) (b:Nat):List Nat:=(L.getD b []).map Int.toNat
structure NL (L:List (List Int)) (n:Nat):Prop where
  len:L.length=n
  le:n≤5000
  row:∀l∈L,l.length≤5000
  nx:∀l∈L,∀t∈l,0≤t∧t<(n:Int)
theorem ZL {L:List (List Int)} {b:Nat} {l:List Int} (h:L[b]?=some l):Bj L b=l.map Int.toNat:=by unfold Bj;rw [List.getD,h];rfl
theorem NL.lt {L:List (List Int)} {n:Nat} (h:NL L n):∀x,∀t∈Bj L x,t<n:=fun x t ht=>by
  by_cases hx:x<L.length
  · have e:L[x]?=some L[x]:=Aj hx
    rw [ZL e] at ht;obtain⟨z,hz,rfl⟩:=Bx.1 ht;have:=h.nx _ (Cn hx) z hz;omega
  · unfold Bj at ht
    rw [List.getD,E0 A0] at ht;simp at ht
theorem apx {nx:Nat→List Nat} {n:Nat} (hn:0<n) (hlt:∀x,∀t∈nx x,t<n):∀x l,Path nx x l→∀z∈l,z<n:=by
  intro x l h;induction h with
  | nil => intro z hz;obtain rfl:z=0:=by simpa using hz
           exact hn
  | @step p y l h1 h2 ih=>
    intro z hz;rcases Di.1 hz with rfl|hz
    · exact hlt _ _ h2
    · exact ih z hz
def aph (L:List (List Int)) (s:Int) (n:Nat) (bl:List Bool):Prop:=bl.length=n∧∀x,sn bl x↔RA (Bj L) s x
def aoZ (w w':World) (L:List (List Int)) (s:Int) (n:Nat) (e:Ending):Prop:=∃g bl,e=.returned (.slice (some ⟨g,0,none⟩) n n)∧w'.ownsRow w.heap.size 4 1 (.slice (some ⟨g,0,none⟩) n n) n (Dg bl)∧aph L s n bl
theorem jJ (n:Nat) (x:Nat):¬sn (List.replicate n false) x:=by
  unfold sn;rw [List.getD,dB];split<;>simp
theorem nB (v:Value) (L:List (List Int)) (n:Nat) (s:Int) (w:World) (HL:CO w v L) (HN:NL L n) (hn:0<n) :
    Calls Tryz.prog 102 #[v,.int .i64 s] w fun e w'=>aoZ w w' L s n e∧Below w.heap.size w w':=by
  obtain⟨A,cap,rfl,h1,h2⟩:=HL.slice;have hL:=HN.len;have h5:=HN.le;have La:=A3 HL;have II:=A3 HN;have HLEN:=A3 hL;rw [hL] at h1 ⊢;obtain⟨iB,Nh,hB0,hB1,hB2⟩:=D5 WY;obtain⟨U1,lm,CB,gr1⟩:=O7 (P:=Tryz.prog) w w.heap.size 55 4 iB (.bool false) 1 U8 Nh hB0 hB1 .i64 .i64 n (by rw [hB2];omega) Bc (AH _);rw [Mk,show (Value.bool false).cells=#[Value.bool false] from rfl,Ni] at CB;have bU:Below w.heap.size w U1:=(AP _ _).grown gr1 (AH _) (fun k hk=>by cases hk);obtain⟨g,hg⟩:∃q,w.heap.size=q:=⟨_,rfl⟩;rw [hg] at lm CB;have hG:=A3 hg;have dn0:((n:Int)==0)=false:=by simp;omega
  have ET:=A3 (apx hn HN.lt);have Yf:U1.ownsRow w.heap.size 4 1 (.slice (some ⟨g,0,none⟩) n n) n (Dg (List.replicate n false)):=by rw [hg];simpa [Dg] using CB
  have HR:=A3 Yf;have HB:=A3 bU;clear HL HN hL Nh hB0 hB1 hB2 iB gr1 CB Yf hg;go_enter Tryz.func102,Tryz.ntmps102;by_cases hs:s=0
  · have ds:(s==0)=true:=by simp [hs]
    have HS:=A3 hs;clear hs bU;go_wp2_with fail;go_ret;refine⟨⟨g,_,rfl,HR.out,by simp,fun x=>?_⟩,HB.out⟩;rw [HS.out];exact⟨fun h=>absurd h (jJ n x),fun h=>absurd h RA.no⟩
  have ds:(s==0)=false:=by simp [hs]
  have HS:=A3 hs;have r1:=(HR.out.stored 0 (.bool true)).1;have f0:=HR.out.frozenAt 0;have x0:=Kv HR.out AO hn;have sg:=HR.out.lt g rfl;rw [VB] at r1;have OW:=A3 r1;have Td:=A3 (bU.setCell (p:=⟨g,0,none⟩) sg.1 (.bool true));have sg2:=sg.2;have dn:(0:Int)<(n:Int):=by omega
  have HST:=A3 (show Mo (Bj L) s 0 (sn ((List.replicate n false).set 0 true)) from by
    rw [Xz (by simpa using hn)];refine⟨fun x hx=>?_,fun x l h1 h2 h3=>?_⟩
    · rcases hx with hx|rfl
      · exact absurd hx (jJ n x)
      · exact RA.zero hs
    · cases h1 with
      | nil=>exact .inr rfl
      | @step p _ l h4 h5=>
        have:0<l.length:=List.length_pos_of_mem h4.head;rw [GD] at h3
        omega)
  clear hs bU r1 sg;go_upto_region 6 with fail;clear x0 f0 lm sg2 HR HB;go_loopw [6,7,8] (fun a6 a7 a8 wr=>∃(r:Nat) (bl:List Bool),r≤n∧a6=.int .i64 (r:Int)∧bl.length=n∧wr.ownsRow w.heap.size 4 1 (.slice (some ⟨g,0,none⟩) n n) n (Dg bl)∧Mo (Bj L) s r (sn bl)∧Below w.heap.size w wr) (fun a6 _ _ _=>n - (intOf a6).toNat);case atStart=>exact⟨0,_,by omega,rfl,by simp,OW.out,HST.out,Td.out⟩
  case round=>
    clear OW HST Td;obtain⟨r,bl,hr,rfl,hbl,hrow,hrnd,hb⟩:=hrel;have CT:=A3 hrow;have Rh:=A3 hrnd;have HB:=A3 hb;have Dy:=A3 hbl;clear hrow hrnd hb hbl;by_cases YC:r<n
    · have dr:decide ((r:Int)<(n:Int))=true:=AR A0
      go_upto_region 9 with fail;obtain⟨wo,rfl⟩:∃wo:World,wo=wr:=⟨_,rfl⟩;go_loopw [7,8] (fun a7 a8 wr=>∃(i:Nat) (bl:List Bool),i≤n∧a7=.int .i64 (i:Int)∧bl.length=n∧wr.ownsRow w.heap.size 4 1 (.slice (some ⟨g,0,none⟩) n n) n (Dg bl)∧KH (Bj L) s r (· < i) (sn bl)∧Below w.heap.size w wr) (fun a7 _ _=>n - (intOf a7).toNat);case atStart=>exact⟨0,bl,by omega,rfl,Dy.out,CT.out,by have:=KH.start Rh.out;simpa using this,HB.out⟩
      case round=>
        clear CT Rh HB Dy bl;obtain⟨i,bl,hi,rfl,hbl,hrow,Yb,hb⟩:=hrel;have CT:=A3 hrow;have LJ:=A3 Yb;have HB:=A3 hb;have Dy:=A3 hbl;clear hrow Yb hb hbl;by_cases hin:i<n
        · have di:decide ((i:Int)<(n:Int))=true:=AR A0
          obtain⟨x,nv,b,off,hx,hA,vV,c1,hI⟩:=(HLEN.out▸La.out:CO w (.slice A L.length cap) L).at_ (AP _ _) (j:=i) (by rw [HLEN.out];exact hin);obtain⟨NA,C6,rfl,hn1,hn2⟩:=hI.slice;obtain⟨m,hm⟩:=AA x.length;have hm5:m≤5000:=by rw [←hm];exact II.out.row x (Bf hx)
          rw [hm] at c1 hn1;have HX:=A3 hx;have HI:=A3 hI;have HM:=A3 hm;have CW:=A3 c1;have Cw:=A3 (II.out.nx x (Bf hx));subst hA;clear c1 hx hI hm;go_upto_region 12 with fail;obtain⟨wo,rfl⟩:∃wo:World,wo=wr:=⟨_,rfl⟩;go_loopw [8] (fun a8 wr=>∃(k:Nat) (bm:List Bool),k≤m∧a8=.int .i64 (k:Int)∧bm.length=n∧wr.ownsRow w.heap.size 4 1 (.slice (some ⟨g,0,none⟩) n n) n (Dg bm)∧(∀y,sn bl y→sn bm y)∧(∀y,sn bm y→RA (Bj L) s y)∧(sn bl i→∀t∈x.take k,t≠s→sn bm t.toNat)∧Below w.heap.size w wr) (fun a8 _=>m - (intOf a8).toNat);case atStart=>exact⟨0,bl,by omega,rfl,Dy.out,CT.out,fun _ h=>h,LJ.out.Ov.only,fun _ t ht=>by simp at ht,HB.out⟩
          case round=>
            clear CT HB;obtain⟨k,bm,hk,rfl,GU,hrow,hg1,hg2,hg3,hb⟩:=hrel;have c1:wr.cell? ⟨b,off+i,none⟩=some (.slice NA m C6):=(hb.cell (p:=⟨b,off+i,none⟩) vV).trans CW.out;have sb:b<wr.heap.size:=by have:=hb.size;omega
            have CT:=A3 hrow;have Ek:=A3 hg1;have H6:=A3 hg2;have M4:=A3 hg3;have HB:=A3 hb;have FW:=A3 GU;by_cases hkm:k<m
            · have dk:decide ((k:Int)<(m:Int))=true:=AR A0
              obtain⟨t,tb,amu,ht,hN,htb,y1⟩:=(HM.out▸HI.out:Ints w (.slice NA x.length C6) x).at_ hb (j:=k) (by rw [HM.out];exact hkm);subst hN;have HT:=A3 (H8 ht);have htn:=Cw.out t (Bf ht);obtain⟨tn,rfl⟩:∃tn:Nat,t=(tn:Int):=⟨t.toNat,by omega⟩;have Yc:tn<n:=by omega
              have Vc:=A3 (show tn∈Bj L i by rw [ZL HX.out];exact Bx.2 ⟨(tn:Int),Bf ht,by simp⟩);have stb:tb<wr.heap.size:=by have:=hb.size;omega
              have x1:=Kv hrow GU hin;have sg2:=(hrow.lt g rfl).2;obtain⟨bi,Gy⟩:∃b,bm.getD i false=b:=⟨_,rfl⟩;rw [Gy] at x1;have Gk:=A3 Gy;clear ht hrow hg1 hg2 hg3 hb GU Gy;cases bi with
              | false=>
                have JZ:=A3 (show sn bl i→∀t∈x.take (k+1),t≠s→sn bm t.toNat from fun h=>by
                  have:=Ek.out i h;unfold sn at this;rw [Gk.out] at this
                  cases this)
                go_wp2_with fail;go_roundw;case rel=>exact⟨k+1,bm,by omega,by go_num,FW.out,CT.out,Ek.out,H6.out,JZ.out,HB.out⟩
                case measure=>exact Aa
              | true=>
                by_cases hts:(tn:Int)=s
                · have dts:((tn:Int) != s)=false:=by simp [hts]
                  have JZ:=A3 (show sn bl i→∀t∈x.take (k+1),t≠s→sn bm t.toNat from fun h t ht h2=>by
                    rw [HT.out] at ht;rcases CG.1 ht with ht|ht
                    · exact M4.out h t ht h2
                    · obtain rfl:t=(tn:Int):=by simpa using ht
                      exact absurd hts h2)
                  clear hts;go_wp2_with fail;go_roundw;case rel=>exact⟨k+1,bm,by omega,by go_num,FW.out,CT.out,Ek.out,H6.out,JZ.out,HB.out⟩
                  case measure=>exact Aa
                · have dts:((tn:Int) != s)=true:=by simp [hts]
                  have WA:=A3 hts;have Qx:=Xz (s:=bm) (t:=tn) (by rw [FW.out];exact Yc);have Tv:=A3 Qx;have f1:=CT.out.frozenAt tn;have x2:=Kv CT.out FW.out Yc;have r1:=(CT.out.stored tn (.bool true)).1;rw [VB] at r1;have R1:=A3 r1;have B1:=A3 (HB.out.setCell (p:=⟨g,tn,none⟩) (CT.out.lt g rfl).1 (.bool true));have NJ:=A3 (show (bm.set tn true).length=n by rw [NP];exact FW.out);have H1:=A3 (show ∀y,sn bl y→sn (bm.set tn true) y from fun y hy=>by rw [Tv.out];exact .inl (Ek.out y hy));have H2:=A3 (show ∀y,sn (bm.set tn true) y→RA (Bj L) s y from fun y hy=>by
                    rw [Tv.out] at hy;rcases hy with hy|rfl
                    · exact H6.out y hy
                    · exact (H6.out i Gk.out).step Vc.out WA.out)
                  have H3:=A3 (show sn bl i→∀t∈x.take (k+1),t≠s→sn (bm.set tn true) t.toNat from fun h t ht h2=>by
                    rw [HT.out] at ht;rw [Tv.out];rcases CG.1 ht with ht|ht
                    · exact .inl (M4.out h t ht h2)
                    · obtain rfl:t=(tn:Int):=by simpa using ht
                      exact .inr AO)
                  clear hts Qx r1;go_wp2_with fail;go_roundw;case rel=>exact⟨k+1,_,by omega,by go_num,NJ.out,R1.out,H1.out,H2.out,H3.out,B1.out⟩
                  case measure=>exact Aa
            · obtain rfl:m=k:=by omega
              have dk:decide ((m:Int)<(m:Int))=false:=by simp
              have HF:=A3 (show KH (Bj L) s r (· < i+1) (sn bm) from LJ.out.next Ek.out H6.out (fun y hy=>by
                by_cases e:y=i
                · subst e
                  refine .inr fun h z hz hs=>?_;rw [ZL HX.out] at hz;obtain⟨t,ht,rfl⟩:=Bx.1 hz;have h0:=Cw.out t ht;have:=M4.out h t (by rw [Gq fZ];exact ht) A0;exact this
                · exact .inl A0))
              clear hrow hg1 hg2 hg3 hb GU;go_wp2_with fail;go_roundw;case rel=>exact⟨i+1,bm,by omega,by go_num,FW.out,CT.out,HF.out,HB.out⟩
              case measure=>exact Aa
        · obtain rfl:n=i:=by omega
          have di:decide ((n:Int)<(n:Int))=false:=by simp
          have HF:=A3 (show Mo (Bj L) s (r+1) (sn bl) from LJ.out.done (fun x l h=>ET.out x l h x h.head));go_wp2_with fail;go_roundw;case rel=>exact⟨r+1,bl,by omega,by go_num,Dy.out,CT.out,HF.out,HB.out⟩
          case measure=>exact Aa
    · obtain rfl:n=r:=by omega
      have dr:decide ((n:Int)<(n:Int))=false:=by simp
      go_wp2_with fail;go_ret;exact⟨⟨g,bl,rfl,CT.out,Dy.out,fun x=>Rh.out.done ET.out x⟩,HB.out⟩
theorem jG (v:Value) (L:List (List Int)) (n:Nat) (ord:List Nat) (pos:Nat→Nat) (a b:Nat) (w:World) (HL:CO w v L) (HN:NL L n) (gr:Gr n (Bj L) ord pos) (ha:a<n) (hb:b<n) :
  Calls Tryz.prog 103 #[v,.int .i64 (a:Int),.int .i64 (b:Int)] w fun e w'=>Vs (Tt (Bj L) ord a b) e∧Below w.heap.size w w':=by
 have La:=A3 HL;have II:=A3 HN;have GR:=A3 gr;have hn:=gr.n0;obtain⟨A,cap,rfl,h1,h2⟩:=HL.slice;have ia:(a:Int)<(n:Int):=by omega
 have ib:(b:Int)<(n:Int):=by omega
 clear HL HN gr;go_enter Tryz.func103,Tryz.ntmps103;by_cases hab:a=b
 ·have dab:((a:Int)==(b:Int))=true:=by simp [hab]
  have H:=A3 hab;clear hab;go_wp2_with fail;go_ret;exact⟨⟨true,rfl,⟨fun _=>.inl H.out,fun _=>rfl⟩⟩,AP _ _⟩
 have dab:((a:Int)==(b:Int))=false:=by simp;omega
 have HAB:=A3 hab;clear hab;go_wp2_with fail;refine (nB _ L n _ _ La.out II.out hn).mono ?_;rintro e w1 ⟨⟨g1,bl1,rfl,ku,hB1⟩,hb1⟩;have x1:=Kv ku hB1.1 ha;obtain⟨r1,hr1⟩:∃r,bl1.getD a false=r:=⟨_,rfl⟩;have H1:=A3 (show r1=true↔a∈ord by rw [←hr1,← RA.all GR.out];exact hB1.2 a);have sg1:=(ku.lt g1 rfl).2;rw [hr1] at x1;have Td:=A3 hb1;clear hr1 ku hB1 hb1;cases r1 with
 | false=>
  go_wp2_with fail;go_ret;refine⟨⟨false,rfl,⟨fun h=>UD,fun h=>?_⟩⟩,Td.out⟩;rcases h with h|h
  ·exact absurd h HAB.out
  ·exact H1.out.2 h.1
 | true=>
  go_wp2_with fail;refine (nB _ L n _ _ (La.out.below Td.out) II.out hn).mono ?_;rintro e w2 ⟨⟨g2,bl2,rfl,hrow2,hB2⟩,hb2⟩;have x2:=Kv hrow2 hB2.1 hb;obtain⟨r2,hr2⟩:∃r,bl2.getD b false=r:=⟨_,rfl⟩;have H2:=A3 (show r2=true↔RA (Bj L) (a:Int) b by rw [←hr2];exact hB2.2 b);have sg2:=(hrow2.lt g2 rfl).2;rw [hr2] at x2;have Ga:=A3 (Td.out.trans (hb2.mono Td.out.size));clear hr2 hrow2 hB2 hb2 x1;go_wp2_with fail;go_ret;refine⟨⟨!r2,rfl,?_⟩,Ga.out⟩;rw [Bool.not_eq_true',← tV,H2.out,RA.dom];exact⟨fun h=>.inr ⟨H1.out.1 Lz,h⟩,fun h=>by
   rcases h with h|h
   ·exact absurd h HAB.out
   ·exact h.2⟩
theorem Gr.nodup {n:Nat} {nx:Nat→List Nat} {ord:List Nat} {pos:Nat→Nat} (g:Gr n nx ord pos):ord.Nodup:=by
 unfold List.Nodup;rw [Qr];intro i j hi hj hij e;have h1:=g.at_ i _ (Aj hi);have h2:=g.at_ j _ (Aj hj);rw [e] at h1;omega
theorem Gr.aoT {n:Nat} {nx:Nat→List Nat} {ord:List Nat} {pos:Nat→Nat} (g:Gr n nx ord pos) {b:Nat} (hb:b∈ord):pos b<n:=by
 have h1:=(Bl.1 (g.idx hb)).1;have h2:=OS g.nodup g.lt;omega
theorem aq8 (v:Value) (n:Nat) (nx:Nat→List Nat) (ord:List Nat) (pos:Nat→Nat) (D:List Int) (a b:Nat) (w:World) (HI:Ints w v D) (gr:Gr n nx ord pos) (it:IM n nx ord pos D) (ha:a<n) (hb:b<n) (NT:b∈ord) (hn5:n≤5000) :
  Calls Tryz.prog 82 #[v,.int .i64 (a:Int),.int .i64 (b:Int)] w fun e w'=>Vs (Ah D b a) e∧w=w':=by
 have hl:=it.ti.len;obtain⟨A,cap,rfl,h1,h2⟩:=HI.slice;have HH:=A3 HI;have GR:=A3 gr;have IT:=A3 it;have HLEN:=A3 hl;have HAO:=A3 NT;rw [hl] at h1 ⊢;have d1:decide ((a:Int)<0)=false:=Aq A0;have d2:decide ((n:Int)≤(a:Int))=false:=Aq A0;have d3:decide ((b:Int)<0)=false:=Aq A0;have d4:decide ((n:Int)≤(b:Int))=false:=Aq A0;have d4':decide (n≤b)=false:=Aq A0;have d2':decide (n≤a)=false:=Aq A0;clear HI gr it hl NT;go_enter Tryz.func82,Tryz.ntmps82;go_upto_region 4 with fail;clear d1 d2 d3 d4 d4' d2';go_loop [7,2] (fun a7 a2=>∃(k:Nat) (y:Int),a7=.int .i64 (k:Int)∧a2=.int .i64 y∧((∃c:Nat,y=(c:Int)∧c∈ord∧pos c+k≤pos b∧(Ah D b a↔Ah D c a))∨(y = -1∧k≤n∧¬Ah D b a))) (fun a7 _=>n+1 - (intOf a7).toNat)
 case atStart=>exact⟨0,(b:Int),rfl,rfl,.inl ⟨b,rfl,HAO.out,by omega,Iff.rfl⟩⟩
 case round=>
  obtain⟨k,y,rfl,rfl,hy⟩:=hrel;rcases hy with⟨c,rfl,hc,hp,hA⟩|⟨rfl,hk,hA⟩
  ·have hpb:=GR.out.aoT HAO.out
   have hk9:k≤5000:=by omega
   have hkn:k<n:=by omega
   have Ge:=GR.out.lt c hc;have dk:decide (k≤n)=true:=AR A0;have dk':decide ((k:Int)≤(n:Int))=true:=AR A0;have dc:decide ((0:Int)≤(c:Int))=true:=AR A0;have dc2:decide ((c:Int)<(n:Int))=true:=AR A0;have dc3:decide (c<n)=true:=AR Ge;have icn:(c:Int)<(n:Int):=by omega
   have HA:=A3 hA;have HC:=A3 hc;have HP:=A3 hp;clear hA hc hp;by_cases hac:a=c
   ·have dac:((a:Int)==(c:Int))=true:=by simp [hac]
    have HF:=A3 (show Ah D b a from HA.out.2 (by rw [hac];exact .self c));clear hac;go_wp2_with fail;go_ret;exact⟨⟨true,rfl,⟨fun _=>HF.out,fun _=>rfl⟩⟩,rfl⟩
   ·have dac:((a:Int)==(c:Int))=false:=by simp;omega
    obtain⟨t,b',o,ht,hA',hb',c1⟩:=(HLEN.out▸HH.out:Ints w (.slice A D.length cap) D).at_ (AP _ _) (j:=c) (by rw [HLEN.out];exact Ge);subst hA';have het:D.getD c (-1)=t:=by rw [List.getD,ht];rfl
    have HAC:=A3 hac;have HE:=A3 het;have WW:=IT.out.case c;rw [het] at WW;have TP:=A3 WW;clear hac ht het WW;go_wp2_with fail
    go_round
    case rel=>
     refine⟨k+1,t,by go_num,rfl,?_⟩;rcases TP.out with h|⟨x,h⟩
     ·subst h
      refine .inr ⟨rfl,by have:=HP.out;omega,fun h=>?_⟩;have h2:=HA.out.1 h;cases h2 with
      | self=>exact HAC.out rfl
      | up h3 _=>rw [HE.out] at h3;omega
     ·subst h
      have hu:=IT.out.ti.up c x HE.out;refine .inl ⟨x,rfl,hu.2.1,by have:=HP.out;have:=hu.2.2.1;omega,?_⟩;rw [HA.out,Ah.step HE.out];exact⟨fun h=>h.resolve_left HAC.out,.inr⟩
    case measure=>exact Aa
  ·have dk:decide (k≤n)=true:=AR A0
   have dk':decide ((k:Int)≤(n:Int))=true:=AR A0;have HA:=A3 hA;clear hA;go_wp2_with fail;go_ret;exact⟨⟨false,rfl,⟨fun h=>UD,fun h=>absurd h HA.out⟩⟩,rfl⟩
def Ol (nx:Nat→List Nat) (ord:List Nat) (b a c:Nat):Prop:=c≠b∧c≠a∧c∈ord∧Tt nx ord c b∧¬Tt nx ord c a
def mJ (n:Nat) (nx:Nat→List Nat) (ord:List Nat) (b a:Nat) (f:Int):Prop:=(f = -1∧∀x,x<a→¬RH n nx ord b x)∨∃x:Nat,f=(x:Int)∧RH n nx ord b x
theorem amm (v:Value) (L:List (List Int)) (n:Nat) (ord:List Nat) (pos:Nat→Nat) (D:List Int) (w:World) (HL:CO w v L) (HN:NL L n) (gr:Gr n (Bj L) ord pos) (it:IM n (Bj L) ord pos D) :
  Calls Tryz.prog 83 #[v] w fun e w'=>(∃dv,e=.returned dv∧Ints w' dv D)∧Below w.heap.size w w':=by
 have La:=A3 HL;have II:=A3 HN;have GR:=A3 gr;have IT:=A3 it;have hn:=gr.n0;have h5:=HN.le;obtain⟨A,cap,rfl,h1,h2⟩:=HL.slice;have hL:=HN.len;have HLEN:=A3 hL;have XL:=A3 it.ti.len;rw [hL] at h1 ⊢;rw [hL] at La;obtain⟨iI,E5,E7,DT,Dw⟩:=D5 NQ;clear HL HN gr it hL;go_enter Tryz.func83,Tryz.ntmps83;go_wp2_with fail;refine (nB _ L n _ _ La.out II.out hn).mono ?_;rintro e W ⟨⟨g,bl,rfl,hrow,hB⟩,hb⟩;have CT:=A3 hrow;have Dy:=A3 hB.1;have Ei:=A3 (show ∀x,sn bl x↔x∈ord from fun x=>(hB.2 x).trans (RA.all GR.out));have BW:=A3 hb;have sW:=hb.size;clear hrow hB hb;go_upto_region 4 with fail;go_loopw [3,5,6,7,8,9] (fun a3 a5 a6 a7 a8 a9 wr=>∃b:Nat,b≤n∧a5=.int .i64 (b:Int)∧wr.ownsRow W.heap.size 3 1 a3 (D.take b).length (Av (D.take b))∧Below W.heap.size W wr) (fun _ a5 _ _ _ _ _=>n - (intOf a5).toNat);case atStart=>exact⟨0,by omega,rfl,JV _ _ _ _,AP _ _⟩
 case round=>
  obtain⟨b,Cc,rfl,hrow,hb⟩:=hrel;have WU:=A3 hrow;have HB:=A3 hb;have sb:=hb.size;clear hrow hb;by_cases hlt:b<n
  ·have db:decide ((b:Int)<(n:Int))=true:=AR A0
   have ibn:(b:Int)<(n:Int):=by omega
   go_upto_region 8 with fail;obtain⟨wo,rfl⟩:∃wo:World,wo=wr:=⟨_,rfl⟩;obtain⟨rb,hrb⟩:∃r,bl.getD b false=r:=⟨_,rfl⟩;have PW:=A3 (show rb=true↔b∈ord by rw [←hrb];exact Ei.out b);have xb0:=Kv CT.out Dy.out hlt;rw [hrb] at xb0;have XB:=A3 xb0;have sgW:=(CT.out.lt g rfl).2;clear hrb xb0;go_loopw [6,7,8,9] (fun a6 a7 a8 a9 wx=>∃(a:Nat) (f:Int),a≤n∧a7=.int .i64 (a:Int)∧a6=.int .i64 f∧mJ n (Bj L) ord b a f∧Below wo.heap.size wo wx) (fun _ a7 _ _ _=>n - (intOf a7).toNat);case atStart=>exact⟨0,-1,by omega,rfl,rfl,.inl ⟨rfl,fun x h=>by omega⟩,AP _ _⟩
   case round=>
    obtain⟨a,f,UX,rfl,rfl,hf,JC⟩:=hrel;have HF:=A3 hf;have Co:=A3 JC;have sx:=JC.size;have bWx:Below W.heap.size W wr:=HB.out.trans (JC.mono HB.out.size);have xb:wr.cell? ⟨g,b,none⟩=some (.bool rb):=(bWx.cell (p:=⟨g,b,none⟩) sgW).trans XB.out;have sg:g<wr.heap.size:=by omega
    have Oe:=A3 bWx;clear hf JC bWx;have pS:=A3 (show (a=n∨b=0∨rb=false)→f=D.getD b (-1) from fun h=>by
     have hno:(b=0∨rb=false)→∀x,¬RH n (Bj L) ord b x:=fun h x hx=>by
      rcases h with h|h
      ·have:=hx.b0;omega
      ·have:=PW.out.2 hx.hb;rw [h] at this;cases this
     rcases IT.out.case b with e|⟨y,e⟩
     ·rcases HF.out with h1|⟨x,h1,h2⟩
      ·rw [e];exact h1.1
      ·exact absurd h2 (IT.out.none e x)
     ·rcases HF.out with h1|⟨x,h1,h2⟩
      ·have hy:RH n (Bj L) ord b y:=(IT.out.AG GR.out e y).2 rfl
       rcases h with rfl|h
       ·exact absurd hy (h1.2 y (GR.out.lt y hy.ha))
       ·exact absurd hy (hno h y)
      ·rw [e,h1,(IT.out.AG GR.out e x).1 h2])
    have aj:=A3 (show ¬RH n (Bj L) ord b a→mJ n (Bj L) ord b (a+1) f from fun h=>by
     rcases HF.out with h1|h1
     ·exact .inl ⟨h1.1,fun x hx hi=>by
       by_cases e:x=a
       ·rw [e] at hi;exact h hi
       ·exact h1.2 x A0 hi⟩
     ·exact .inr h1)
    by_cases hex:a<n∧0<b∧rb=true;case neg=>
     have HE:=A3 (pS.out (by
      by_cases h1:a<n
      ·by_cases h2:0<b
       ·exact .inr (.inr (by cases rb with|false=>rfl|true=>exact absurd ⟨h1,h2,rfl⟩ hex))
       ·exact .inr (.inl A0)
      ·exact .inl A0))
     have hout:=WU.out;have hol:(D.take b).length=b:=by rw [RM,XL.out];omega
     rw [hol] at hout;have cM:=A3 (CH hout Co.out);have HOB:=A3 (HB.out.size);have CU:=A3 (show Av (D.take b)++[Value.int .i64 f]=Av (D.take (b+1))∧(D.take (b+1)).length=b+1 from by
      have hbd:b<D.length:=by rw [XL.out];exact hlt
      refine⟨?_,by rw [RM];omega⟩;rw [G4,Aj hbd,HE.out]
      simp only [Option.toList_some,Av,Nx,Vn,XU,List.getD,Aj hbd,Option.getD_some])
     obtain⟨vA,CD,hva⟩:∃vA CD,u3=Value.slice vA b CD:=by
      rcases cM.out.2 with⟨h,h'⟩|⟨g,cap',cur,h,_⟩
      ·exact⟨_,_,by rw [h,h']⟩
      ·exact⟨_,_,h⟩
     subst hva;have HV:=A3 (show wr.ownsRow W.heap.size 3 1 (.slice vA b CD) b (Av (D.take b)) from cM.out);have I7:=A3 (show ∀W' v' row,(wr.alloc (.cells #[.int .i64 f] 3)).grownBy W' row→row=(Value.slice vA b CD).ownBlock→W'.ownsRow W.heap.size 3 1 v' (b+1) (Av (D.take b)++[.int .i64 f])→W'.ownsRow W.heap.size 3 1 v' (D.take (b+1)).length (Av (D.take (b+1)))∧Below W.heap.size W W' from fun W' v' row h1 h2 h3=>by
      subst h2;rw [CU.out.1] at h3;rw [CU.out.2]
      exact⟨h3,(Oe.out.alloc Oe.out.size _).grown h1 (by rw [El];have:=Oe.out.size;omega) (fun k hk=>(HV.out.lt k hk).1)⟩)
     have hcs:(a=n)∨(a<n∧b=0)∨(a<n∧0<b∧rb=false):=by
      by_cases h1:a<n
      ·by_cases h2:0<b
       ·exact .inr (.inr ⟨h1,h2,by cases rb with|false=>rfl|true=>exact absurd ⟨h1,h2,rfl⟩ hex⟩)
       ·exact .inr (.inl ⟨h1,by omega⟩)
      ·exact .inl A0
     clear hex hout hol WU;have dz:∃d e k,decide ((a:Int)<(n:Int))=d∧decide (a<n)=d∧decide ((0:Int)<(b:Int))=e∧decide (0<b)=e∧(d && e && k)=false∧(k=rb):=by
      refine⟨decide (a<n),decide (0<b),rb,by simp,rfl,by simp,rfl,?_,rfl⟩;rcases hcs with h|⟨h,h'⟩|⟨h,h',h''⟩
      ·simp [h]
      ·simp [h']
      ·simp [h'']
     clear hcs;obtain⟨d,e,k,d1,d1',d2,d3,hde,rfl⟩:=dz;have I1:=A3 hde;clear hde;rcases d with _|_
     case' true=>rcases e with _|_
     case' true.true=>rcases k with _|_
     case' true.true.true=>exact absurd I1.out AK
     all_goals
      go_wp2_with (at_builtin;refine Kf _ rfl (.tmp 86) (.tmp 88) 38 rfl W.heap.size 3 iI (.int .i64 0) 1 8 Ey E5 E7 DT Dw rfl AK (.slice vA b CD) b (Av (D.take b)) rfl (HV.out.alloc _) ⟨wr.heap.size,0,none⟩ 1 1 [.int .i64 f] rfl rfl (DV _ _ _) BS Bc A0 Hz ?_;intro v' W' hown' hgrow _ Ce;have F1:=A3 (I7.out W' _ _ hgrow rfl hown');clear hown' hgrow Ce);go_roundw;case rel=>exact⟨b+1,by omega,by go_num,F1.out.1,F1.out.2⟩
      case measure=>exact Aa
    obtain⟨hal,hb0,rfl⟩:=hex;have da:decide ((a:Int)<(n:Int))=true:=AR A0;have da':decide (a<n)=true:=AR hal;have db0:decide ((0:Int)<(b:Int))=true:=AR A0;have arF:decide (0<b)=true:=AR hb0;have HBO:=A3 (PW.out.1 Lz);have HB0:=A3 hb0;have ian:(a:Int)<(n:Int):=by omega
    clear hb0 pS;by_cases hab:a=b
    ·have dab:((a:Int)==(b:Int))=true:=by simp [hab]
     have Po:=A3 (aj.out (fun h=>h.ne hab));clear hab;go_wp2_with fail;go_roundw;case rel=>exact⟨a+1,f,by omega,by go_num,rfl,Po.out,Co.out⟩
     case measure=>exact Aa
    have dab:((a:Int)==(b:Int))=false:=by simp;omega
    have HAB:=A3 hab;clear hab;obtain⟨ra,YD⟩:∃r,bl.getD a false=r:=⟨_,rfl⟩;have HRA:=A3 (show ra=true↔a∈ord by rw [←YD];exact Ei.out a);have xa:=Kv (CH CT.out Oe.out) Dy.out hal;rw [YD] at xa;clear YD;cases ra with
    | false=>
     have Po:=A3 (aj.out (fun h=>by have:=HRA.out.2 h.ha;cases this));go_wp2_with fail;go_roundw;case rel=>exact⟨a+1,f,by omega,by go_num,rfl,Po.out,Co.out⟩
     case measure=>exact Aa
    | true=>
     go_wp2_with fail;refine (jG _ L n ord pos a b _ ((La.out.below BW.out).below Oe.out) II.out GR.out hal hlt).mono ?_;rintro e w2 ⟨⟨r,rfl,hr⟩,hb2⟩;have HR:=A3 hr;have s2:=hb2.size;have SC:=A3 (Co.out.trans (hb2.mono Co.out.size));have WL:=A3 (Oe.out.trans (hb2.mono Oe.out.size));clear hr hb2 xa xb;cases r with
     | false=>
      have Po:=A3 (aj.out (fun h=>by have:=HR.out.2 h.dom;cases this));go_wp2_with fail;go_roundw;case rel=>exact⟨a+1,f,by omega,by go_num,rfl,Po.out,SC.out⟩
      case measure=>exact Aa
     | true=>
      go_upto_region 13 with fail;obtain⟨wp,hwp⟩:∃wp:World,wp=wr:=⟨_,rfl⟩;clear hwp wp;go_loopw [8,9] (fun a8 a9 wy=>∃(c:Nat) (al:Bool),c≤n∧a9=.int .i64 (c:Int)∧a8=.bool al∧(al=true↔∀x,x<c→¬Ol (Bj L) ord b a x)∧Below w2.heap.size w2 wy) (fun _ a9 _=>n - (intOf a9).toNat);case atStart=>exact⟨0,true,by omega,rfl,rfl,⟨fun _ x h=>by omega,fun _=>rfl⟩,AP _ _⟩
      case round=>
       obtain⟨c,al,Ge,rfl,rfl,hAL,hby⟩:=hrel;have Yu:=A3 hAL;have BY:=A3 hby;have sy:=hby.size;have Qc:=A3 (WL.out.trans (hby.mono WL.out.size));have BXY:=A3 (SC.out.trans (hby.mono SC.out.size));clear hAL hby;have ZP:=A3 (show ¬Ol (Bj L) ord b a c→(al=true↔∀x,x<c+1→¬Ol (Bj L) ord b a x) from fun h=>by
        rw [Yu.out];exact⟨fun h1 x hx=>by
         by_cases e:x=c
         ·rw [e];exact h
         ·exact h1 x A0,fun h1 x hx=>h1 x A0⟩)
       by_cases hlc:c<n
       ·have dc:decide ((c:Int)<(n:Int))=true:=AR A0
        have icn:(c:Int)<(n:Int):=by omega
        by_cases hcb:c=b
        ·have dcb:((c:Int) != (b:Int))=false:=by simp [hcb]
         have HN:=A3 (ZP.out (fun h=>h.1 hcb));clear hcb;have NU:=A3 (show al=true↔∀x,x<c+1→¬Ol (Bj L) ord b a x from HN.out);go_wp2_with fail;go_roundw;case rel=>exact⟨c+1,al,by omega,by go_num,rfl,NU.out,BY.out⟩
         case measure=>exact Aa
        have dcb:((c:Int) != (b:Int))=true:=by simp;omega
        have PC:=A3 hcb;clear hcb;by_cases hca:c=a
        ·have dca:((c:Int) != (a:Int))=false:=by simp [hca]
         have HN:=A3 (ZP.out (fun h=>h.2.1 hca));clear hca;have NU:=A3 (show al=true↔∀x,x<c+1→¬Ol (Bj L) ord b a x from HN.out);go_wp2_with fail;go_roundw;case rel=>exact⟨c+1,al,by omega,by go_num,rfl,NU.out,BY.out⟩
         case measure=>exact Aa
        have dca:((c:Int) != (a:Int))=true:=by simp;omega
        have HCA:=A3 hca;clear hca;obtain⟨rc,hrc⟩:∃r,bl.getD c false=r:=⟨_,rfl⟩;have OJ:=A3 (show rc=true↔c∈ord by rw [←hrc];exact Ei.out c);have xc:=Kv (CH CT.out Qc.out) Dy.out hlc;have sgy:g<wr.heap.size:=by have:=Qc.out.size;omega
        rw [hrc] at xc;clear hrc;cases rc with
        | false=>
         have HN:=A3 (ZP.out (fun h=>by have:=OJ.out.2 h.2.2.1;cases this));have NU:=A3 (show al=true↔∀x,x<c+1→¬Ol (Bj L) ord b a x from HN.out);go_wp2_with fail;go_roundw;case rel=>exact⟨c+1,al,by omega,by go_num,rfl,NU.out,BY.out⟩
         case measure=>exact Aa
        | true=>
         go_wp2_with fail;refine (jG _ L n ord pos c b _ ((La.out.below BW.out).below Qc.out) II.out GR.out hlc hlt).mono ?_;rintro e w3 ⟨⟨r3,rfl,hr3⟩,hb3⟩;have E8:=A3 hr3;have s3:=hb3.size;have BY3:=A3 (BY.out.trans (hb3.mono BY.out.size));have Un:=A3 (Qc.out.trans (hb3.mono Qc.out.size));clear hr3 hb3 xc;cases r3 with
         | false=>
          have HN:=A3 (ZP.out (fun h=>by have:=E8.out.2 h.2.2.2.1;cases this));have NU:=A3 (show al=true↔∀x,x<c+1→¬Ol (Bj L) ord b a x from HN.out);go_wp2_with fail;go_roundw;case rel=>exact⟨c+1,al,by omega,by go_num,rfl,NU.out,BY3.out⟩
          case measure=>exact Aa
         | true=>
          go_wp2_with fail;refine (jG _ L n ord pos c a _ ((La.out.below BW.out).below Un.out) II.out GR.out hlc hal).mono ?_;rintro e w4 ⟨⟨r4,rfl,hr4⟩,hb4⟩;have Hr:=A3 hr4;have s4:=hb4.size;have BY4:=A3 (BY3.out.trans (hb4.mono BY3.out.size));clear hr4 hb4;cases r4 with
          | true=>
           have HN:=A3 (ZP.out (fun h=>h.2.2.2.2 (Hr.out.1 Lz)));have NU:=A3 (show al=true↔∀x,x<c+1→¬Ol (Bj L) ord b a x from HN.out);go_wp2_with fail;go_roundw;case rel=>exact⟨c+1,al,by omega,by go_num,rfl,NU.out,BY4.out⟩
           case measure=>exact Aa
          | false=>
           have HN:=A3 (show (false=true↔∀x,x<c+1→¬Ol (Bj L) ord b a x) from⟨fun h=>UD,fun h=>absurd ⟨PC.out,HCA.out,OJ.out.1 Lz,E8.out.1 Lz,fun h'=>(by have:=Hr.out.2 h';cases this)⟩ (h c A0)⟩);have NU:=A3 (show false=true↔∀x,x<c+1→¬Ol (Bj L) ord b a x from HN.out);go_wp2_with fail;go_roundw;case rel=>exact⟨c+1,false,by omega,by go_num,rfl,NU.out,BY4.out⟩
           case measure=>exact Aa
       ·obtain rfl:n=c:=by omega
        have dc:decide ((n:Int)<(n:Int))=false:=by simp
        have qz:=A3 (show (al=true↔RH n (Bj L) ord b a) from Yu.out.trans ⟨fun h=>⟨HB0.out,HBO.out,HAB.out,HRA.out.1 Lz,HR.out.1 Lz,fun x hx h1 h2 h3 h4=>by
         by_cases e:Tt (Bj L) ord x a
         ·exact e
         ·exact absurd ⟨h1,h2,h3,h4,e⟩ (h x hx)⟩,fun h x hx h1=>h1.2.2.2.2 (h.all x hx h1.1 h1.2.1 h1.2.2.1 h1.2.2.2.1)⟩)
        cases al with
        | false=>
         have Po:=A3 (aj.out (fun h=>by have:=qz.out.2 h;cases this));go_wp2_with fail;go_roundw;case rel=>exact⟨a+1,f,by omega,by go_num,rfl,Po.out,BXY.out⟩
         case measure=>exact Aa
        | true=>
         have Po:=A3 (show mJ n (Bj L) ord b (a+1) (a:Int) from .inr ⟨a,rfl,qz.out.1 Lz⟩);go_wp2_with fail;go_roundw;case rel=>exact⟨a+1,(a:Int),by omega,by go_num,rfl,Po.out,BXY.out⟩
         case measure=>exact Aa
  ·obtain rfl:n=b:=by omega
   have db:decide ((n:Int)<(n:Int))=false:=by simp
   have cM:=A3 (show Ints wr u3 D from by
    have h:=WU.out;rw [Gq (by rw [XL.out];exact AH _)] at h
    exact MF h)
   go_wp2_with fail;go_ret;exact⟨⟨_,rfl,cM.out⟩,BW.out.trans (HB.out.mono BW.out.size)⟩
section
theorem mV (v:Value) (L:List Int) (x:Int) (w:World) (HL:Ints w v L) :
  Calls Tryz.prog 26 #[v,.int .i64 x] w fun e w'=>e=.returned (.bool (decide (x∈L)))∧w=w':=by
 obtain⟨A,cap,rfl,h1,h2⟩:=HL.slice;obtain⟨l,hl⟩:=AA L.length;have La:=A3 HL;have Ik:=A3 hl;rw [hl] at h1 ⊢;clear HL hl;go_enter Tryz.func26,Tryz.ntmps26;go_wp2_with fail;go_loopw [5] (fun a5 wr=>∃j:Nat,j≤l∧a5=.int .i64 (j:Int)∧(∀i,i<j→L[i]?≠some x)∧w=wr) (fun a5 _=>l - (intOf a5).toNat);case atStart=>exact⟨0,by omega,rfl,fun i hi=>by omega,rfl⟩
 case round=>
  obtain⟨j,hj,rfl,hno,rfl⟩:=hrel;have DU:=A3 hno;clear hno;by_cases hlt:j<l
  ·have dl:decide ((j:Int)<(l:Int))=true:=AR A0
   have dj:(j:Int)<(l:Int):=by omega
   obtain⟨s,b1,o1,hs,rfl,hb,c1⟩:=Ints.at_ La.out (AP _ _) (j:=j) (by rw [Ik.out];exact hlt);have HS:=A3 hs;clear hs;by_cases he:s=x
   ·have de:(s==x)=true:=by simp [he]
    have HR:=A3 (show decide (x∈L)=true from AR (by rw [←he];exact Bf HS.out));clear he;go_wp2_with fail;go_ret;exact⟨by rw [HR.out];rfl,rfl⟩
   ·have de:(s==x)=false:=by simpa using he
    have Ke:=A3 he;clear he;go_wp2_with fail;go_roundw;case rel=>
     refine⟨j+1,by omega,by go_num,fun i hi=>?_,by first|rfl|trivial⟩;by_cases h9:i<j
     ·exact DU.out i h9
     ·obtain rfl:i=j:=by omega
      rw [HS.out];exact fun e=>Ke.out (Gl e)
    case measure=>exact Aa
  ·obtain rfl:l=j:=by omega
   have dl:decide ((l:Int)<(l:Int))=false:=by simp
   have HR:=A3 (show decide (x∈L)=false from Aq (fun hx=>by
    obtain⟨i,hi⟩:=LH.1 hx
    exact DU.out i (by have:=(Bl.1 hi).1;rw [Ik.out] at this;exact this) hi))
   go_wp2_with fail;go_ret;exact⟨by rw [HR.out];rfl,rfl⟩
def cT (b i z:Nat):Prop:=(z=0∧b<i)∨∃y,z=y+1∧y<i
section
variable {nx:Nat→List Nat} {CY:Nat→Bool} {hd b:Nat}
theorem ac9 {S S':Nat→Prop} (h:∀y,S y→S' y) {z:Nat} (hz:JY S z):JY S' z:=by
 rcases hz with h0|⟨y,h1,h2⟩
 ·exact .inl h0
 ·exact .inr ⟨y,h1,h y h2⟩
theorem cF {r i:Nat} {S S':Nat→Prop} (h:KH (J6 nx CY hd b) (-1) r (cT b i) (JY S)) (hg:∀y,S y→S' y) (ho:∀z,JY S' z→RA (J6 nx CY hd b) (-1) z) (hc:(i=b∨S i)→∀t∈L6 nx CY hd i,S' t):KH (J6 nx CY hd b) (-1) r (cT b (i+1)) (JY S'):=by
 refine h.next (fun z hz=>ac9 hg hz) ho (fun z hz=>?_);rcases hz with⟨rfl,hb⟩|⟨y,rfl,hy⟩
 ·by_cases e:b=i
  ·refine .inr fun _ y hy _=>?_
   obtain⟨t,ht,rfl⟩:=Bx.1 (show y∈(L6 nx CY hd b).map (· + 1) from hy);exact .inr ⟨t,rfl,hc (.inl e.symm) t (e▸ht)⟩
  ·exact .inl (.inl ⟨rfl,by omega⟩)
 ·by_cases e:y=i
  ·refine .inr fun hs z hz _=>?_
   obtain⟨t,ht,rfl⟩:=Bx.1 (show z∈(L6 nx CY hd y).map (· + 1) from hz);rcases hs with h0|⟨y',h1,h2⟩
   ·omega
   ·obtain rfl:y=y':=by omega
    exact .inr ⟨t,rfl,hc (.inr (e▸h2)) t (e▸ht)⟩
  ·exact .inl (.inr ⟨y,rfl,by omega⟩)
theorem yx:RA (J6 nx CY hd b) (-1) (b+1)↔b≠hd∧CY b=true∧MG nx (fun x=>CY x=true) hd b:=by
 constructor
 ·intro h
  have hb:b≠hd∧CY b=true:=by
   obtain⟨l,hl,-⟩:=h;cases hl with
   | @step p _ l h1 h2=>
    cases p with
    | zero=>
     obtain⟨t,h3,e⟩:=Bx.1 (show b+1∈(L6 nx CY hd b).map (· + 1) from h2);have e:t+1=b+1:=e;obtain rfl:t=b:=by omega
     exact (N4.1 h3).2.2.2
    | succ p=>
     obtain⟨t,h3,e⟩:=Bx.1 (show b+1∈(L6 nx CY hd p).map (· + 1) from h2);have e:t+1=b+1:=e;obtain rfl:t=b:=by omega
     exact (N4.1 h3).2.2.2
  exact⟨hb.1,hb.2,(rK hb.1 hb.2).1 h⟩
 ·rintro⟨h1,h2,h3⟩
  exact (rK h1 h2).2 h3
theorem yR {r i:Nat} {S:Nat→Prop} (h:KH (J6 nx CY hd b) (-1) r (cT b i) (JY S)) (hi:i=b∨S i):∀t∈L6 nx CY hd i,RA (J6 nx CY hd b) (-1) (t+1):=fun t ht=>by
 rcases hi with rfl|hi
 ·exact (RA.zero AK).step (show t+1∈(L6 nx CY hd i).map (· + 1) from Bx.2 ⟨t,ht,rfl⟩) A0
 ·exact (h.Ov.only (i+1) (.inr ⟨i,rfl,hi⟩)).step (show t+1∈(L6 nx CY hd i).map (· + 1) from Bx.2 ⟨t,ht,rfl⟩) A0
end
def DY (bl:List Int) (x:Nat):Bool:=decide ((x:Int)∈bl)
theorem QO {bl:List Int} {x:Nat}:DY bl x=true↔(x:Int)∈bl:=by simp [DY]
theorem aoR {nx:Nat→List Nat} {CY:Nat→Bool} {hd b n:Nat}:Mo (J6 nx CY hd b) (-1) 0 (JY (sn (List.replicate n false))):=by
 have e:JY (sn (List.replicate n false))=JY (fun _=>False):=by
  congr 1
  funext x;exact propext ⟨fun h=>jJ n x h,fun h=>h.elim⟩
 rw [e];exact ank
theorem abH (FA TA:Option Addr) (fn fc tn tc:Nat) (nv:Value) (L:List (List Int)) (n hd:Nat) (v1 v2:Value) (bl la:List Int) (b:Nat) (w:World) (HL:CO w nv L) (HN:NL L n) (HB:Ints w v1 bl) (H2:Ints w v2 la) (hb:b<n) (hh:hd<n) :
  Calls Tryz.prog 84 #[.agg #[.slice FA fn fc,.slice TA tn tc,nv],.agg #[.int .i64 (hd:Int),v1,v2],.int .i64 (b:Int)] w fun e w'=>Vs (b≠hd∧(b:Int)∈bl∧MG (Bj L) (fun x=>DY bl x=true) hd b) e∧Below w.heap.size w w':=by
 obtain⟨A,cap,rfl,h1,h2⟩:=HL.slice;obtain⟨BA,bc,rfl,hb1,hb2⟩:=HB.slice;obtain⟨CA,cc,rfl,-,-⟩:=H2.slice;have hL:=HN.len;have h5:=HN.le;have HLEN:=A3 hL;obtain⟨bn,Cc⟩:∃m,bl.length=m:=⟨_,rfl⟩;obtain⟨cn,Ge⟩:∃m,la.length=m:=⟨_,rfl⟩;rw [Cc] at HB hb1 ⊢;rw [Ge] at H2 ⊢;rw [hL] at h1 HL ⊢;obtain⟨V,hV,k3,k4,bV,sV⟩:=Pm w #[.slice FA fn fc,.slice TA tn tc,.slice A n cap] #[.int .i64 (hd:Int),.slice BA bn bc,.slice CA cn cc] 40 42;obtain⟨q3,hq3⟩:∃q,w.heap.size=q:=⟨_,rfl⟩;obtain⟨q4,hq4⟩:∃q,q3+1=q:=⟨_,rfl⟩;rw [hq3,hq4] at k4;rw [hq3] at k3;obtain⟨iB,Nh,hB0,hB1,hB2⟩:=D5 WY;obtain⟨U1,lm,CB,gr1⟩:=O7 (P:=Tryz.prog) V V.heap.size 55 4 iB (.bool false) 1 U8 Nh hB0 hB1 .i64 .i64 n (by rw [hB2];omega) Bc (AH _);rw [Mk,show (Value.bool false).cells=#[Value.bool false] from rfl,Ni] at CB;have bU:Below V.heap.size V U1:=(AP _ _).grown gr1 (AH _) (fun k hk=>by cases hk);obtain⟨g,hg⟩:∃q,V.heap.size=q:=⟨_,rfl⟩;rw [hg] at lm CB;have hG:=A3 hg;have ET:=A3 (aiO (nx:=Bj L) (CY:=DY bl) (hd:=hd) (b:=b) HN.lt);have Yf:U1.ownsRow V.heap.size 4 1 (.slice (some ⟨g,0,none⟩) n n) n (Dg (List.replicate n false)):=by rw [hg];simpa [Dg] using CB
 have HR:=A3 Yf;have J7:=A3 bU;have BV:=A3 bV;have MS:=A3 (HL.below bV);have Ec:=A3 (HB.below bV);have II:=A3 HN;have K3:=A3 k3;have K4:=A3 k4;have y2:V.cell? ⟨q3,2,none⟩=some (.slice A n cap):=by simp [World.cell?,k3]
 have l3:q3<V.heap.size:=BR k3;have l4:q4<V.heap.size:=BR k4;clear HL HN HB H2 hL Cc Ge Nh hB0 hB1 hB2 iB gr1 CB Yf hg bV bU k3 k4 sV;go_enter Tryz.func84,Tryz.ntmps84;go_upto_region 2 with fail;have Y2:=A3 y2;have Z0:=A3 (show V.cell? ⟨q4,0,none⟩=some (.int .i64 (hd:Int)) by simp [World.cell?,K4.out]);have Z1:=A3 (show V.cell? ⟨q4,1,none⟩=some (.slice BA bn bc) by simp [World.cell?,K4.out]);clear lm y2 hV hq3 hq4;go_wp2_with fail;go_loopw [8,9,10,11] (fun a8 a9 a10 a11 wr=>∃(r:Nat) (bm:List Bool),r≤n+1∧a8=.int .i64 (r:Int)∧bm.length=n∧wr.ownsRow V.heap.size 4 1 (.slice (some ⟨g,0,none⟩) n n) n (Dg bm)∧Mo (J6 (Bj L) (DY bl) hd b) (-1) r (JY (sn bm))∧Below V.heap.size V wr) (fun a8 _ _ _ _=>n+1 - (intOf a8).toNat);case atStart=>exact⟨0,_,by omega,rfl,by simp,HR.out,aoR,J7.out⟩
 case round=>
  clear HR J7;obtain⟨r,bm,hr,rfl,GU,hrow,hrnd,hb⟩:=hrel;have CT:=A3 hrow;have Rh:=A3 hrnd;have HB:=A3 hb;have FW:=A3 GU;have d2:wr.cell? ⟨q3,2,none⟩=some (.slice A n cap):=(hb.cell (p:=⟨q3,2,none⟩) l3).trans Y2.out;have s3:q3<wr.heap.size:=by have:=hb.size;omega
  clear hrow hrnd hb GU;by_cases YC:r≤n
  ·have dr:decide ((r:Int)≤(n:Int))=true:=AR A0
   go_upto_region 6 with fail;obtain⟨wo,rfl⟩:∃wo:World,wo=wr:=⟨_,rfl⟩;go_loopw [9,10,11] (fun a9 a10 a11 wr=>∃(i:Nat) (bm:List Bool),i≤n∧a9=.int .i64 (i:Int)∧bm.length=n∧wr.ownsRow V.heap.size 4 1 (.slice (some ⟨g,0,none⟩) n n) n (Dg bm)∧KH (J6 (Bj L) (DY bl) hd b) (-1) r (cT b i) (JY (sn bm))∧Below V.heap.size V wr) (fun a9 _ _ _=>n - (intOf a9).toNat);case atStart=>exact⟨0,bm,by omega,rfl,FW.out,CT.out,(KH.start Rh.out).next (fun _ h=>h) Rh.out.only (fun z hz=>by rcases hz with⟨_,h⟩|⟨_,_,h⟩<;>omega),HB.out⟩
   case round=>
    clear CT Rh HB FW d2 s3 bm;obtain⟨i,bm,hi,rfl,GU,hrow,Yb,hb⟩:=hrel;have CT:=A3 hrow;have LJ:=A3 Yb;have HB:=A3 hb;have FW:=A3 GU;have d2:wr.cell? ⟨q3,2,none⟩=some (.slice A n cap):=(hb.cell (p:=⟨q3,2,none⟩) l3).trans Y2.out;have d0:wr.cell? ⟨q4,0,none⟩=some (.int .i64 (hd:Int)):=(hb.cell (p:=⟨q4,0,none⟩) l4).trans Z0.out;have d1:wr.cell? ⟨q4,1,none⟩=some (.slice BA bn bc):=(hb.cell (p:=⟨q4,1,none⟩) l4).trans Z1.out;have s3:q3<wr.heap.size:=by have:=hb.size;omega
    have s4:q4<wr.heap.size:=by have:=hb.size;omega
    clear hrow Yb hb GU;by_cases hin:i<n
    ·have di:decide ((i:Int)<(n:Int))=true:=AR A0
     have di2:(i:Int)<(n:Int):=by omega
     obtain⟨x,nv,gb,off,hx,hA,hgb,c1,hI⟩:=(HLEN.out▸MS.out:CO V (.slice A L.length cap) L).at_ (AP _ _) (j:=i) (by rw [HLEN.out];exact hin);obtain⟨NA,C6,rfl,hn1,hn2⟩:=hI.slice;obtain⟨m,hm⟩:=AA x.length;have hm5:m≤5000:=by rw [←hm];exact II.out.row x (Bf hx)
     rw [hm] at c1 hn1;have HX:=A3 hx;have HI:=A3 hI;have HM:=A3 hm;have CW:=A3 c1;have Cw:=A3 (II.out.nx x (Bf hx));subst hA;have x1:=Kv CT.out FW.out hin;have sg2:=(CT.out.lt g rfl).2;obtain⟨bi,Gy⟩:∃b,bm.getD i false=b:=⟨_,rfl⟩;rw [Gy] at x1;have Gk:=A3 Gy;have N7:=A3 (mV (.slice BA bn bc) bl (i:Int) wr (Ec.out.below HB.out));obtain⟨xb,hxb⟩:∃q,((i:Int) != (b:Int))=q:=⟨_,rfl⟩;have HXB:=A3 hxb;clear c1 hx hI hm Gy;have U0:xb=false↔i=b:=by rw [←hxb];simp;omega
     by_cases hA:xb=true∧bi=false
     ·obtain⟨rfl,rfl⟩:=hA
      have Py:=A3 (cF LJ.out (fun _ h=>h) LJ.out.Ov.only (fun h=>by
       rcases h with h|h
       ·exact absurd (U0.2 h) AK
       ·unfold sn at h
        rw [Gk.out] at h
        cases h))
      clear U0;go_wp2_with (go_at_call 26;refine N7.out.mono ?_;rintro e w' ⟨rfl,rfl⟩);go_roundw;case rel=>exact⟨i+1,bm,by omega,by go_num,FW.out,CT.out,Py.out,HB.out⟩
      case measure=>exact Aa
     have HOR:=A3 (show i=b∨sn bm i by
      cases xb with
      | false=>exact .inl (U0.1 rfl)
      | true=>
       cases bi with
       | false=>exact absurd ⟨rfl,rfl⟩ hA
       | true=>exact .inr Gk.out)
     have hor:xb=false∨(xb=true∧bi=true):=by
      cases xb with
      | false=>exact .inl rfl
      | true=>
       cases bi with
       | false=>exact absurd ⟨rfl,rfl⟩ hA
       | true=>exact .inr ⟨rfl,rfl⟩
     clear hA U0;by_cases hih:(i:Int)=(hd:Int)
     ·have dih:((i:Int)==(hd:Int))=true:=by simp [hih]
      have Py:=A3 (cF LJ.out (fun _ h=>h) LJ.out.Ov.only (fun _ t ht=>absurd (show i=hd by omega) (N4.1 ht).1));clear hih;rcases hor with rfl|⟨rfl,rfl⟩;all_goals
       go_wp2_with (go_at_call 26;refine N7.out.mono ?_;rintro e w' ⟨rfl,rfl⟩);go_roundw;case rel=>exact⟨i+1,bm,by omega,by go_num,FW.out,CT.out,Py.out,HB.out⟩
       case measure=>exact Aa
     have dih:((i:Int)==(hd:Int))=false:=by simpa using hih
     have QC:=A3 (show i≠hd by omega);clear hih;by_cases hib:(i:Int)∈bl
     ·rw [AR hib] at N7
      have HIB:=A3 hib;rcases hor with rfl|⟨rfl,rfl⟩;all_goals
       go_upto_region 9 with (go_at_call 26;refine N7.out.mono ?_;rintro e w' ⟨rfl,rfl⟩);clear d0 d1 d2 s3 s4 x1 sg2;go_upto_region 10 with fail;obtain⟨wo,rfl⟩:∃wo:World,wo=wr:=⟨_,rfl⟩;go_loopw [10,11] (fun a10 a11 wr=>∃(k:Nat) (b2:List Bool),k≤m∧a10=.int .i64 (k:Int)∧b2.length=n∧wr.ownsRow V.heap.size 4 1 (.slice (some ⟨g,0,none⟩) n n) n (Dg b2)∧(∀y,sn bm y→sn b2 y)∧(∀z,JY (sn b2) z→RA (J6 (Bj L) (DY bl) hd b) (-1) z)∧(∀t∈x.take k,t≠(hd:Int)→t∈bl→sn b2 t.toNat)∧Below V.heap.size V wr) (fun a10 _ _=>m - (intOf a10).toNat);case atStart=>exact⟨0,bm,by omega,rfl,FW.out,CT.out,fun _ h=>h,LJ.out.Ov.only,fun t ht=>by simp at ht,HB.out⟩
       case round=>
        clear CT HB;obtain⟨k,b2,hk,rfl,hb2,hrow,hg1,hg2,hg3,hb⟩:=hrel;have c1:wr.cell? ⟨gb,off+i,none⟩=some (.slice NA m C6):=(hb.cell (p:=⟨gb,off+i,none⟩) hgb).trans CW.out;have d2:wr.cell? ⟨q3,2,none⟩=some (.slice (some ⟨gb,off,none⟩) n cap):=(hb.cell (p:=⟨q3,2,none⟩) l3).trans Y2.out;have d0:wr.cell? ⟨q4,0,none⟩=some (.int .i64 (hd:Int)):=(hb.cell (p:=⟨q4,0,none⟩) l4).trans Z0.out;have d1:wr.cell? ⟨q4,1,none⟩=some (.slice BA bn bc):=(hb.cell (p:=⟨q4,1,none⟩) l4).trans Z1.out;have s3:q3<wr.heap.size:=by have:=hb.size;omega
        have s4:q4<wr.heap.size:=by have:=hb.size;omega
        have sb:gb<wr.heap.size:=by have:=hb.size;omega
        have CT:=A3 hrow;have Ek:=A3 hg1;have H6:=A3 hg2;have M4:=A3 hg3;have HB:=A3 hb;have Ga:=A3 hb2;by_cases hkm:k<m
        ·have dk:decide ((k:Int)<(m:Int))=true:=AR A0
         have dk2:(k:Int)<(m:Int):=by omega
         obtain⟨t,tb,amu,ht,hN,htb,y1⟩:=(HM.out▸HI.out:Ints V (.slice NA x.length C6) x).at_ hb (j:=k) (by rw [HM.out];exact hkm);subst hN;have HT:=A3 (H8 ht);have htn:=Cw.out t (Bf ht);obtain⟨tn,rfl⟩:∃tn:Nat,t=(tn:Int):=⟨t.toNat,by omega⟩;have Yc:tn<n:=by omega
         have dtn:(tn:Int)<(n:Int):=by omega
         have Vc:=A3 (show tn∈Bj L i by rw [ZL HX.out];exact Bx.2 ⟨(tn:Int),Bf ht,by simp⟩);have stb:tb<wr.heap.size:=by have:=hb.size;omega
         have Xj:=A3 (mV (.slice BA bn bc) bl (tn:Int) wr (Ec.out.below hb));have sg2:=(hrow.lt g rfl).2;clear ht hrow hg1 hg2 hg3 hb hb2;by_cases IQ:(tn:Int)=(hd:Int)
         ·have dth:((tn:Int) != (hd:Int))=false:=by simp [IQ]
          have JZ:=A3 (show ∀t∈x.take (k+1),t≠(hd:Int)→t∈bl→sn b2 t.toNat from fun t ht h1 h2=>by
           rw [HT.out] at ht;rcases CG.1 ht with ht|ht
           ·exact M4.out t ht h1 h2
           ·obtain rfl:t=(tn:Int):=by simpa using ht
            exact absurd IQ h1)
          clear IQ;go_wp2_with (go_at_call 26;refine Xj.out.mono ?_;rintro e w' ⟨rfl,rfl⟩);go_roundw;case rel=>exact⟨k+1,b2,by omega,by go_num,Ga.out,CT.out,Ek.out,H6.out,JZ.out,HB.out⟩
          case measure=>exact Aa
         have dth:((tn:Int) != (hd:Int))=true:=by simpa using IQ
         have Tl:=A3 IQ;by_cases hbl:(tn:Int)∈bl
         ·rw [AR hbl] at Xj
          have Qx:=Xz (s:=b2) (t:=tn) (by rw [Ga.out];exact Yc);have Tv:=A3 Qx;have f1:=CT.out.frozenAt tn;have x2:=Kv CT.out Ga.out Yc;have r1:=(CT.out.stored tn (.bool true)).1;rw [VB] at r1;have R1:=A3 r1;have B1:=A3 (HB.out.setCell (p:=⟨g,tn,none⟩) (CT.out.lt g rfl).1 (.bool true));have NJ:=A3 (show (b2.set tn true).length=n by rw [NP];exact Ga.out);have H1:=A3 (show ∀y,sn bm y→sn (b2.set tn true) y from fun y hy=>by rw [Tv.out];exact .inl (Ek.out y hy));have H2:=A3 (show ∀z,JY (sn (b2.set tn true)) z→RA (J6 (Bj L) (DY bl) hd b) (-1) z from fun z hz=>by
           rcases hz with hz|⟨y,rfl,hy⟩
           ·exact H6.out z (.inl hz)
           ·rw [Tv.out] at hy
            rcases hy with hy|rfl
            ·exact H6.out _ (.inr ⟨y,rfl,hy⟩)
            ·exact yR LJ.out HOR.out y (N4.2 ⟨QC.out,QO.2 HIB.out,Vc.out,fun e=>Tl.out Rq,QO.2 hbl⟩))
          have H3:=A3 (show ∀t∈x.take (k+1),t≠(hd:Int)→t∈bl→sn (b2.set tn true) t.toNat from fun t ht h1 h2=>by
           rw [HT.out] at ht;rw [Tv.out];rcases CG.1 ht with ht|ht
           ·exact .inl (M4.out t ht h1 h2)
           ·obtain rfl:t=(tn:Int):=by simpa using ht
            exact .inr AO)
          clear Qx r1 IQ;go_wp2_with (go_at_call 26;refine Xj.out.mono ?_;rintro e w' ⟨rfl,rfl⟩);go_roundw;case rel=>exact⟨k+1,_,by omega,by go_num,NJ.out,R1.out,H1.out,H2.out,H3.out,B1.out⟩
          case measure=>exact Aa
         ·rw [Aq hbl] at Xj
          have JZ:=A3 (show ∀t∈x.take (k+1),t≠(hd:Int)→t∈bl→sn b2 t.toNat from fun t ht h1 h2=>by
           rw [HT.out] at ht;rcases CG.1 ht with ht|ht
           ·exact M4.out t ht h1 h2
           ·obtain rfl:t=(tn:Int):=by simpa using ht
            exact absurd h2 hbl)
          clear IQ;go_wp2_with (go_at_call 26;refine Xj.out.mono ?_;rintro e w' ⟨rfl,rfl⟩);go_roundw;case rel=>exact⟨k+1,b2,by omega,by go_num,Ga.out,CT.out,Ek.out,H6.out,JZ.out,HB.out⟩
          case measure=>exact Aa
        ·obtain rfl:m=k:=by omega
         have dk:decide ((m:Int)<(m:Int))=false:=by simp
         have HF:=A3 (cF LJ.out hg1 hg2 (fun _ t ht=>by
          obtain⟨_,_,h3,h4,h5⟩:=N4.1 ht;rw [ZL HX.out] at h3;obtain⟨z,hz,rfl⟩:=Bx.1 h3;have h0:=Cw.out z hz
          exact hg3 z (by rw [Gq fZ];exact hz) (fun e=>h4 A0) (by have:=QO.1 h5;rwa [show ((z.toNat:Nat):Int)=z by omega] at this)))
         clear hrow hg1 hg2 hg3 hb hb2;go_wp2_with fail;go_roundw;case rel=>exact⟨i+1,b2,by omega,by go_num,Ga.out,CT.out,HF.out,HB.out⟩
         case measure=>exact Aa
     ·rw [Aq hib] at N7
      have Py:=A3 (cF LJ.out (fun _ h=>h) LJ.out.Ov.only (fun _ t ht=>absurd (QO.1 (N4.1 ht).2.1) hib));rcases hor with rfl|⟨rfl,rfl⟩;all_goals
       go_wp2_with (go_at_call 26;refine N7.out.mono ?_;rintro e w' ⟨rfl,rfl⟩);go_roundw;case rel=>exact⟨i+1,bm,by omega,by go_num,FW.out,CT.out,Py.out,HB.out⟩
       case measure=>exact Aa
    ·obtain rfl:n=i:=by omega
     have di:decide ((n:Int)<(n:Int))=false:=by simp
     have HF:=A3 (show Mo (J6 (Bj L) (DY bl) hd b) (-1) (r+1) (JY (sn bm)) from LJ.out.done (fun x l h=>by
      have h1:=ET.out x l h x h.head;cases x with
      | zero=>exact .inl ⟨rfl,hb⟩
      | succ y=>exact .inr ⟨y,rfl,by omega⟩))
     go_wp2_with fail;go_roundw;case rel=>exact⟨r+1,bm,by omega,by go_num,FW.out,CT.out,HF.out,HB.out⟩
     case measure=>exact Aa
  ·obtain rfl:r=n+1:=by omega
   have dr:decide (((n+1:Nat):Int)≤(n:Int))=false:=Aq A0;have dr2:decide ((n:Int)+1≤(n:Int))=false:=Aq A0;have db:(b:Int)<(n:Int):=by omega
   have x1:=Kv CT.out FW.out hb;have sg2:=(CT.out.lt g rfl).2;obtain⟨bi,Gy⟩:∃q,bm.getD b false=q:=⟨_,rfl⟩;rw [Gy] at x1;have anq:=A3 (show bi=true↔(b≠hd∧(b:Int)∈bl∧MG (Bj L) (fun x=>DY bl x=true) hd b) by
    have h1:=Rh.out.done ET.out (b+1);rw [yx] at h1;have h2:JY (sn bm) (b+1)↔bi=true:=by
     constructor
     ·rintro (h|⟨y,h,h3⟩)
      ·omega
      ·obtain rfl:b=y:=by omega
       unfold sn at h3;rw [Gy] at h3;exact h3
     ·intro h
      exact .inr ⟨b,rfl,by unfold sn;rw [Gy];exact h⟩
    rw [←h2,h1,QO])
   clear Gy;go_wp2_with fail;go_ret;exact⟨⟨bi,rfl,anq.out⟩,BV.out.trans (HB.out.mono BV.out.size)⟩
end
theorem aoC (FA TA:Option Addr) (fn fc tn tc:Nat) (nv:Value) (L:List (List Int)) (n hd:Nat) (v1 v2:Value) (bl la:List Int) (b:Nat) (ord:List Nat) (pos:Nat→Nat) (D:List Int) (w:World) (HL:CO w nv L) (HN:NL L n) (HB:Ints w v1 bl) (H2:Ints w v2 la) (hb:b<n) (hh:hd<n) (gr:Gr n (Bj L) ord pos) (it:IM n (Bj L) ord pos D) (hla:∀t∈la,∃u:Nat,t=(u:Int)∧u∈ord) :
  Calls Tryz.prog 51 #[.agg #[.slice FA fn fc,.slice TA tn tc,nv],.agg #[.int .i64 (hd:Int),v1,v2],.int .i64 (b:Int)] w fun e w'=>Vs ((∀t∈la,Ah D t.toNat b)∧¬(b≠hd∧(b:Int)∈bl∧MG (Bj L) (fun x=>DY bl x=true) hd b)) e∧Below w.heap.size w w':=by
 obtain⟨A,cap,rfl,h1,h2⟩:=HL.slice;obtain⟨BA,bc,rfl,hb1,hb2⟩:=HB.slice;obtain⟨CA,cc,rfl,hc1,hc2⟩:=H2.slice;have hL:=HN.len;have h5:=HN.le;obtain⟨bn,Cc⟩:∃m,bl.length=m:=⟨_,rfl⟩;obtain⟨m,hm⟩:=AA la.length;rw [Cc] at HB hb1 ⊢;have H2':=A3 H2;have HM:=A3 hm;rw [hm] at hc1 H2 ⊢;rw [hL] at h1 HL ⊢;obtain⟨V,hV,k3,k4,bV,sV⟩:=Pm w #[.slice FA fn fc,.slice TA tn tc,.slice A n cap] #[.int .i64 (hd:Int),.slice BA bn bc,.slice CA m cc] 40 42;obtain⟨q3,hq3⟩:∃q,w.heap.size=q:=⟨_,rfl⟩;obtain⟨q4,hq4⟩:∃q,q3+1=q:=⟨_,rfl⟩;rw [hq3,hq4] at k4;rw [hq3] at k3;have BV:=A3 bV;have MS:=A3 (HL.below bV);have G0:=A3 hL;have Ec:=A3 (HB.below bV);have Uc:=A3 (H2.below bV);have Vd:=A3 (H2'.out.below bV);have II:=A3 HN;have GR:=A3 gr;have IT:=A3 it;have I7:=A3 hla;have l3:q3<V.heap.size:=BR k3;have l4:q4<V.heap.size:=BR k4;have K3:=A3 k3;have K4:=A3 k4;clear HL HN HB H2 H2' hL Cc hm gr it hla bV k3 k4 sV;go_enter Tryz.func51,Tryz.ntmps51;go_upto_region 1 with fail;clear hV hq3 hq4;go_wp2_with fail;go_loopw [7] (fun a7 wr=>∃j:Nat,j≤m∧a7=.int .i64 (j:Int)∧(∀t∈la.take j,Ah D t.toNat b)∧Below V.heap.size V wr) (fun a7 _=>m - (intOf a7).toNat);case atStart=>exact⟨0,by omega,rfl,fun t ht=>by simp at ht,AP _ _⟩
 case round=>
  obtain⟨j,hj,rfl,UX,J8⟩:=hrel;obtain⟨w8,hw8⟩:∃w8:World,w8=wr:=⟨_,rfl⟩;subst hw8;have NI:=A3 UX;have HB:=A3 J8;have s8:=J8.size;have k3:=(J8.block q3 l3).trans K3.out;have k4:=(J8.block q4 l4).trans K4.out;have d0:w8.cell? ⟨q3,0,none⟩=some (.slice FA fn fc):=by simp [World.cell?,k3]
  have d1:w8.cell? ⟨q3,1,none⟩=some (.slice TA tn tc):=by simp [World.cell?,k3]
  have d2:w8.cell? ⟨q3,2,none⟩=some (.slice A n cap):=by simp [World.cell?,k3]
  have e0:w8.cell? ⟨q4,0,none⟩=some (.int .i64 (hd:Int)):=by simp [World.cell?,k4]
  have e1:w8.cell? ⟨q4,1,none⟩=some (.slice BA bn bc):=by simp [World.cell?,k4]
  have e2:w8.cell? ⟨q4,2,none⟩=some (.slice CA m cc):=by simp [World.cell?,k4]
  have RF:q3<w8.heap.size:=by omega
  have Rw:q4<w8.heap.size:=by omega
  clear UX J8 k3 k4;by_cases hlt:j<m
  ·have dl:decide ((j:Int)<(m:Int))=true:=AR A0
   have dj:(j:Int)<(m:Int):=by omega
   obtain⟨t,lb,lo,ht,rfl,hlb,c1⟩:=Ints.at_ (HM.out▸Vd.out:Ints V (.slice CA la.length cc) la) HB.out (j:=j) VG;obtain⟨u,rfl,huo⟩:=I7.out t (Bf ht);have HT:=A3 (H8 ht);have SU:lb<w8.heap.size:=by omega
   have HUO:=A3 huo;have hun:=GR.out.lt u huo;have Fh:=A3 (fun (W:World) (h:Below w8.heap.size w8 W)=>amm (.slice A n cap) L n ord pos D W (MS.out.below (HB.out.trans (h.mono s8))) II.out GR.out IT.out);clear ht huo;go_wp2_with fail;refine YN (S:=fun w'=>Below w8.heap.size w8 w') A6 ?_ (fun hHeld=>?_)
   ·exact (AP _ _).drew
   have hk:Below w8.heap.size w8 w8.drew:=(AP _ _).drew;obtain⟨D0,Eo⟩:∃D,w8.drew=D:=⟨_,rfl⟩;rw [Eo] at hk;rw [Eo] at hHeld ⊢;clear Eo;refine BI (i:=0) (oi:=_) (v:=?_) rfl A6 A6 A6 (fun _ _ _ h=>h) (Bq ⟨by rfl,?_⟩) hHeld ?_;rotate_left
   ·intro w' hSw
    clear hSw;go_simp
    (try with_reducible rfl)
   (try simp only [AX,Ad,Ac,Act.put,AW,Ab,AY]);refine BI (i:=1) (oi:=_) (v:=?_) rfl A6 A6 A6 (fun _ _ _ h=>h) (Bq ⟨by rfl,?_⟩) hHeld ?_;rotate_left
   ·intro w' hSw
    have s2:=(hSw.cell (p:=⟨q3,2,none⟩) RF).trans d2;have t2:=(hSw.cell (p:=⟨q4,2,none⟩) Rw).trans e2;have a1:=(hSw.cell (p:=⟨lb,lo+j,none⟩) SU).trans c1;have u3:=Cq RF hSw.size;have u4:=Cq Rw hSw.size;have ul:=Cq SU hSw.size;clear hSw;go_simp
    (try with_reducible rfl)
   (try simp only [AX,Ad,Ac,Act.put,AW,Ab,AY]);refine BI (i:=3) (oi:=_) (v:=?_) rfl A6 A6 A6 (fun _ _ _ h=>h) (Bq ⟨by rfl,?_⟩) hHeld ?_;rotate_left
   ·intro w' hSw
    clear hSw;go_simp
    (try with_reducible rfl)
   (try simp only [AX,Ad,Ac,Act.put,AW,Ab,AY]);refine BI (i:=4) (oi:=_) (v:=?_) rfl A6 A6 A6 (fun _ _ _ h=>h) (Bq ⟨by rfl,?_⟩) hHeld ?_;rotate_left
   ·intro w' hSw
    clear hSw;go_simp
    (try with_reducible rfl)
   (try simp only [AX,Ad,Ac,Act.put,AW,Ab,AY]);refine BI (i:=5) (oi:=_) (v:=?_) rfl A6 A6 A6 (fun _ _ _ h=>h) (Bq ⟨by rfl,?_⟩) hHeld ?_;rotate_left
   ·intro w' hSw
    have s2:=(hSw.cell (p:=⟨q3,2,none⟩) RF).trans d2;have t2:=(hSw.cell (p:=⟨q4,2,none⟩) Rw).trans e2;have a1:=(hSw.cell (p:=⟨lb,lo+j,none⟩) SU).trans c1;have u3:=Cq RF hSw.size;have u4:=Cq Rw hSw.size;have ul:=Cq SU hSw.size;clear hSw;go_simp
    (try with_reducible rfl)
   (try simp only [AX,Ad,Ac,Act.put,AW,Ab,AY]);refine BI (i:=6) (oi:=_) (v:=?_) rfl A6 A6 A6 (fun _ _ _ h=>h) (Bq ⟨by rfl,?_⟩) hHeld ?_;rotate_left
   ·intro w' hSw
    clear hSw;go_simp
    (try with_reducible rfl)
   (try simp only [AX,Ad,Ac,Act.put,AW,Ab,AY]);refine BI (i:=7) (oi:=_) (v:=?_) rfl A6 A6 A6 (fun _ _ _ h=>h) (Bq ⟨by rfl,?_⟩) hHeld ?_;rotate_left
   ·intro w' hSw
    have s2:=(hSw.cell (p:=⟨q3,2,none⟩) RF).trans d2;have t2:=(hSw.cell (p:=⟨q4,2,none⟩) Rw).trans e2;have a1:=(hSw.cell (p:=⟨lb,lo+j,none⟩) SU).trans c1;have u3:=Cq RF hSw.size;have u4:=Cq Rw hSw.size;have ul:=Cq SU hSw.size;clear hSw;go_simp
    (try with_reducible rfl)
   (try simp only [AX,Ad,Ac,Act.put,AW,Ab,AY]);refine BI (i:=8) (oi:=_) (v:=?_) rfl A6 A6 A6 (fun _ _ _ h=>h) (Bq ⟨by rfl,?_⟩) hHeld ?_;rotate_left
   ·intro w' hSw
    have s2:=(hSw.cell (p:=⟨q3,2,none⟩) RF).trans d2;have t2:=(hSw.cell (p:=⟨q4,2,none⟩) Rw).trans e2;have a1:=(hSw.cell (p:=⟨lb,lo+j,none⟩) SU).trans c1;have u3:=Cq RF hSw.size;have u4:=Cq Rw hSw.size;have ul:=Cq SU hSw.size;clear hSw;go_simp
    (try with_reducible rfl)
   (try simp only [AX,Ad,Ac,Act.put,AW,Ab,AY]);refine GZ (rs:=[2]) A6 AO ?_;refine Eg (o:=_) rfl (fun K hK=>?_) GV;go_simp
   go_at_call 83
   refine (Fh.out D0 hk).mono ?_;rintro e D1 ⟨⟨dv,rfl,Ws⟩,VF⟩;have hk:=hk.trans (VF.mono hk.size);have Qo:=A3 (aq8 dv n (Bj L) ord pos D b u D1 Ws GR.out IT.out hb hun HUO.out h5);clear VF Ws;refine hK.out _ _ hk (fun hHeld=>?_);clear hK K;(try simp only [AX,Ad,Ac,Act.put,AW,Ab,AY]);refine GZ (rs:=[9]) A6 AO ?_;refine Eg (o:=_) rfl (fun K hK=>?_) GV;go_simp
   go_at_call 82
   refine Qo.out.mono ?_;rintro e D2 ⟨⟨r,rfl,hr⟩,rfl⟩;have LZ:=A3 hr;have HKK:=A3 hk;clear hr;refine hK.out _ _ hk (fun hHeld=>?_);clear hK K;(try simp only [AX,Ad,Ac,Act.put,AW,Ab,AY]);refine BI (i:=10) (oi:=_) (v:=?_) rfl A6 A6 A6 (fun _ _ _ h=>h) (Bq ⟨by rfl,?_⟩) hHeld ?_;rotate_left
   ·intro w' hSw
    clear hSw;go_simp
    (try with_reducible rfl)
   (try simp only [AX,Ad,Ac,Act.put,AW,Ab,AY]);refine VJ A6 ?_ _;clear hHeld hk;cases r with
   | true=>
    have anK:=A3 (show ∀t∈la.take (j+1),Ah D t.toNat b from fun t ht=>by
     rw [HT.out] at ht;rcases CG.1 ht with ht|ht
     ·exact NI.out t ht
     ·obtain rfl:t=(u:Int):=by simpa using ht
      exact LZ.out.1 rfl)
    go_wp2_with fail;go_roundw;case rel=>exact⟨j+1,by omega,by go_num,anK.out,HB.out.trans (HKK.out.mono s8)⟩
    case measure=>exact Aa
   | false=>
    have DU:=A3 (show ¬ ∀t∈la,Ah D t.toNat b from fun h=>by
     have h1:=h (u:Int) (by
      have:(u:Int)∈la.take (j+1):=by rw [HT.out];simp
      exact sL this)
     have h2:=LZ.out.2 h1
     cases h2)
    go_wp2_with fail;go_ret;exact⟨⟨false,rfl,fun h=>by simp at h,fun h=>absurd h.1 DU.out⟩,BV.out.trans ((HB.out.trans (HKK.out.mono s8)).mono BV.out.size)⟩
  ·obtain rfl:m=j:=by omega
   have dl:decide ((m:Int)<(m:Int))=false:=by simp
   have HAL:=A3 (show ∀t∈la,Ah D t.toNat b from fun t ht=>NI.out t (by rw [Gq fZ];exact ht));have Su:=A3 (abH FA TA fn fc tn tc (.slice A n cap) L n hd (.slice BA bn bc) (.slice CA m cc) bl la b w8 (MS.out.below HB.out) II.out (Ec.out.below HB.out) (Uc.out.below HB.out) hb hh);go_wp2_with (go_at_call 84;refine Su.out.mono ?_;rintro e W9 ⟨⟨r,rfl,hr⟩,hb9⟩);go_ret;refine⟨⟨!r,rfl,?_⟩,BV.out.trans ((HB.out.trans (hb9.mono HB.out.size)).mono BV.out.size)⟩;constructor
   ·intro h
    refine⟨HAL.out,fun h2=>?_⟩;rw [hr.2 h2] at h;cases h
   ·rintro⟨-,h2⟩
    cases r with
    | false=>rfl
    | true=>exact absurd (hr.1 rfl) h2
end Go.Proofs.YtlmgkipmfgijiaaGreatDoor
