/-
  What is proved here: parts dAw, dAw2, dLw, gR04, gR04b, gR04c, lCnP, dRch, dDmr, dTrr, rCy, rOn, rBo, lCnQ, lRfP, lCnR, lHp, lFdP, lFiP, lCm, lFp, lHoP, lHoQ, lHoS, lHoM, lSs, lSp.
-/
import Derived.Test.YtlmgkipmfgijiaaGreatDoorVa
import Derived.Test.YtlmgkipmfgijiaaGreatDoorVt
import Derived.Test.YtlmgkipmfgijiaaGreatDoorVb
import Derived.Laws.EntriesVeiled
import Derived.Test.YtlmgkipmfgijiaaGreatDoorVc
import Derived.Test.YtlmgkipmfgijiaaGreatDoorVs
import Derived.Test.YtlmgkipmfgijiaaGreatDoorVr
import Derived.Test.YtlmgkipmfgijiaaGreatDoorVe
import Derived.BigQuiet
import Derived.Deep.RegionHeld3
import Derived.BigRegion
import Derived.Deep.Upon
import Derived.Test.YtlmgkipmfgijiaaGreatDoorVo
import Derived.Test.YtlmgkipmfgijiaaGreatDoorVh
import Derived.Test.YtlmgkipmfgijiaaGreatDoorVi
import Derived.Test.YtlmgkipmfgijiaaGreatDoorVk
namespace Go.Proofs.YtlmgkipmfgijiaaGreatDoor
set_option linter.unusedVariables false
set_option linter.unusedSimpArgs false
set_option maxRecDepth 100000
set_option maxHeartbeats 8000000
open Go.RowKit
def aJ (n:Nat) (AO:List Bt) (sh:Int):Prop:=n≤90∧AO.length≤4∧sh≤64
instance (n:Nat) (AO:List Bt) (sh:Int):Decidable (aJ n AO sh):=by unfold aJ;infer_instance
def Vw (n:Nat) (AO:List Bt) (sh:Int):Int:=if aJ n AO sh then 1 else 0
theorem aqc (cv ev:Value) (sh lk:Int) (n:Nat) (cd:Nat→Int) (AO:List Bt) (w:World) (HW:Pj w cv n cd) (HE:IZ w ev AO) :
  Calls Tryz.prog 11 #[.agg #[cv,ev,.int .i64 sh,.int .i64 lk]] w fun e w'=>e=.returned (.int .i64 (Vw n AO sh))∧Below w.heap.size w w':=by
 obtain⟨A,cap,rfl,hc1,hc2,-⟩:=HW.at_;obtain⟨EA,CV,rfl,he1,he2,-⟩:=HE.at_;have h63:AO.length≤2 ^ 63 - 1:=by unfold maxLen at he2;omega
 have h64:n≤2 ^ 63 - 1:=by unfold maxLen at hc2;omega
 obtain⟨V,hV⟩:=A8 (w.alloc (.cells #[.slice A n cap,.slice EA AO.length CV,.int .i64 sh,.int .i64 lk] 25));have k0:V.heap[w.heap.size]?=some (.cells #[.slice A n cap,.slice EA AO.length CV,.int .i64 sh,.int .i64 lk] 25 (0,0)):=hV▸AY _ _;obtain⟨y0,y1,y2,y3,y4⟩:=FY k0;have BV:=A3 (show Below w.heap.size w V from hV▸(AV _ _).alloc (AH _) _);obtain⟨m,hm⟩:=A8 AO.length;obtain⟨r,hr⟩:=A8 (Vw n AO sh);rw [hr];have HR:=A3 (show r=if n≤90∧m≤4∧sh≤64 then 1 else 0 by rw [←hr,← hm];rfl);rw [hm] at y1 h63 hV he1;rw [hm];clear k0 HW HE hr hm he2 hc2;go_enter Tryz.func11,Tryz.ntmps11;by_cases h1:n≤90
 ·have d1:decide (90<(n:Int))=false:=Ad A0
  have d1':decide (90<n)=false:=Ad A0;by_cases h2:m≤4
  ·have d2:decide (4<(m:Int))=false:=Ad A0
   have d2':decide (4<m)=false:=Ad A0;by_cases h3:sh≤64
   ·have d3:decide (64<sh)=false:=Ad A0
    have HF:=A3 (show r=1 by rw [HR.out,A9 ⟨h1,h2,h3⟩]);clear h1 h2 h3;go_wp2_with fail;go_ret;exact⟨by rw [HF.out];rfl,BV.out⟩
   ·have d3:decide (64<sh)=true:=Ac A0
    have HF:=A3 (show r=0 by rw [HR.out,A6 (fun h=>h3 h.2.2)]);clear h1 h2 h3;go_wp2_with fail;go_ret;exact⟨by rw [HF.out];rfl,BV.out⟩
  ·have d2:decide (4<(m:Int))=true:=Ac A0
   have d2':decide (4<m)=true:=Ac A0;have HF:=A3 (show r=0 by rw [HR.out,A6 (fun h=>h2 h.2.1)]);clear h1 h2;go_wp2_with fail;go_ret;exact⟨by rw [HF.out];rfl,BV.out⟩
 ·have d1:decide (90<(n:Int))=true:=Ac A0
  have d1':decide (90<n)=true:=Ac A0;have HF:=A3 (show r=0 by rw [HR.out,A6 (fun h=>h1 h.1)]);clear h1;go_wp2_with fail;go_ret;exact⟨by rw [HF.out];rfl,BV.out⟩
theorem as6 {w:World} {B:Nat} {A:Option Addr} {cap:Nat} (h:w.ownsRow B 70 1 (.slice A 6 cap) 6 (SE (Rq.map fun i=>(encI i).1))):Words w (.slice A 6 cap) 6 Al:=
 aq2 (ws:=bsC) h AP arh
theorem ard {w:World} {e:Ending} (h:cQ w 6 Al [⟨Li,0,6,0⟩] 0 0 0 e):∃(A A' LA Ko IA DA:Option Addr) (c c' lc rc ic dn dc:Nat),e=.returned (.tuple #[.agg #[.slice A 3 c,.slice A' 3 c'],.slice LA 1 lc,.agg #[.slice Ko 3 rc,.slice IA 3 ic,.slice DA dn dc],.bool true])∧E7 w (.slice A 3 c) Ap∧Dk w (.slice A' 3 c') JI∧IW w (.slice LA 1 lc) [Fl]∧Hq w (.slice Ko 3 rc) [true,true,true]∧3≤ic∧ic≤maxLen:=by
 obtain⟨k,en,G,P,bv,pv,lv,rv,iv,dv,D,L,s,hk,hg,hA,he⟩:=h;obtain rfl:k=0:=by omega
 obtain rfl:(⟨Li,0,6,0⟩:Bt)=en:=by have:=hg.he;simpa using this
 have ho:=ym hg.out;injection ho with e1 e2;subst e1 e2;have hs:=apa hA.ends;subst hs;have hL:=xL hA.loops;subst hL;obtain⟨A,c,hb,-,-⟩:=hA.Kg.slice;obtain⟨A',c',hp,-,-⟩:=hA.lls.slice;obtain⟨LA,lc,hl,-,-⟩:=hA.Ox.slice;obtain⟨Ko,rc,hr,-,-,-⟩:=id hA.Ji;obtain⟨IA,ic,hi,hi1,hi2⟩:=hA.AG;obtain⟨DA,dn,dc,hd⟩:=hA.dvs;have hb:bv=.slice A 3 c:=hb;have hp:pv=.slice A' 3 c':=hp;have hl:lv=.slice LA 1 lc:=hl;have hr:rv=.slice Ko 3 rc:=hr;have hi:iv=.slice IA 3 ic:=hi;subst hb hp hl hr hi hd;exact⟨A,A',LA,Ko,IA,DA,c,c',lc,rc,ic,dn,dc,he,hA.Kg,hA.lls,hA.Ox,hA.Ji,hi1,hi2⟩
theorem atW:DT 6 Al [⟨Li,0,6,0⟩] 0 0 0 ⟨Li,0,6,0⟩ Ap JI:=by
 refine⟨rfl,abl,?_⟩;have hR:Ex (AK Al) 0 6 [0,1,2,3,4,5] [] (-1):=by
  refine⟨by decide,fun a ha=>(j9 a).2 ha,by simp,fun a ha t ht h1 h2=>.inl ?_,.inl AR,.inl ⟨rfl,fun a ha=>nk a ha⟩⟩;simp;omega
 have h:=Out.ok (c:=AK Al) (st:=0) (en:=6) _ hR;rw [show ((6:Int) - 0).toNat=6 from rfl,pH,uq,qd] at h;exact h
theorem xq:R9 6 Al [⟨Li,0,6,0⟩] 0 0 0:=⟨0,_,Ap,JI,rfl,atW,fun D _=>aaB D⟩
theorem atk (AZ:bR) (w:World) (T:CO w):Calls Tryz.prog 10 #[] w fun e w'=>e=.returned (.bool true)∧Below w.heap.size w w':=by
 obtain⟨X,hX⟩:=A8 (w.alloc (.cells (IX Rq).toArray 67));have bX:Below w.heap.size w X:=hX▸(AV _ _).alloc (AH _) _;have kX:X.heap[w.heap.size]?=some (.cells (IX Rq).toArray 67 (0,0)):=hX▸AY _ _;have WG:=A3 (show ug X (.slice (some ⟨w.heap.size,0,none⟩) 6 6) Rq from⟨_,6,rfl,AH _,by unfold maxLen;omega,fun _=>⟨w.heap.size,0,rfl,Ak kX,fun i x hx=>by
  have c:∀j,j<5→X.cell? ⟨w.heap.size,0+i*5+j,none⟩=(NC x)[j]?:=fun j hj=>by
   rw [Er];simp only [World.cell?,kX];rw [←gJ Rq i j x hx hj];simp
  exact⟨c 0 A0,c 1 A0,c 2 A0,c 3 A0,c 4 A0⟩⟩⟩)
 have⟨TX,BX⟩:=AQ (T.below bX) bX;clear T bX kX;have hX':w.alloc (.cells #[.int .u8 14,.int .i64 10,.int .i64 0,.int .i64 0,.int .i64 0,.int .u8 25,.int .i64 10,.int .i64 0,.int .i64 0,.int .i64 4,.int .u8 15,.int .i64 10,.int .i64 10,.int .i64 0,.int .i64 1,.int .u8 15,.int .i64 5,.int .i64 10,.int .i64 0,.int .i64 (-4),.int .u8 23,.int .i64 5,.int .i64 0,.int .i64 0,.int .i64 (-4),.int .u8 1,.int .i64 0,.int .i64 0,.int .i64 0,.int .i64 0] 67)=X:=hX;clear hX;go_enter Tryz.func10,Tryz.ntmps10;go_wp2_with fail;refine (aem _ Rq X TX.out WG.out AP AP).mono ?_;rintro e W1 ⟨⟨cv,ev,A,cap,rfl,hcv,hrow,hent⟩,hb1⟩;have hcv:cv=.slice A 6 cap:=hcv;subst hcv;have hrow:W1.ownsRow X.heap.size 70 1 (.slice A 6 cap) 6 (SE (Rq.map fun i=>(encI i).1)):=hrow;have HW:=as6 hrow;have hent:IZ W1 ev [⟨Li,0,6,0⟩]:=hent;obtain⟨EA,CV,hev,-,-,-⟩:=hent.at_;have hev:ev=.slice EA 1 CV:=hev;subst hev;clear hX';go_wp2_with fail;obtain⟨V,hV⟩:=A8 (W1.alloc (.cells #[.slice A 6 cap,.slice EA 1 CV,.int .i64 0,.int .i64 0] 25));obtain⟨b1,jJ⟩:∃b,W1.heap.size=b:=⟨_,rfl⟩;have bV:Below W1.heap.size W1 V:=hV▸(AV _ _).alloc (AH _) _;have kV:V.heap[b1]?=some (.cells #[.slice A 6 cap,.slice EA 1 CV,.int .i64 0,.int .i64 0] 25 (0,0)):=by rw [←jJ];exact hV▸AY _ _
 obtain⟨y0,y1,y2,y3,y4⟩:=FY kV;have bXV:Below X.heap.size X V:=hb1.trans (bV.mono hb1.size);have⟨BV,PO,Tx,TV⟩:=CU (BX.out.trans (bXV.mono BX.out.size)) (HW.below bV) (hent.below bV) (TX.out.below bXV);rw [hV,jJ];clear hrow HW hent hb1 bV kV bXV WG;refine (pN AZ _ _ 0 0 6 Al [⟨Li,0,6,0⟩] 0 V TV.out PO.out A0 Tx.out).mono ?_;rintro e W2 ⟨h,hb2⟩;rcases h with⟨-,hy⟩|⟨hn,-⟩;case inr=>exact absurd xq hn
 obtain⟨GA,PA,LA,Ko,IA,DA,gc,pc,lc,rc,ic,dn,dc,rfl,hG,hP,hL,hR,hi1,hi2⟩:=ard hy;have⟨HG,HP,HL,HR,HI,B2⟩:=Lt hG hP hL hR (Eg hi1 hi2) hb2;have s2:=hb2.size;clear hy hG hP hL hR hi1 hi2 hb2 hV jJ;go_upto_region 3 with fail;obtain⟨Y,hY,k2,k4,bY,sY⟩:=Rn W2 #[.slice GA 3 gc,.slice PA 3 pc] #[.slice Ko 3 rc,.slice IA 3 ic,.slice DA dn dc] 31 59;rw [hY];obtain⟨q2,hq2⟩:∃q,W2.heap.size=q:=⟨_,rfl⟩;obtain⟨q4,hq4⟩:∃q,q2+1=q:=⟨_,rfl⟩;rw [hq2,hq4] at k4;rw [hq2] at k2;rw [hq2,hq4];have lq2:q2<Y.heap.size:=Ak k2;have g0:Y.cell? ⟨q2,0,none⟩=some (.slice GA 3 gc):=by simp [World.cell?,k2]
 have g1:Y.cell? ⟨q2,1,none⟩=some (.slice PA 3 pc):=by simp [World.cell?,k2]
 have r0:Y.cell? ⟨q4,0,none⟩=some (.slice Ko 3 rc):=by simp [World.cell?,k4]
 have r1:Y.cell? ⟨q4,1,none⟩=some (.slice IA 3 ic):=by simp [World.cell?,k4]
 have r2:Y.cell? ⟨q4,2,none⟩=some (.slice DA dn dc):=by simp [World.cell?,k4]
 have OY:Below V.heap.size V Y:=B2.out.trans (bY.mono B2.out.size);have z0:=(OY.cell (p:=⟨b1,0,none⟩) y4).trans y0;have z1:=(OY.cell (p:=⟨b1,1,none⟩) y4).trans y1;have z2:=(OY.cell (p:=⟨b1,2,none⟩) y4).trans y2;have z3:=(OY.cell (p:=⟨b1,3,none⟩) y4).trans y3;have z4:b1<Y.heap.size:=by have:=OY.size;omega
 have⟨BY,HLY⟩:=AQ (BV.out.trans (OY.mono BV.out.size)) (HL.out.below bY);have HFD:=A3 (wL (.slice A 6 cap) (.slice EA 1 CV) _ _ 0 0 6 Al Ap JI Y (TV.out.below OY) (PO.out.below OY) (HG.out.below bY) (HP.out.below bY) AP AP [Fl] _ (HL.out.below bY) AP AP [true,true,true] _ (.slice IA 3 ic) (.slice DA dn dc) (HR.out.below bY) 3 ⟨IA,ic,rfl,HI.out⟩ (fun _=>uo));have Wq:=A3 (show ∀(W:World) (v1 v2:Value) (p:Int),Below Y.heap.size Y W→Ints W v1 [1]→Ints W v2 [1]→Calls Tryz.prog 17 #[.agg #[.slice A 6 cap,.slice EA 1 CV,.int .i64 0,.int .i64 0],.agg #[.slice GA 3 gc,.slice PA 3 pc],.agg #[.int .i64 1,v1,v2,.int .i64 p]] W fun e w'=>e=.returned (.tuple #[.int .i64 10,.int .i64 4,.bool true])∧Below W.heap.size W w' from fun W v1 v2 p hb h1 h2=>by
  have h:=apn (.slice A 6 cap) (.slice EA 1 CV) _ _ 0 0 6 Al Ap JI W ((TV.out.below OY).below hb) ((PO.out.below OY).below hb) ((HG.out.below bY).below hb) ((HP.out.below bY).below hb) AP AP Fl p v1 v2 h1 h2 AP (fun _=>uo);rw [asK] at h
  exact h)
 have Ea:=A3 (show SD 6 Al Ap JI [Fl] [true,true,true] 3 from⟨mO,sD,rfl,rfl,fun x hx=>by
  obtain rfl:x=Fl:=by simpa using hx
  exact oY⟩)
 clear hY k2 k4 bY sY hq2 hq4 OY y0 y1 y2 y3 y4;go_wp2_with fail;refine HFD.out.mono ?_;rintro e W3 ⟨hF,hb3⟩;have hv:=hF.yes Ea.out;rw [aqG] at hv;obtain⟨ov,rfl,hov⟩:=hv;obtain⟨oA,oc,hoe,ho1,ho2⟩:=hov.slice;have hoe:ov=.slice oA 1 oc:=hoe;subst hoe;obtain⟨t,ob,oo,ht,hoA,DY,o1⟩:=(show Ints W3 (.slice oA ([4]:List Int).length oc) [4] from hov).at_ (AV _ _) (j:=0) AP;subst hoA;have ht:t=4:=by simpa using ht.symm
 subst ht;have ho1:1≤oc:=ho1;rw [Zg] at o1;obtain⟨lb,lo,x,A1,m1,cp1,A2,m2,cp2,p,TE,hlb,hx,l0,l1,l2,l3,h1,h2⟩:=HLY.out.at_ hb3 (k:=0) AP;have hx:x=Fl:=by simpa using hx.symm
 subst hx TE;have l0:W3.cell? ⟨lb,lo,none⟩=some (.int .i64 1):=l0;have l1:W3.cell? ⟨lb,lo+1,none⟩=some (.slice A1 m1 cp1):=l1;have l2:W3.cell? ⟨lb,lo+2,none⟩=some (.slice A2 m2 cp2):=l2;have l3:W3.cell? ⟨lb,lo+3,none⟩=some (.int .i64 p):=l3;have Z8:lb<W3.heap.size:=by have:=hb3.size;omega
 have g0':=(hb3.cell (p:=⟨q2,0,none⟩) lq2).trans g0;have g1':=(hb3.cell (p:=⟨q2,1,none⟩) lq2).trans g1;have z0':=(hb3.cell (p:=⟨b1,0,none⟩) z4).trans z0;have z1':=(hb3.cell (p:=⟨b1,1,none⟩) z4).trans z1;have z2':=(hb3.cell (p:=⟨b1,2,none⟩) z4).trans z2;have z3':=(hb3.cell (p:=⟨b1,3,none⟩) z4).trans z3;have s3:=hb3.size;have auZ:q2<W3.heap.size:=by omega
 have z4':b1<W3.heap.size:=by omega
 have⟨B3,HCW,OB⟩:=Bh (BY.out.trans (hb3.mono BY.out.size)) (show ∀x:Ext W3,Calls Tryz.prog 17 #[.agg #[.slice A 6 cap,.slice EA 1 CV,.int .i64 0,.int .i64 0],.agg #[.slice GA 3 gc,.slice PA 3 pc],.agg #[.int .i64 1,.slice A1 m1 cp1,.slice A2 m2 cp2,.int .i64 p]] x.w fun e w'=>e=.returned (.tuple #[.int .i64 10,.int .i64 4,.bool true])∧Below x.w.heap.size x.w w' from fun x=>Wq.out x.w _ _ p (hb3.trans (x.h.mono hb3.size)) ((h1.below hb3).below x.h) ((h2.below hb3).below x.h)) o1;clear hF hov hx h1 h2 hb3 g0 g1 r0 r1 r2 z0 z1 z2 z3 HFD;go_upto_region 6 with fail;refine C7 A4 A4 ?_;repeat (go_big_quiet_step ((go_at_call 17;exact Calls.AW (HCW.out _))))
 refine BD ?_;rintro _ ⟨x1,rfl⟩;have o2:=(x1.h.cell (p:=⟨ob,oo,none⟩) DY).trans OB.out;have BF:=A3 (B3.out.trans (x1.h.mono B3.out.size));go_wp2_with fail;go_ret;exact⟨rfl,BF.out⟩
theorem wR {G:List AU} (h2:∀x∈G,x.nx.length≤2) (k:Nat):(CP G k []).length≤2*k:=by
 unfold CP;simp only [Xx,Jz];induction k with
 | zero=>simp
 | succ k ih=>
  rw [JT,Qu,G5];have h:(G.getD k ⟨0,0,[]⟩).nx.length≤2:=by
   by_cases hk:k<G.length
   ·rw [show G.getD k ⟨0,0,[]⟩=G[k] by simp [List.getD,Ab hk]]
    exact h2 _ (CQ hk)
   ·rw [show G.getD k ⟨0,0,[]⟩=⟨0,0,[]⟩ by simp [List.getD,Dy (by omega:G.length≤k)]]
    simp
  simp only [Jy,eB,Jz,FQ];omega
theorem Hy.aao {G:List AU} {P:List (List Int)} {ord:List Nat} {pos:Nat→Nat} {D:List Int} {L:List Lp} (h:Hy P ord pos (CP G G.length []) D L) (hn:G.length≤5000) (h2:∀x∈G,x.nx.length≤2):∀x∈L,x.la.length≤10000:=fun x hx=>by
 rw [(h.each x hx).1];have h1:=oy ord pos (CP G G.length []) x.h.toNat;have h3:=wR h2 G.length;simp only [Bg,FQ];omega
theorem Hy.hd {G:List AU} {P:List (List Int)} {ord:List Nat} {pos:Nat→Nat} {D:List Int} {L:List Lp} (h:Hy P ord pos (CP G G.length []) D L) (hV:Dm G P):∀x∈L,0≤x.h∧x.h<(G.length:Int):=fun x hx=>by
 have h1:=(h.mem x.h).1 (C5.2 ⟨x,hx,rfl⟩);refine⟨h1.1,?_⟩;cases hl:Dz ord pos (CP G G.length []) x.h.toNat with
 | nil=>exact absurd hl h1.2
 | cons a l=>
  have ha:a∈Dz ord pos (CP G G.length []) x.h.toNat:=by rw [hl];simp
  unfold Dz at ha;obtain⟨e,he,_⟩:=C5.1 ha;obtain⟨h3,h4⟩:=Mj.1 he;obtain⟨p,q,rfl,_,hq,_⟩:=Vn hV h3;have h5:=JB h4;have:(q:Int).toNat=x.h.toNat:=h5.2.2;omega
theorem Hy.len {G:List AU} {P:List (List Int)} {ord:List Nat} {pos:Nat→Nat} {D:List Int} {L:List Lp} (h:Hy P ord pos (CP G G.length []) D L) (hV:Dm G P):L.length≤G.length:=by
 have h1:=h.hd hV;have h2:(L.map fun x=>x.h.toNat).Nodup:=by
  have h3:=h.Ry;rw [ku] at h3;unfold List.Nodup;rw [ku];refine h3.imp_of_mem fun {a b} ha hb hab=>?_;have:=h1 a ha;have:=h1 b hb;omega
 have h4:=Pz (n:=G.length) h2 (fun x hx=>by
  obtain⟨y,hy,rfl⟩:=C5.1 hx;have:=h1 y hy
  omega)
 simpa using h4
theorem Dm.nil {P:List (List Int)} (h:Dm [] P):False:=h.ne rfl



structure Rs where
 wr:Nat
 gd:Bool
 le:Int
def rW (i:Ins):Int:=if Rc i=true then i.a else 0
def ZN (A7:Int) (on:Bool) (s:Rs) (i:Ins):Rs:=if rW i=A7 then ⟨s.wr+1,decide (i.op=15) && (decide (i.b=A7) && (decide (i.AD=1) && on)),s.le⟩ else s
def fy (A7:Int) (on:Bool) (s:Rs) (i:Ins):Rs:=if i.op=25∧i.a=A7∧on=true∧(s.le=0∨i.AD<s.le) then ⟨s.wr,s.gd,i.AD⟩ else s
def jg (A7:Int) (on:Bool) (s:Rs) (l:List Ins):Rs:=l.foldl (fun s i=>fy A7 on (ZN A7 on s i) i) s
def gQ (A7:Int) (inl on:Nat→Bool) (C:List (List Ins)) (s:Rs) (b:Nat):Rs:=if inl b=true then jg A7 (on b) s (C.getD b []) else s
def Ye (A7:Int) (inl on:Nat→Bool) (C:List (List Ins)) (k:Nat):Rs:=(List.range k).foldl (gQ A7 inl on C) ⟨0,false,0⟩
theorem at4 (A7:Int) (inl on:Nat→Bool) (C:List (List Ins)) (k:Nat):Ye A7 inl on C (k+1)=gQ A7 inl on C (Ye A7 inl on C k) k:=by
 unfold Ye;rw [JT,Qw];rfl
structure NW (s:Cs) (t:Rs):Prop where
 wr:t.wr=s.wr
 z:s.wr=0→s.st=0
 o:s.wr=1→s.st=t.gd.toNat
 f:s.fd=true→t.le=s.bd∧0<t.le
 n:s.fd=false→t.le=0
theorem ni {A7:Int} (hr:10≤A7) (i:Ins):rW i=A7↔cW A7 i=true:=by
 unfold rW cW;rcases Rc i with _|_
 ·simp;omega
 ·simp
theorem NW.step {A7:Int} (h0:10≤A7) (h1:A7≤13) {pb on:Bool} {i:Ins} {k:Nat} (hg:Good i k) (hp:Hf i=true→i.a=A7→pb=on) {s:Cs} {t:Rs} (h:NW s t):NW (GH A7 pb s i) (fy A7 on (ZN A7 on t i) i):=by
 have hc:i.op=15→i.c=0:=fun e=>by
  have h15:k=15:=by have:=hg.op;omega
  subst h15;have h2:=hg.c;rw [show (FO 15).Nw=0 by decide] at h2;omega
 have hi:i.op=25→1≤i.AD:=fun e=>by
  have h25:k=25:=by have:=hg.op;omega
  subst h25;have h2:=hg.AD;rw [show OM 25=1 by decide] at h2;omega
 have hB:cB A7 i=true→pb=on:=fun hb=>by
  unfold cB at hb;simp only [Eh,E4] at hb;refine hp ?_ hb.2;unfold Hf;simp only [Eh,Yu,E4];exact⟨⟨by omega,by omega⟩,.inl hb.1⟩
 have hS:cS A7 i=true→pb=on:=fun hs=>by
  unfold cS at hs;have hs:=JB hs;subst hs;refine hp ?_ rfl;simp [Hf];omega
 have h2:NW ⟨s.wr+(cW A7 i).toNat,s.st+(cW A7 i && (cS A7 i && pb)).toNat,s.bd,s.fd⟩ (ZN A7 on t i):=by
  unfold ZN;by_cases hw:rW i=A7
  ·rw [A9 hw]
   have hw':=(ni h0 i).1 hw;have ha:i.a=A7:=by
    unfold cW at hw';simp only [Eh,E4] at hw';exact hw'.2
   have hgd:(cS A7 i && pb)=(decide (i.op=15) && (decide (i.b=A7) && (decide (i.AD=1) && on))):=by
    by_cases hs:cS A7 i=true
    ·have hpb:=hS hs
     have hs':=JB (show decide (i=⟨15,A7,A7,0,1⟩)=true from hs);rw [hs,hs',hpb];simp
    ·have hs':¬i=⟨15,A7,A7,0,1⟩:=fun e=>hs (Ac e)
     have hs2:cS A7 i=false:=by simpa using hs
     rw [hs2];by_cases h15:i.op=15
     ·by_cases hb:i.b=A7
      ·by_cases hm:i.AD=1
       ·exact absurd (by obtain⟨o,a,b,c,m⟩:=i;simp only at h15 hb hm ha hc;have:=hc h15;subst h15 hb hm ha this;rfl) hs'
       ·simp [hm]
      ·simp [hb]
     ·simp [h15]
   rw [hw',← hgd];refine⟨by simp [h.wr],fun hz=>by simp at hz,fun ho=>?_,h.f,h.n⟩;have hz:s.wr=0:=by simpa using ho
   simp [h.z hz]
  ·rw [A6 hw]
   have hw':cW A7 i=false:=by
    rw [←Bool.not_eq_true,← ni h0 i];exact hw
   rw [hw'];exact⟨by simp [h.wr],by simpa using h.z,by simpa using h.o,h.f,h.n⟩
 have e:GH A7 pb s i=⟨s.wr+(cW A7 i).toNat,s.st+(cW A7 i && (cS A7 i && pb)).toNat,if (cB A7 i && pb && (!s.fd || decide (i.AD<s.bd)))=true then i.AD else s.bd,s.fd || (cB A7 i && pb && (!s.fd || decide (i.AD<s.bd)))⟩:=rfl;rw [e];generalize s.wr+(cW A7 i).toNat=w at h2 ⊢;generalize s.st+(cW A7 i && (cS A7 i && pb)).toNat=st at h2 ⊢;generalize ZN A7 on t i=u at h2 ⊢;unfold fy;by_cases hb:cB A7 i=true
 ·have hpb:=hB hb
  have hb':=hb;unfold cB at hb';simp only [Eh,E4] at hb';have hm:=hi hb'.1;rw [hb,hpb];rcases on with _|_
  ·rw [A6 AR]
   simpa using h2
  ·have hf:=h2.f
   have hn:=h2.n;simp only at hf hn;rcases hfd:s.fd with _|_
   ·rw [hfd] at hn
    have hl:=hn rfl;have e2:(if i.op=25∧i.a=A7∧true=true∧(u.le=0∨i.AD<u.le) then (⟨u.wr,u.gd,i.AD⟩:Rs) else u)=⟨u.wr,u.gd,i.AD⟩:=A9 ⟨hb'.1,hb'.2,rfl,.inl hl⟩;rw [e2];refine⟨h2.wr,h2.z,h2.o,fun _=>⟨by simp,by show 0<i.AD;omega⟩,fun hh=>by simp at hh⟩
   ·rw [hfd] at hf
    obtain⟨hl,hp0⟩:=hf rfl;by_cases hlt:i.AD<s.bd
    ·have e2:(if i.op=25∧i.a=A7∧true=true∧(u.le=0∨i.AD<u.le) then (⟨u.wr,u.gd,i.AD⟩:Rs) else u)=⟨u.wr,u.gd,i.AD⟩:=A9 ⟨hb'.1,hb'.2,rfl,.inr A0⟩
     rw [e2];refine⟨h2.wr,h2.z,h2.o,fun _=>⟨by simp [hlt],by show 0<i.AD;omega⟩,fun hh=>by simp at hh⟩
    ·have e2:(if i.op=25∧i.a=A7∧true=true∧(u.le=0∨i.AD<u.le) then (⟨u.wr,u.gd,i.AD⟩:Rs) else u)=u:=A6 (by rintro⟨-,-,-,h5|h5⟩<;>omega)
     rw [e2];refine⟨h2.wr,h2.z,h2.o,fun _=>⟨by simp [hlt,hl],hp0⟩,fun hh=>by simp at hh⟩
 ·have hb2:cB A7 i=false:=by simpa using hb
  have hb3:¬(i.op=25∧i.a=A7):=fun hh=>hb (by unfold cB;simp [hh]);have e2:(if i.op=25∧i.a=A7∧on=true∧(u.le=0∨i.AD<u.le) then (⟨u.wr,u.gd,i.AD⟩:Rs) else u)=u:=A6 (fun hh=>hb3 ⟨hh.1,hh.2.1⟩);rw [hb2,e2];simpa using h2
theorem NW.list {A7:Int} (h0:10≤A7) (h1:A7≤13) {pb on:Bool}:∀(l:List Ins),(∀i∈l,∃k,Good i k)→(∀i∈l,Hf i=true→i.a=A7→pb=on)→∀ {s:Cs} {t:Rs},NW s t→NW (Gu A7 pb s l) (jg A7 on t l)
 | [],_,_,s,t,h=>h
 | i :: l,hg,hp,s,t,h=>by
  unfold Gu jg;rw [LP,LP];obtain⟨k,hk⟩:=hg i AR;exact NW.list h0 h1 l (fun x hx=>hg x (by simp [hx])) (fun x hx=>hp x (by simp [hx])) (h.step h0 h1 hk (hp i AR))
theorem NW.all {A7:Int} (h0:10≤A7) (h1:A7≤13) {inl pl:List Bool} {inr on:Nat→Bool} {C:List (List Ins)} (hg:∀l∈C,∀i∈l,∃k,Good i k) (hin:∀b,b<C.length→inl.getD b false=inr b) (hp:∀b,b<C.length→inr b=true→∀i∈C.getD b [],Hf i=true→pl.getD b false=on b):∀k,k≤C.length→NW (Df A7 inl pl C k) (Ye A7 inr on C k)
 | 0,_=>⟨rfl,fun _=>rfl,fun h=>absurd h (by show ¬(0:Nat)=1;omega),fun h=>absurd h (by show ¬false=true;decide),fun _=>rfl⟩
 | k+1,hk=>by
  have ih:=NW.all h0 h1 hg hin hp k A0;rw [at4];have e:Df A7 inl pl C (k+1)=TG A7 inl pl C (Df A7 inl pl C k) k:=by
   unfold Df;rw [JT,Qw];rfl
  rw [e];generalize Df A7 inl pl C k=s at ih ⊢;generalize Ye A7 inr on C k=t at ih ⊢;unfold TG gQ;rw [hin k A0];split
  ·rename_i hi
   have e2:C.getD k []=C[k]:=by simp [List.getD,Ab (show k<C.length by omega)]
   exact NW.list h0 h1 _ (fun i hi'=>hg _ (CQ (show k<C.length by omega)) i (by rw [←e2];exact hi')) (fun i hi' hc _=>hp k A0 hi i hi' hc) ih
  ·exact ih
def Rm (L:List (List Int)) (b:Nat):List Nat:=(L.getD b []).map Int.toNat
structure NL (L:List (List Int)) (n:Nat):Prop where
 len:L.length=n
 le:n≤5000
 row:∀l∈L,l.length≤5000
 nx:∀l∈L,∀t∈l,0≤t∧t<(n:Int)
theorem arG {L:List (List Int)} {b:Nat} {l:List Int} (h:L[b]?=some l):Rm L b=l.map Int.toNat:=by unfold Rm;rw [List.getD,h];rfl
theorem NL.lt {L:List (List Int)} {n:Nat} (h:NL L n):∀x,∀t∈Rm L x,t<n:=fun x t ht=>by
 by_cases hx:x<L.length
 ·have e:L[x]?=some L[x]:=Ab hx
  rw [arG e] at ht;obtain⟨z,hz,rfl⟩:=C5.1 ht;have:=h.nx _ (CQ hx) z hz;omega
 ·unfold Rm at ht
  rw [List.getD,Dy A0] at ht;simp at ht
theorem Gr.nodup {n:Nat} {nx:Nat→List Nat} {ord:List Nat} {pos:Nat→Nat} (g:Gr n nx ord pos):ord.Nodup:=by
 unfold List.Nodup;rw [QS];intro i j hi hj hij e;have h1:=g.at_ i _ (Ab hi);have h2:=g.at_ j _ (Ab hj);rw [e] at h1;omega

section
theorem auc (v:Value) (L:List Int) (x:Int) (w:World) (HL:Ints w v L) :
  Calls Tryz.prog 26 #[v,.int .i64 x] w fun e w'=>e=.returned (.bool (decide (x∈L)))∧w=w':=by
 obtain⟨A,cap,rfl,h1,h2⟩:=HL.slice;obtain⟨l,hl⟩:=A8 L.length;have⟨HLH,M0⟩:=AQ HL hl;rw [hl] at h1 ⊢;clear HL hl;go_enter Tryz.func26,Tryz.ntmps26;go_wp2_with fail;go_loopw [5] (fun a5 wr=>∃j:Nat,j≤l∧a5=.int .i64 (j:Int)∧(∀i,i<j→L[i]?≠some x)∧w=wr) (fun a5 _=>l - (intOf a5).toNat);case atStart=>exact⟨0,by omega,rfl,fun i hi=>by omega,rfl⟩
 case round=>
  obtain⟨j,hj,rfl,hno,rfl⟩:=hrel;have D6:=A3 hno;clear hno;by_cases hlt:j<l
  ·have dl:decide ((j:Int)<(l:Int))=true:=Ac A0
   have dj:(j:Int)<(l:Int):=by omega
   obtain⟨s,b1,o1,hs,rfl,hb,c1⟩:=Ints.at_ HLH.out (AV _ _) (j:=j) (by rw [M0.out];exact hlt);have HS:=A3 hs;clear hs;by_cases he:s=x
   ·have de:(s==x)=true:=by simp [he]
    have HR:=A3 (show decide (x∈L)=true from Ac (by rw [←he];exact Bj HS.out));clear he;go_wp2_with fail;go_ret;exact⟨by rw [HR.out];rfl,rfl⟩
   ·have de:(s==x)=false:=by simpa using he
    have KL:=A3 he;clear he;go_wp2_with fail;go_roundw;case rel=>
     refine⟨j+1,by omega,by go_num,fun i hi=>?_,by first|rfl|trivial⟩;by_cases h9:i<j
     ·exact D6.out i h9
     ·obtain rfl:i=j:=by omega
      rw [HS.out];exact fun e=>KL.out (FZ e)
    case measure=>exact Ai
  ·obtain rfl:l=j:=by omega
   have dl:decide ((l:Int)<(l:Int))=false:=by simp
   have HR:=A3 (show decide (x∈L)=false from Ad (fun hx=>by
    obtain⟨i,hi⟩:=LH.1 hx
    exact D6.out i (by have:=(Bc.1 hi).1;rw [M0.out] at this;exact this) hi))
   go_wp2_with fail;go_ret;exact⟨by rw [HR.out];rfl,rfl⟩
section
variable {nx:Nat→List Nat} {inb:Nat→Bool} {hd b:Nat}
end
def inL (bl:List Int) (x:Nat):Bool:=decide ((x:Int)∈bl)
theorem lS {bl:List Int} {x:Nat}:inL bl x=true↔(x:Int)∈bl:=by simp [inL]
end

theorem aqK:∀k:Nat,k<30→((fm k).wr=true↔((2≤k∧k≤18)∨k=20∨k=26)):=by decide +kernel
theorem vo (G:List AU):Rm (G.map (·.nx))=Aa G:=by
 funext b;unfold Rm Aa;congr 1
 by_cases hb:b<G.length
 ·simp [List.getD,hb]
 ·simp [List.getD,Dy (by omega:G.length≤b)]
theorem lW (n:Nat) (bl:List Int) {b:Nat} (hb:b<n):(Eu n bl).getD b false=inL bl b:=by
 unfold Eu inL;simp [List.getD,hb]
theorem DT.ref {n:Nat} {cd:Nat→Int} {AO:List Bt} {sh lk:Int} {k:Nat} {en:Bt} {G:List AU} {P:List (List Int)} (g:DT n cd AO sh lk k en G P) (hn:G.length≤5000) {D:List Int} {L:List Lp} (h:Hy P (C6 G.length (Aa G)) (Cw G.length (Aa G)) (CP G G.length []) D L):∀x∈L,Kq G.length x=true:=fun x hx=>by
 have hv:=g.val;obtain⟨gr,-⟩:=Nb (Gk.2 hv.ne) (GB.of hv hn).lt;have h1:=h.hd hv x hx;obtain⟨h2,h3⟩:=h.each x hx;unfold Kq I9;simp only [Eh,Mm,E4];refine⟨⟨fun y hy=>?_,fun y hy=>?_⟩,fun y hy=>?_⟩
 ·obtain rfl:y=x.h:=by simpa using hy
  exact h1
 ·obtain⟨h4,h5⟩:=(h3.mem y).1 hy
  have:y.toNat<G.length:=by
   generalize y.toNat=z at h5 ⊢;cases h5 with
   | hd=>omega
   | lt _ hr=>exact gr.lt _ hr
   | up _ _ _ hr=>exact gr.lt _ hr
  omega
 ·rw [h2] at hy
  obtain⟨z,hz,rfl⟩:=C5.1 hy;unfold Dz at hz;obtain⟨e,he,rfl⟩:=C5.1 hz;obtain⟨h5,h6⟩:=Mj.1 he;have h7:=(JB h6).1;have:=gr.lt _ h7;omega
section
section
variable {n:Nat} {cd:Nat→Int} {AO:List Bt} {sh lk:Int} {k:Nat} {en:Bt} {G:List AU} {P:List (List Int)}
theorem DT.nl (g:DT n cd AO sh lk k en G P) (hn:G.length≤5000):NL (G.map (·.nx)) G.length:=by
 obtain⟨z,hz⟩:=g.val.ok;refine⟨by simp,hn,fun l hl=>?_,fun l hl t ht=>?_⟩
 ·obtain⟨x,hx,rfl⟩:=C5.1 hl
  have:=g.nx2 x hx;omega
 ·obtain⟨x,hx,rfl⟩:=C5.1 hl
  obtain⟨e,he⟩:=hz.each x hx;have:=he.nx t ht;omega
theorem DT.gr (g:DT n cd AO sh lk k en G P) (hn:G.length≤5000):Gr G.length (Rm (G.map (·.nx))) (C6 G.length (Aa G)) (Cw G.length (Aa G)):=by
 rw [vo];exact (Nb (Gk.2 g.val.ne) (GB.of g.val hn).lt).1
theorem DT.it (g:DT n cd AO sh lk k en G P) {D:List Int} (hT:Ec G D):JL G.length (Rm (G.map (·.nx))) (C6 G.length (Aa G)) (Cw G.length (Aa G)) D:=by
 rw [vo];exact hT
theorem DT.lp (g:DT n cd AO sh lk k en G P) (hn:G.length≤5000) {D:List Int} {L:List Lp} (h:Hy P (C6 G.length (Aa G)) (Cw G.length (Aa G)) (CP G G.length []) D L) {x:Lp} (hx:x∈L):(∃hd:Nat,x.h=(hd:Int)∧hd<G.length)∧(∀t∈x.la,∃u:Nat,t=(u:Int)∧u∈C6 G.length (Aa G))∧(∀t∈x.bl,0≤t∧t<(G.length:Int)):=by
 obtain⟨h1,h2,h3⟩:=um (g.ref hn h x hx);refine⟨h1,fun t ht=>?_,fun t ht=>?_⟩
 ·have h4:=Mm.1 h3 t ht
  simp only [Eh,E4] at h4;exact⟨t.toNat,by omega,g.bP hn _ A0⟩
 ·have h4:=Mm.1 h2 t ht
  simp only [Eh,E4] at h4;exact h4
end
end
section
theorem apM (b off j:Nat):(⟨b,off,none⟩:Addr).add j=⟨b,off+j,none⟩:=by cases j<;>simp [Addr.add]
structure Fi (w U w':World) (gb:Nat):Prop where
 AA:Below w.heap.size w w'
 sz:U.heap.size≤w'.heap.size
 hp:∀b,b<U.heap.size→b≠gb→w'.heap[b]?=U.heap[b]?
section
variable {w U w':World} {gb:Nat}
theorem Fi.cell (h:Fi w U w' gb) {b o:Nat} (h1:b<U.heap.size) (h2:b≠gb):w'.cell? ⟨b,o,none⟩=U.cell? ⟨b,o,none⟩:=N3 (h.hp b h1 h2)
theorem Fi.below {w'':World} (h:Fi w U w' gb) (hb:Below w'.heap.size w' w''):Fi w U w'' gb:=
 ⟨h.AA.trans (hb.mono h.AA.size),FK h.sz hb.size,fun b h1 h2=>(hb.block b ZL).trans (h.hp b h1 h2)⟩
theorem Fi.drew (h:Fi w U w' gb):Fi w U w'.drew gb:=⟨h.AA.drew,h.sz,h.hp⟩
theorem Fi.start (h:Below w.heap.size w U):Fi w U U gb:=⟨h,AH _,fun _ _ _=>rfl⟩
theorem Fi.trans {V:World} (h:Fi w U w' gb) (h2:Fi w w' V gb):Fi w U V gb:=⟨h2.AA,FK h.sz h2.sz,fun b h3 h4=>(h2.hp b ZL h4).trans (h.hp b h3 h4)⟩
theorem Fi.set (h:Fi w U w' gb) (hg:w.heap.size≤gb) (j:Nat) (v:Value):Fi w U (w'.setCell ⟨gb,j,none⟩ v) gb:=
 ⟨h.AA.setCell (p:=⟨gb,j,none⟩) hg v,by rw [eZ];exact h.sz,fun b h1 h2=>(Bb _ _ _ _ (by show b≠gb;exact h2)).trans (h.hp b h1 h2)⟩
theorem Fi.box (h:Fi w U w' gb) {q:Nat} (hq:U.heap.size≤q) (hw:w.heap.size≤q) (j:Nat) (v:Value):Fi w U (w'.setCell ⟨q,j,none⟩ v) gb:=
 ⟨h.AA.setCell (p:=⟨q,j,none⟩) hw v,by rw [eZ];exact h.sz,fun b h1 h2=>(Bb _ _ _ _ (by show b≠q;omega)).trans (h.hp b h1 h2)⟩
end
theorem Fi.grown {w U w' w'':World} {gb:Nat} {row:Option Nat} (h:Fi w U w' gb) (G:w'.grownBy w'' row) (hr:∀q,row=some q→U.heap.size≤q) (hw:w.heap.size≤U.heap.size):Fi w U w'' gb:=
 ⟨h.AA.grown G h.AA.size (fun q hq=>FK hw (hr q hq)),FK h.sz G.size,fun b h1 h2=>(G.block b ZL (fun e=>by have:=hr b e.symm;omega)).trans (h.hp b h1 h2)⟩
end
theorem yq {P:Program} {w:World} {ops:Array Oper} {rest:List Oper} {o:Oper} {a:Act} {Q:Exit→Act→World→Prop} (hgd:o.guard=none) (s x:Operand) (t:TypeId)
  (ho:o.op=.call { callee:=.builtin .append,args:=#[s,x],argTypes:=#[t,t] })
  (e:TypeId) (i:TypeInfo) (ht:P.underlying t=some (.slice e)) (hi:P.info? e=some i)
  (base:Option Addr) (m c:Nat) (hm:m≤c) (hs:a.eval s=.slice base m c) (A:Option Addr) (c':Nat) (hx:a.eval x=.slice A 0 c')
  (h:wpList P ops Q rest (a.put o.dst (.slice base m c)) w):wpList P ops Q (o :: rest) a w:=by
 refine wpList_plain hgd fun K hK=>?_;have hsrc:Src P i.size t (.slice A 0 c') 0 [] w:=by
  cases A with
  | none=>exact Src.ofNil _ ht c'
  | some ad=>exact Src.ofSlice _ ht ad 0 c' [] AR (fun j u hu=>by simp at hu) (fun u hu=>by simp at hu)
 have hrun:=run_append_nothing (P:=P) w t t o.type e i ht hi base m c hm _ hsrc;unfold Oper.wp;simp [execOp,ho,resolve,invoke,builtin,hs,hx,hrun,Result.andThen];exact hK _ _ h
theorem VK.below {w w':World} {cd:Nat→Int} {G:List AU} {P:List (List Int)} {bv pv lv rv iv dv:Value} {D:List Int} {L:List Lp} {s:AS} (h:VK w cd G P bv pv lv rv iv dv D L s) (hb:Below w.heap.size w w'):VK w' cd G P bv pv lv rv iv dv D L s:=
 ⟨h.Kg.below hb,h.lls.below hb,h.Ox.below hb,h.tree,h.loops,h.ends,h.Ji.below hb,h.AG,h.l1,h.l2,h.dvs⟩
theorem agi (cv ev:Value) (sh lk:Int) {n:Nat} {cd:Nat→Int} {AO:List Bt} {k:Nat} {en:Bt} {G:List AU} {P:List (List Int)} {w:World} (T:CO w) (HW:Words w cv n cd) (hn:n≤1000) (g:DT n cd AO sh lk k en G P) {bv pv lv rv iv dv:Value} {D:List Int} {L:List Lp} {s:AS} (hA:VK w cd G P bv pv lv rv iv dv D L s) :
  Calls Tryz.prog 20 #[.agg #[cv,ev,.int .i64 sh,.int .i64 lk],.agg #[bv,pv],lv,.agg #[rv,iv,dv]] w fun e w'=>cE w' (Fk cd G s.reach L []) e∧Below w.heap.size w w':=by
 have hgl:=g.len;have Gi:=hA.loops.len g.val;exact (wL cv ev bv pv sh lk n cd G P w T HW hA.Kg hA.lls A0 (fun x hx=>by have:=g.nx2 x hx;omega) L lv hA.Ox A0 (fun x hx=>by have:=hA.loops.aao A0 g.nx2 x hx;omega) s.reach rv iv dv hA.Ji G.length (by obtain⟨A,cap,h1,h2,h3⟩:=hA.AG;rw [hA.l2] at h1 h2;exact⟨A,cap,h1,h2,h3⟩) (fun _=>g.bP A0)).mono fun e w' ⟨h,hb⟩=>⟨h.yes ⟨g.val,g.MK,hA.l1,rfl,g.ref A0 hA.loops⟩,hb⟩
theorem apR {w:World} {n:Nat} {cd:Nat→Int} {AO:List Bt} {sh lk task:Int} {e:Ending} (h:cQ w n cd AO sh lk task e):∃(k:Nat) (en:Bt) (G:List AU) (P:List (List Int)) (D:List Int) (L:List Lp) (s:AS) (GA PA LA Ko IA DA:Option Addr) (gc pc lc rc ic dn dc:Nat),task=(k:Int)∧DT n cd AO sh lk k en G P∧VK w cd G P (.slice GA G.length gc) (.slice PA P.length pc) (.slice LA L.length lc) (.slice Ko G.length rc) (.slice IA G.length ic) (.slice DA dn dc) D L s∧e=.returned (.tuple #[.agg #[.slice GA G.length gc,.slice PA P.length pc],.slice LA L.length lc,.agg #[.slice Ko G.length rc,.slice IA G.length ic,.slice DA dn dc],.bool true])∧G.length≤ic∧ic≤maxLen:=by
 obtain⟨k,en,G,P,bv,pv,lv,rv,iv,dv,D,L,s,hk,hg,hA,he⟩:=h;obtain⟨A,c,hb,-,-⟩:=hA.Kg.slice;obtain⟨A',c',hp,-,-⟩:=hA.lls.slice;obtain⟨LA,lc,hl,-,-⟩:=hA.Ox.slice;obtain⟨Ko,rc,hr,-,-,-⟩:=id hA.Ji;obtain⟨IA,ic,hi,hi1,hi2⟩:=hA.AG;obtain⟨DA,dn,dc,hd⟩:=hA.dvs;rw [hA.l1] at hr;rw [hA.l2] at hi hi1;subst hb hp hl hr hi hd;exact⟨k,en,G,P,D,L,s,A,A',LA,Ko,IA,DA,c,c',lc,rc,ic,dn,dc,hk,hg,hA,he,hi1,hi2⟩
def QY (s:Int×Bool) (F:Int):Prop:=(s.2=true→F=s.1∧0<F)∧(s.2=false→F=0)
theorem QY.no {s x:Int×Bool} {F:Int} (h:QY s F) (hx:x.2=false):QY (FA s x) F:=by
 unfold FA;rw [A6 (by rw [hx];simp)];exact h
theorem QY.take {s x:Int×Bool} {F:Int} (h:QY s F) (hx:x.2=true) (hp:0<x.1) (hl:F=0∨x.1<F):QY (FA s x) x.1:=by
 unfold FA;have hc:s.2=false∨x.1<s.1:=by
  cases hs:s.2 with
  | false=>exact .inl rfl
  | true=>
   obtain⟨h1,h2⟩:=h.1 hs;rw [←h1];exact .inr A0
 rw [A9 ⟨hx,hc⟩];exact⟨fun _=>⟨rfl,hp⟩,fun h=>by cases h⟩
theorem QY.keep {s x:Int×Bool} {F:Int} (h:QY s F) (h0:F≠0) (hl:¬x.1<F):QY (FA s x) F:=by
 have hs:s.2=true:=by
  cases hs:s.2 with
  | true=>rfl
  | false=>exact absurd (h.2 hs) h0
 obtain⟨h1,h2⟩:=h.1 hs;unfold FA;rw [A6 (fun h3=>h3.2.elim (fun e=>by rw [hs] at e;cases e) (fun e=>hl (by rw [h1];exact e)))];exact h
theorem abz {w:World} {r:List Int ⊕ Int} {e:Ending} (h:cE w r e):∃A ol oc at_ er,e=.returned (.tuple #[.slice A ol oc,.int .i64 at_,.int .i64 er])∧(∀out,r=.inl out→at_ = -1∧er=0∧Ints w (.slice A ol oc) out)∧(∀q,r=.inr q→at_=q∧er=16∧ol=0):=by
 cases r with
 | inl out=>
  obtain⟨ov,h1,h2⟩:=h;obtain⟨A,c,rfl,-,-⟩:=h2.slice;exact⟨A,out.length,c,-1,0,h1,fun o e1=>by cases e1;exact⟨rfl,rfl,h2⟩,fun q e1=>by cases e1⟩
 | inr q=>exact⟨none,0,0,q,16,h,⟨fun o e1=>(by cases e1),fun q' e1=>(by cases e1;exact⟨rfl,rfl,rfl⟩)⟩⟩
theorem uQ {n:Nat} {cd:Nat→Int} {G:List AU} {x:AU} (h:M6 n cd G x) {m:Nat} (hm:x.lo+m≤x.hi):∀i∈codeFrom cd x.lo m,0≤i.op:=by
 intro i hi;unfold codeFrom at hi;obtain⟨j,hj,rfl⟩:=C5.1 hi;have hj:=Gp.1 hj;have h0:=h.lo;have:=(h.MK (x.lo.toNat+j) A0 A0).2.2
 rwa [show ((x.lo.toNat+j:Nat):Int)=x.lo+(j:Int) by omega] at this
theorem Grf.below {w w':World} {cv bv pv:Value} {n:Nat} {cd:Nat→Int} {AO:List Bt} {sh lk:Int} {k:Nat} {G:List AU} {P:List (List Int)} (h:Grf w cv bv pv n cd AO sh lk k G P) (hb:Below w.heap.size w w'):Grf w' cv bv pv n cd AO sh lk k G P:=
 ⟨h.wd.below hb,h.n3,h.gd,h.Kg.below hb,h.lls.below hb,h.val,h.pos,h.len,h.ok,h.run⟩
theorem ark {x y z:Int×Int} (h:Sub x y) (k:Sub y z):Sub x z:=by unfold Sub at *;omega
theorem pE {cd:Nat→Int} {G:List AU} {b:Nat} {x:AU} (h:G[b]?=some x):(BR cd G).getD b ⟨[],[]⟩=⟨codeFrom cd x.lo (x.hi - x.lo).toNat,x.nx⟩:=by
 unfold BR;simp [List.getD,h]
theorem oM {n:Nat} {cd:Nat→Int} {G:List AU} {x:AU} (h:M6 n cd G x):AB.last ⟨codeFrom cd x.lo (x.hi - x.lo).toNat,x.nx⟩=AK cd (x.hi - 1):=by
 have h1:=h.lt;unfold AB.last;simp only [SZ];unfold codeFrom;have e:(x.hi - x.lo).toNat - 1<(x.hi - x.lo).toNat:=by omega
 simp only [List.getD,D8,FI e,YS,nw];congr 1
 omega
theorem asW {B:List AB} {s:AS} {n b:Nat} {p:Int×Int} (hb:b<n) (hr:s.reach.getD b false=true) (h:p∈Ee (B.getD b ⟨[],[]⟩) b (B.getD b ⟨[],[]⟩).nx.length (s.AG.getD b [])):p∈Em B s n:=by
 unfold Em;rw [TB];exact⟨b,Gp.2 hb,by rw [A9 hr];exact h⟩
theorem sP {n:Nat}:∀ {l:List AU} {a z:Int},Dg n a l z→(∀y∈l,y.hi≤z)∧a≤z
 | [],a,z,h=>⟨fun y hy=>by (cases hy),by cases h;exact EJ _⟩
 | x :: xs,a,z,h=>by
  obtain⟨h1,h2⟩:=sP h.2;have h3:=h.1.lo;have h4:=h.1.hi;refine⟨fun y hy=>?_,by omega⟩;rcases Da.1 hy with rfl|hy
  ·exact h2
  ·exact h1 y hy
theorem uJ {n:Nat} {G:List AU} {z:Int} (hv:Dg n 0 G z) {b:Nat} {x:AU} (hx:G[b]?=some x) {pc:Int} (h1:x.lo≤pc) (h2:pc<x.hi):Og G pc=some b:=by
 obtain⟨hb,e⟩:=Bc.1 hx;refine ep hx ⟨h1,h2⟩ fun y hy hin=>?_;have hs:G.take b++(x :: G.drop (b+1))=G:=by rw [←e,← ZX hb];exact Ul b G
 rw [←hs] at hv;obtain⟨m,h3,h4⟩:=Dg.append.1 hv;have h5:=(sP h3).1 y hy;have h6:=h4.1.lo;have h7:y.lo≤pc∧pc<y.hi:=hin;omega
theorem at7 {n:Nat} {cd:Nat→Int} {G:List AU} {s:AS} (hE:Ends (BR cd G) (EI G.length) s) (FX:Fx G.length s) (hok:∀x∈G,M6 n cd G x) {b:Nat} {x:AU} (hx:G[b]?=some x) (hr:s.reach.getD b false=true) {k:Nat} (hk:k<x.nx.length)
  (hd:((b:Int),x.nx.getD k 0)∉Em (BR cd G) s G.length) :
  ∃AX,Dc (codeFrom cd x.lo (x.hi - x.lo).toNat) (s.AG.getD b [])=some AX∧R16 AX∧s.reach.getD (x.nx.getD k 0).toNat false=true∧(x.nx.getD k 0).toNat<G.length∧
   (¬((AK cd (x.hi - 1)).op=22∨(AK cd (x.hi - 1)).op=23)→MH AX (s.AG.getD (x.nx.getD k 0).toNat []))∧
   (((AK cd (x.hi - 1)).op=22∨(AK cd (x.hi - 1)).op=23)→∀tk a,(x.nx.length=2→tk=decide (k=1))→Cx (AK cd (x.hi - 1)) AX tk=some a→MH a (s.AG.getD (x.nx.getD k 0).toNat [])):=by
 have hbl:=(Bc.1 hx).1;have ho:=hok x (Bj hx);have hb2:b<(BR cd G).length:=by rw [dZ];exact hbl
 have hq:=hE.fixed b hb2 hr;have hab:=pE (cd:=cd) hx;rw [hab] at hq;have hnk:x.nx.getD k 0∈x.nx:=by
  rw [show x.nx.getD k 0=x.nx[k] by simp [List.getD,Ab hk]];exact CQ hk
 have htn:=ho.nx _ hnk;have htl:(x.nx.getD k 0).toNat<G.length:=by omega
 have hnd:∀p,p∈Ee ⟨codeFrom cd x.lo (x.hi - x.lo).toNat,x.nx⟩ b x.nx.length (s.AG.getD b [])→p≠((b:Int),x.nx.getD k 0):=fun p hp e=>hd (by
  subst e;refine asW hbl hr ?_;rw [hab]
  exact hp)
 have h16:=FX.El.get hbl;rcases hq with hn|⟨AX,h1,h2⟩
 ·refine absurd rfl (hnd ((b:Int),x.nx.getD k 0) ?_)
  unfold Ee;unfold FV at hn;simp only at hn ⊢;rw [hn];simp only [Gx];exact C5.2 ⟨_,hnk,rfl⟩
 ·unfold FV at h1
  simp only at h1 h2;have ha:=TM (uQ ho (m:=(x.hi - x.lo).toNat) (by have:=ho.lt;omega)) h16 h1;rcases h2 k hk with h3|⟨r,h3,h4,h5⟩
  ·refine absurd rfl (hnd ((b:Int),x.nx.getD k 0) ?_)
   unfold Ee;simp only;rw [h1];simp only;refine C5.2 ⟨k,?_,rfl⟩;rw [Mj];exact⟨Gp.2 hk,by rw [h3];rfl⟩
  ·have arv:=XJ ha h3
   unfold FV at h5;have alc:=FX.El.get htl;have hs:=agQ alc arv h5;rw [oM ho] at h3;refine⟨AX,h1,ha,h4,htl,fun hno=>?_,fun hbr tk a h2k Fo=>?_⟩
   ·unfold ES at h3
    rw [A9 hno] at h3;cases h3;exact hs
   ·unfold ES at h3
    rw [A6 (fun h=>h hbr)] at h3;by_cases hm:x.nx.length=2
    ·rw [A9 hm] at h3
     rw [←h2k hm,Fo] at h3;cases h3;exact hs
    ·rw [A6 hm] at h3
     have auP:=Ip ha Fo;have key:MH a r:=by
      cases hf:Cx (AK cd (x.hi - 1)) AX false with
      | none=>
       rw [hf] at h3;cases ht:Cx (AK cd (x.hi - 1)) AX true with
       | none=>rw [ht] at h3;cases h3
       | some y=>
        rw [ht] at h3;cases h3;cases tk with
        | false=>rw [hf] at Fo;cases Fo
        | true=>rw [ht] at Fo;cases Fo;exact fun k=>vQ _
      | some y=>
       rw [hf] at h3;cases ht:Cx (AK cd (x.hi - 1)) AX true with
       | none=>
        rw [ht] at h3;cases h3;cases tk with
        | false=>rw [hf] at Fo;cases Fo;exact fun k=>vQ _
        | true=>rw [ht] at Fo;cases Fo
       | some z=>
        rw [ht] at h3;simp only [MG] at h3;subst h3;have y16:=Ip ha hf;have z16:=Ip ha ht;cases tk with
        | false=>rw [hf] at Fo;cases Fo;exact gP y16 z16
        | true=>
         rw [ht] at Fo;cases Fo;refine MH.of (fun k hk=>?_) z16 (y16.join z16);rw [Zo y16 z16 hk];exact (within_iff _ _).1 (vt _ _)
     exact fun k=>ark (key k) (hs k)
section
section
variable {nx:Nat→List Nat} {AG JG:Nat→Prop} {hd B:Nat}
theorem Rb.trans {a b c:Nat} (h:Rb nx AG hd a b) (k:Rb nx AG hd b c):Rb nx AG hd a c:=by
 induction k with
 | self=>exact h
 | step _ h1 h2 h3 ih=>exact ih.step h1 h2 h3
theorem Rb.afK {a:Nat} (h:Rb nx AG hd a hd):a=hd:=by
 cases h with
 | self=>rfl
 | step _ _ h2 _=>exact absurd rfl h2
inductive Av (nx:Nat→List Nat) (AG:Nat→Prop) (hd B:Nat):Nat→Prop
 | hd:B≠hd→Av nx AG hd B hd
 | step {x y:Nat}:Av nx AG hd B x→y∈nx x→y≠hd→AG y→y≠B→Av nx AG hd B y
theorem Av.ne {c:Nat} (h:Av nx AG hd B c):c≠B:=by
 cases h with
 | hd h=>exact ED h
 | step _ _ _ _ h=>exact h
theorem Av.wJ {c:Nat} (h:Av nx AG hd B c):B≠hd:=by
 induction h with
 | hd h=>exact h
 | step _ _ _ _ _ ih=>exact ih
structure JO (nx:Nat→List Nat) (AG JG:Nat→Prop) (hd B:Nat):Prop where
 out:∀c,AG c→∃l,JG l∧Rb nx AG hd c l
 E9:∀c,AG c→Rb nx AG hd hd c
 key:∀l,JG l→¬Av nx AG hd B l
 lin:∀l,JG l→AG l
 cyc:B≠hd→¬Uw nx AG hd B
variable (o:JO nx AG JG hd B)
include o
theorem JO.either {c:Nat} (hc:AG c):Av nx AG hd B c∨Rb nx AG hd B c:=by
 have h:=o.E9 c hc;clear hc;induction h with
 | self=>
  by_cases hB:B=hd
  ·exact .inr (hB▸.self)
  ·exact .inl (.hd hB)
 | @step x y _ h1 h2 h3 ih=>
  rcases ih with ih|ih
  ·by_cases hy:y=B
   ·exact .inr (hy▸.self)
   ·exact .inl (ih.step h1 h2 h3 hy)
  ·exact .inr (ih.step h1 h2 h3)
theorem JO.goes {c:Nat} (hc:AG c) (h:Av nx AG hd B c):Rb nx AG hd c B:=by
 obtain⟨l,hl,hr⟩:=o.out c hc;have key:∀z,Rb nx AG hd c z→Av nx AG hd B z∨Rb nx AG hd c B:=by
  intro z hz;induction hz with
  | self=>exact .inl h
  | @step x y hx h1 h2 h3 ih=>
   rcases ih with ih|ih
   ·by_cases hy:y=B
    ·exact .inr (hy▸hx.step h1 h2 h3)
    ·exact .inl (ih.step h1 h2 h3 hy)
   ·exact .inr ih
 rcases key l hr with h1|h1
 ·exact absurd h1 (o.key l hl)
 ·exact h1
theorem JO.ap7 {c:Nat} (hc:AG c) (h:Av nx AG hd B c):¬Rb nx AG hd B c:=fun hb=>by
 have hB:B≠hd:=h.wJ;have hg:=o.goes hc h;cases hg with
 | self=>exact h.ne rfl
 | step h1 h2 _ _=>exact o.cyc hB ⟨_,hb.trans h1,h2⟩
theorem JO.move {c c':Nat} (hc:AG c) (hc':AG c') (he:c'∈nx c) (hne:c'≠hd):Rb nx AG hd B c↔(Rb nx AG hd B c'∧c'≠B):=by
 constructor
 ·intro h
  refine⟨h.step he hne hc',?_⟩;rintro rfl;exact o.cyc hne ⟨_,h,he⟩
 ·rintro⟨h1,h2⟩
  rcases o.either hc with h|h
  ·exact absurd h1 (o.ap7 hc' (h.step he hne hc' h2))
  ·exact h
theorem JO.adE {l:Nat} (hl:JG l):Rb nx AG hd B l:=by
 rcases o.either (o.lin l hl) with h|h
 ·exact absurd h (o.key l hl)
 ·exact h
end
open Classical in
noncomputable def FD (nx:Nat→List Nat) (AG:Nat→Prop) (hd B i c p:Nat):Int:=if (Rb nx AG hd B c∧c≠B)∨(c=B∧i<p) then 1 else 0
section
variable {nx:Nat→List Nat} {AG JG:Nat→Prop} {hd B S i j c c' p:Nat}
theorem aN:FD nx AG hd B i c p=0∨FD nx AG hd B i c p=1:=by
 unfold FD;by_cases h:(Rb nx AG hd B c∧c≠B)∨(c=B∧i<p)
 ·rw [A9 h];exact .inr rfl
 ·rw [A6 h];exact .inl rfl
theorem dG:FD nx AG hd B i hd 0=0:=by
 unfold FD;rw [A6];rintro (⟨h1,h2⟩|⟨_,h2⟩)
 ·exact h2 h1.afK.symm
 ·omega
theorem Xj (h:¬(c=B∧i=p)):FD nx AG hd B i c (p+1)=FD nx AG hd B i c p:=by
 unfold FD;have e:((Rb nx AG hd B c∧c≠B)∨(c=B∧i<p+1))↔((Rb nx AG hd B c∧c≠B)∨(c=B∧i<p)):=by
  constructor
  ·rintro (h1|⟨h1,h2⟩)
   ·exact .inl h1
   ·exact .inr ⟨h1,by have:¬i=p:=fun e=>h ⟨h1,e⟩;omega⟩
  ·rintro (h1|⟨h1,h2⟩)
   ·exact .inl h1
   ·exact .inr ⟨h1,by omega⟩
 by_cases h1:(Rb nx AG hd B c∧c≠B)∨(c=B∧i<p)
 ·rw [A9 h1,A9 (e.2 h1)]
 ·rw [A6 h1,A6 (fun h=>h1 (e.1 h))]
theorem X0:FD nx AG hd B i B i=0∧FD nx AG hd B i B (i+1)=1:=by
 unfold FD;exact⟨A6 (by rintro (⟨_,h⟩|⟨_,h⟩);exact h rfl;omega),A9 (.inr ⟨rfl,by omega⟩)⟩
theorem qE (hp:c=B→i<p):FD nx AG hd B i c p=1↔Rb nx AG hd B c:=by
 unfold FD;by_cases h:(Rb nx AG hd B c∧c≠B)∨(c=B∧i<p)
 ·rw [A9 h]
  refine⟨fun _=>?_,fun _=>rfl⟩;rcases h with h|⟨rfl,_⟩
  ·exact h.1
  ·exact .self
 ·rw [A6 h]
  refine⟨fun h=>A0,fun h1=>absurd ?_ h⟩;by_cases hc:c=B
  ·exact .inr ⟨hc,hp hc⟩
  ·exact .inl ⟨h1,hc⟩
theorem JO.FD (o:JO nx AG JG hd B) (hc:AG c) (hc':AG c') (he:c'∈nx c) (hne:c'≠hd) (hp:c=B→i<p):Go.Proofs.YtlmgkipmfgijiaaGreatDoor.FD nx AG hd B i c' 0=Go.Proofs.YtlmgkipmfgijiaaGreatDoor.FD nx AG hd B i c p:=by
 have h1:=qE (nx:=nx) (AG:=AG) (hd:=hd) hp;have h2:Go.Proofs.YtlmgkipmfgijiaaGreatDoor.FD nx AG hd B i c' 0=1↔(Rb nx AG hd B c'∧c'≠B):=by
  unfold Go.Proofs.YtlmgkipmfgijiaaGreatDoor.FD;by_cases h:(Rb nx AG hd B c'∧c'≠B)∨(c'=B∧i<0)
  ·rw [A9 h]
   exact⟨fun _=>h.elim id (fun h=>by omega),fun _=>rfl⟩
  ·rw [A6 h]
   exact⟨fun h=>A0,fun h3=>absurd (.inl h3) h⟩
 have h3:=o.move hc hc' he hne;rcases aN (nx:=nx) (AG:=AG) (hd:=hd) (B:=B) (i:=i) (c:=c') (p:=0) with e|e<;>rcases aN (nx:=nx) (AG:=AG) (hd:=hd) (B:=B) (i:=i) (c:=c) (p:=p) with e'|e'
 ·rw [e,e']
 ·have:=h2.2 (h3.1 (h1.1 e'))
  omega
 ·have:=h1.2 (h3.2 (h2.1 e))
  omega
 ·rw [e,e']
theorem JO.uK (o:JO nx AG JG hd B) (hl:JG c) (hp:c=B→i<p):Go.Proofs.YtlmgkipmfgijiaaGreatDoor.FD nx AG hd B i c p=1:=(qE hp).2 (o.adE hl)
def Cn (nx:Nat→List Nat) (AG:Nat→Prop) (hd B i S j:Nat) (n:Int) (c p:Nat) (t R:Int):Prop:=
 ∃u:Int,R=u+t+FD nx AG hd S j c p∧(1≤t+FD nx AG hd B i c p→0≤u+FD nx AG hd S j B i∧u+FD nx AG hd S j B i+t+FD nx AG hd B i c p - 1<n)
theorem Cn.enter {n R:Int}:Cn nx AG hd B i S j n hd 0 0 R:=⟨R,by rw [dG];omega,fun h=>by rw [dG] at h;omega⟩
theorem Cn.next {n t R:Int} (h:Cn nx AG hd B i S j n c p t R) (h1:¬(c=B∧i=p)) (h2:¬(c=S∧j=p)):Cn nx AG hd B i S j n c (p+1) t R:=by
 obtain⟨u,h3,h4⟩:=h;exact⟨u,by rw [Xj h2];exact h3,by rw [Xj h1];exact h4⟩
theorem Cn.step {n t R:Int} (h:Cn nx AG hd B i S j n S j t R) (h1:¬(S=B∧i=j)):Cn nx AG hd B i S j n S (j+1) t (R+1):=by
 obtain⟨u,h3,h4⟩:=h;rw [X0.1] at h3;exact⟨u,by rw [X0.2];omega,by rw [Xj h1];exact h4⟩
theorem Cn.check {n t R:Int} (ht:0≤t) (h:Cn nx AG hd B i S j n B i t R) (h1:¬(B=S∧j=i)) (h0:0≤R) (hn:R<n):Cn nx AG hd B i S j n B (i+1) t R:=by
 obtain⟨u,h3,h4⟩:=h;rw [X0.1] at h4;refine⟨u,by rw [Xj h1];exact h3,fun _=>?_⟩;rw [X0.2];refine⟨?_,by omega⟩;by_cases h5:1≤t
 ·exact (h4 A0).1
 ·omega
theorem Cn.move {n t R:Int} (o:JO nx AG JG hd B) (q:JO nx AG JG hd S) (h:Cn nx AG hd B i S j n c p t R) (hc:AG c) (hc':AG c') (he:c'∈nx c) (hne:c'≠hd) (hp:c=B→i<p) (hp':c=S→j<p):Cn nx AG hd B i S j n c' 0 t R:=by
 obtain⟨u,h3,h4⟩:=h;exact⟨u,by rw [q.FD hc hc' he hne hp'];exact h3,by rw [o.FD hc hc' he hne hp];exact h4⟩
theorem Cn.back {n t R:Int} (ht:0≤t) (o:JO nx AG JG hd B) (q:JO nx AG JG hd S) (h:Cn nx AG hd B i S j n c p t R) (hl:JG c) (hp:c=B→i<p) (hp':c=S→j<p):Cn nx AG hd B i S j n hd 0 (t+1) R∧t+1≤n:=by
 obtain⟨u,h3,h4⟩:=h;rw [q.uK hl hp'] at h3;rw [o.uK hl hp] at h4;have h5:=h4 A0;exact⟨⟨u,by rw [dG];omega,fun _=>by rw [dG];omega⟩,by omega⟩
end
end
section
section
variable {nx:Nat→List Nat} {AG:Nat→Prop} {hd B:Nat}
theorem Rb.cons {a b c:Nat} (h1:b∈nx a) (h2:b≠hd) (h3:AG b) (h:Rb nx AG hd b c):Rb nx AG hd a c:=(Rb.self.step h1 h2 h3).trans h
theorem Av.path {l0:List Nat} (h0:Path nx hd l0) (hB:B∉l0) {c:Nat} (h:Av nx AG hd B c):∃l,Path nx c l∧B∉l:=by
 induction h with
 | hd _=>exact⟨l0,h0,hB⟩
 | @step x y _ h1 _ _ h4 ih=>
  obtain⟨l,h5,h6⟩:=ih;exact⟨y :: l,h5.step h1,fun h=>(Da.1 h).elim (fun e=>h4 e.symm) h6⟩
end
theorem qR {G:List AU} {P:List (List Int)} {D:List Int} (hV:Dm G P) (hn:G.length≤5000) (hT:Ec G D) {L:List Lp} (hL:Hy P (C6 G.length (Aa G)) (Cw G.length (Aa G)) (CP G G.length []) D L) {x:Lp} (hx:x∈L) {rel:List Bool} {B:Nat} (hB:MI G rel D x.h.toNat x.bl (x.la.map Int.toNat) B) :
  JO (Aa G) (fun b:Nat=>(b:Int)∈x.bl) (fun l:Nat=>(l:Int)∈x.la) x.h.toNat B∧(∀c c':Nat,(c':Int)∈x.bl→c'≠x.h.toNat→c∈C6 G.length (Aa G)→c'∈Aa G c→(c:Int)∈x.bl)∧∀c:Nat,(c:Int)∈x.bl→x.h.toNat∈Aa G c→(c:Int)∈x.la:=by
 obtain⟨gr,-⟩:=Nb (Gk.2 hV.ne) (GB.of hV hn).lt;have it:JL G.length (Aa G) (C6 G.length (Aa G)) (Cw G.length (Aa G)) D:=hT;obtain⟨h1,h2⟩:=hL.each x hx;have h3:=(hL.mem x.h).1 (C5.2 ⟨x,hx,rfl⟩);generalize C6 G.length (Aa G)=ord at *;generalize Cw G.length (Aa G)=pos at *;obtain⟨hd,E5⟩:∃k,x.h.toNat=k:=⟨_,rfl⟩;rw [E5] at h1 h2 h3 hB ⊢;obtain⟨Cj,X6⟩:∃l,Dz ord pos (CP G G.length []) hd=l:=⟨_,rfl⟩;rw [X6] at h1 h2 h3;have hla:∀l:Nat,(l:Int)∈x.la↔l∈Cj:=fun l=>by
  rw [h1];unfold Bg;rw [C5];constructor
  ·rintro⟨y,hy,e⟩
   obtain rfl:y=l:=by omega
   exact hy
  ·exact fun h=>⟨l,h,rfl⟩
 have hbl:∀c:Nat,(c:Int)∈x.bl↔Ic (Ck P) (·∈ord) hd Cj c:=fun c=>by
  rw [h2.mem,Cu];exact⟨fun h=>h.2,fun h=>⟨by omega,h⟩⟩
 have hlt:∀l∈Cj,l∈ord∧hd∈Aa G l∧Ae D l hd:=fun l hl=>by
  rw [←X6] at hl;unfold Dz at hl;obtain⟨e,he,rfl⟩:=C5.1 hl;obtain⟨h4,h5⟩:=Mj.1 he;have h6:=JB h5;have h7:=hL.ok e h4 h6.1 h6.2.1;obtain⟨a,b,rfl,_,_,h8⟩:=Vn hV h4;simp only [Cu] at h6 h7 ⊢;rw [h6.2.2] at h7 h8;exact⟨h6.1,h8,h7⟩
 obtain⟨l0,hl0⟩:∃l,l∈Cj:=by
  cases h:Cj with
  | nil=>exact absurd h h3.2
  | cons a _=>exact⟨a,by simp⟩
 have Re:hd∈ord:=gr.closed l0 (hlt l0 hl0).1 hd (hlt l0 hl0).2.1;have Ih:∀c,Ic (Ck P) (·∈ord) hd Cj c→c∈ord:=fun c h=>by
  cases h with
  | hd=>exact Re
  | lt _ h=>exact h
  | up _ _ _ h=>exact h
 have hpv:∀b p,b∈ord→(p∈Ck P b↔p<G.length∧b∈Aa G p):=fun b p hb=>(bF hV (gr.lt b hb)).1;have hdom:∀c,Ic (Ck P) (·∈ord) hd Cj c→Dom (Aa G) hd c:=fun c h=>by
  induction h with
  | hd=>exact fun l h=>h.head
  | lt h _=>exact (it.ex _ (hlt _ h).1 hd).1 (hlt _ h).2.2
  | @up b p h1 h2 h3 _ ih=>
   intro l hl;have hb:=(hpv b p (Ih b h1)).1 h3;rcases Da.1 (ih _ (hl.step hb.2)) with e|e
   ·exact absurd e.symm h2
   ·exact e
 have hent:∀c c',Ic (Ck P) (·∈ord) hd Cj c'→c'≠hd→c∈ord→c'∈Aa G c→Ic (Ck P) (·∈ord) hd Cj c:=fun c c' h1 h2 h3 h4=>
  .up h1 h2 ((hpv c' c (Ih c' h1)).2 ⟨gr.lt c h3,h4⟩) h3
 have atT:∀c l,Path (Aa G) c l→Ic (Ck P) (·∈ord) hd Cj c→Rb (Aa G) (fun b:Nat=>(b:Int)∈x.bl) hd hd c:=fun c l h=>by
  induction h with
  | nil=>
   intro hc;have:=hdom 0 hc _ .nil;obtain rfl:hd=0:=by simpa using this
   exact .self
  | @step p b l hp he ih=>
   intro hc;by_cases hb:b=hd
   ·rw [hb]
    exact .self
   ·exact (ih (hent p b hc hb (gr.mem hp).1 he)).step he hb ((hbl b).2 hc)
 have hfr:∀c,Ic (Ck P) (·∈ord) hd Cj c→Rb (Aa G) (fun b:Nat=>(b:Int)∈x.bl) hd hd c:=fun c hc=>by
  obtain⟨l,hl⟩:=gr.path (Ih c hc);exact atT c l hl hc
 have hout:∀c,Ic (Ck P) (·∈ord) hd Cj c→∃l,l∈Cj∧Rb (Aa G) (fun b:Nat=>(b:Int)∈x.bl) hd c l:=fun c h=>by
  induction h with
  | hd=>exact⟨l0,hl0,hfr l0 (.lt hl0 (hlt l0 hl0).1)⟩
  | @lt l h _=>exact⟨l,h,.self⟩
  | @up b p h1 h2 h3 _ ih=>
   obtain⟨l,h5,h6⟩:=ih;exact⟨l,h5,Rb.cons ((hpv b p (Ih b h1)).1 h3).2 h2 ((hbl b).2 h1) h6⟩
 obtain⟨b1,b2,b3,b4⟩:=hB;have hBi:=(hbl B).1 b1;refine⟨⟨fun c hc=>?_,fun c hc=>hfr c ((hbl c).1 hc),fun l hl ha=>?_,fun l hl=>?_,fun hne P8=>b4 ⟨hne,?_⟩⟩,fun c c' h5 h6 h7 h8=>(hbl c).2 (hent c c' ((hbl c').1 h5) h6 h7 h8),fun c hc he=>?_⟩
 ·obtain⟨l,h5,h6⟩:=hout c ((hbl c).1 hc)
  exact⟨l,(hla l).2 h5,h6⟩
 ·have hne:=ha.wJ
  have hl':=(hla l).1 hl;have hD:Dom (Aa G) B l:=(it.ex l (hlt l hl').1 B).1 (b3 l (C5.2 ⟨(l:Int),hl,by simp⟩));have hp:∃p,Path (Aa G) hd p∧B∉p:=by
   refine Sw fun hno=>hne ?_;have h5:Dom (Aa G) B hd:=fun p hp=>Sw fun h=>hno ⟨p,hp,h⟩;exact (((it.ex hd Re B).2 h5).antisymm it.ti ((it.ex B (Ih B hBi) hd).2 (hdom B hBi))).symm
  obtain⟨p,hp1,hp2⟩:=hp;obtain⟨q,hq1,hq2⟩:=ha.path hp1 hp2;exact hq2 (hD q hq1)
 ·exact (hbl l).2 (.lt ((hla l).1 hl) (hlt l ((hla l).1 hl)).1)
 ·have e:sn (Eu G.length x.bl)=fun b:Nat=>(b:Int)∈x.bl:=by
   funext b;refine propext ⟨fun h=>?_,fun h=>?_⟩
   ·unfold sn at h
    by_cases hb:b<G.length
    ·rw [lW _ _ hb] at h
     exact lS.1 h
    ·simp [Eu,List.getD,Dy (show (List.range G.length).length≤b by simp;omega)] at h
   ·unfold sn
    rw [lW _ _ (gr.lt b (Ih b ((hbl b).1 h)))];exact lS.2 h
  rw [e];exact P8
 ·have hci:=(hbl c).1 hc
  have PI:=Ih c hci;refine (hla c).2 ?_;rw [←X6];unfold Dz;refine C5.2 ⟨((c:Int),(hd:Int)),Mj.2 ⟨?_,Ac ?_⟩,by simp⟩
  ·unfold CP
   simp only [Xx,Jz,TB,Gp,C5];have hcl:=gr.lt c PI;obtain⟨z,hz⟩:=hV.ok;have hy:G[c]?=some G[c]:=Ab hcl;obtain⟨e',he'⟩:=hz.each _ (Bj hy);rw [V8 hy] at he;obtain⟨t,ht,e1⟩:=C5.1 he;have:=he'.nx t ht;refine⟨c,hcl,t,by rw [List.getD,hy];exact ht,by rw [show t=(hd:Int) by omega]⟩
  ·simp only [Cu]
   refine⟨PI,?_,trivial⟩;by_cases hch:c=hd
   ·rw [hch]
    exact AH _
   ·exact Nat.le_of_lt ((it.ti.OZ ((it.ex c PI hd).2 (hdom c hci))).2.2.2 hch)
end
section
structure LR (A7:Int) (pl:List Bool) (V:Nat→Nat→Ins→Prop) (s:Cs):Prop where
 none:s.wr=0→s.st=0∧∀b p y,V b p y→cW A7 y=false
 one:s.wr=1→∃S j y,V S j y∧cW A7 y=true∧(∀b p z,V b p z→cW A7 z=true→b=S∧p=j)∧(s.st=1→cS A7 y=true∧pl.getD S false=true)
 fd:s.fd=true→∃B i y,V B i y∧cB A7 y=true∧pl.getD B false=true∧y.AD=s.bd
section
variable {A7:Int} {pl:List Bool} {V:Nat→Nat→Ins→Prop} {s:Cs}
theorem LR.ZZ {V':Nat→Nat→Ins→Prop} (h:LR A7 pl V s) (e:∀b p y,V' b p y↔V b p y):LR A7 pl V' s:=by
 have:V'=V:=by
  funext b p y;exact propext (e b p y)
 rw [this];exact h
theorem LR.step (h:LR A7 pl V s) {b p:Nat} {y:Ins} (hn:∀z,¬V b p z):LR A7 pl (fun b' p' y'=>V b' p' y'∨(b'=b∧p'=p∧y'=y)) (GH A7 (pl.getD b false) s y):=by
 obtain⟨wr,st,bd,fd⟩:=s;have hf:(GH A7 (pl.getD b false) ⟨wr,st,bd,fd⟩ y).fd=true→∃B i z,(V B i z∨(B=b∧i=p∧z=y))∧cB A7 z=true∧pl.getD B false=true∧z.AD=(GH A7 (pl.getD b false) ⟨wr,st,bd,fd⟩ y).bd:=by
  unfold GH;simp only;by_cases ht:(cB A7 y && pl.getD b false && (!fd || decide (y.AD<bd)))=true
  ·intro _
   rw [A9 ht];simp only [Eh] at ht;exact⟨b,p,y,.inr ⟨rfl,rfl,rfl⟩,ht.1.1,ht.1.2,rfl⟩
  ·rw [A6 ht]
   intro h1;have h2:fd=true:=by
    have:(cB A7 y && pl.getD b false && (!fd || decide (y.AD<bd)))=false:=by simpa using ht
    rw [this] at h1;simpa using h1
   obtain⟨B,i,z,h3,h4⟩:=h.fd h2;exact⟨B,i,z,.inl h3,h4⟩
 cases hw:cW A7 y with
 | false=>
  have e1:(GH A7 (pl.getD b false) ⟨wr,st,bd,fd⟩ y).wr=wr:=by unfold GH;simp [hw]
  have e2:(GH A7 (pl.getD b false) ⟨wr,st,bd,fd⟩ y).st=st:=by unfold GH;simp [hw]
  refine⟨fun h1=>?_,fun h1=>?_,hf⟩
  ·rw [e1] at h1
   obtain⟨h2,h3⟩:=h.none h1;refine⟨by rw [e2];exact h2,fun b' p' y' hv=>?_⟩;rcases hv with hv|⟨_,_,rfl⟩
   ·exact h3 _ _ _ hv
   ·exact hw
  ·rw [e1] at h1
   obtain⟨S,j,z,h2,h3,h4,h5⟩:=h.one h1;refine⟨S,j,z,.inl h2,h3,fun b' p' y' hv hy=>?_,by rw [e2];exact h5⟩;rcases hv with hv|⟨_,_,rfl⟩
   ·exact h4 _ _ _ hv hy
   ·rw [hw] at hy
    cases hy
 | true=>
  have e1:(GH A7 (pl.getD b false) ⟨wr,st,bd,fd⟩ y).wr=wr+1:=by unfold GH;simp [hw]
  have e2:(GH A7 (pl.getD b false) ⟨wr,st,bd,fd⟩ y).st=st+(cS A7 y && pl.getD b false).toNat:=by unfold GH;simp [hw]
  refine⟨fun h1=>by omega,fun h1=>?_,hf⟩;have hw0:wr=0:=by omega
  obtain⟨h2,h3⟩:=h.none hw0;have h2:st=0:=h2;refine⟨b,p,y,.inr ⟨rfl,rfl,rfl⟩,hw,fun b' p' y' hv hy=>?_,fun h4=>?_⟩
  ·rcases hv with hv|⟨h5,h6,_⟩
   ·rw [h3 _ _ _ hv] at hy
    cases hy
   ·exact⟨h5,h6⟩
  ·rw [e2,h2] at h4
   cases h6:(cS A7 y && pl.getD b false) with
   | false=>rw [h6] at h4;simp at h4
   | true=>simpa using h6
theorem LR.list (h:LR A7 pl V s) {b:Nat} (l:List Ins) (hn:∀p z,¬V b p z):∀j,j≤l.length→LR A7 pl (fun b' p' y'=>V b' p' y'∨(b'=b∧p'<j∧l[p']?=some y')) (Gu A7 (pl.getD b false) s (l.take j))
 | 0,_=>by
  rw [List.take_zero];exact h.ZZ fun b' p' y'=>⟨fun h=>h.elim id (fun h=>by omega),.inl⟩
 | j+1,hj=>by
  have hy:l[j]?=some (l[j]'A0):=Ab _;rw [rG A7 _ s hy];refine ((LR.list h l hn j A0).step (b:=b) (p:=j) (y:=l[j]'A0) (fun z hz=>?_)).ZZ fun b' p' y'=>?_
  ·rcases hz with hz|⟨_,hz,_⟩
   ·exact hn j z hz
   ·omega
  ·constructor
   ·rintro (h1|⟨h1,h2,h3⟩)
    ·exact .inl (.inl h1)
    ·by_cases hp:p'<j
     ·exact .inl (.inr ⟨h1,hp,h3⟩)
     ·obtain rfl:p'=j:=by omega
      rw [hy] at h3;exact .inr ⟨h1,rfl,(FZ h3).symm⟩
   ·rintro ((h1|⟨h1,h2,h3⟩)|⟨h1,rfl,rfl⟩)
    ·exact .inl h1
    ·exact .inr ⟨h1,by omega,h3⟩
    ·exact .inr ⟨h1,by omega,hy⟩
end
theorem LR.all {A7:Int} {inl pl:List Bool} {C:List (List Ins)}:∀k,LR A7 pl (fun b p y=>b<k∧inl.getD b false=true∧(C.getD b [])[p]?=some y) (Df A7 inl pl C k)
 | 0=>⟨fun _=>⟨rfl,fun b p y h=>by omega⟩,fun h=>by simp [Df] at h,fun h=>by simp [Df] at h⟩
 | k+1=>by
  rw [jy];unfold TG;have ih:=LR.all (A7:=A7) (inl:=inl) (pl:=pl) (C:=C) k;by_cases hb:inl.getD k false=true
  ·rw [A9 hb]
   have h:=ih.list (b:=k) (C.getD k []) (fun p z hz=>by omega) (C.getD k []).length (AH _);rw [Gx] at h;refine h.ZZ fun b p y=>?_;constructor
   ·rintro⟨h1,h2,h3⟩
    by_cases hk:b<k
    ·exact .inl ⟨hk,h2,h3⟩
    ·obtain rfl:b=k:=by omega
     exact .inr ⟨rfl,(Bc.1 h3).1,h3⟩
   ·rintro (⟨h1,h2,h3⟩|⟨rfl,_,h3⟩)
    ·exact⟨by omega,h2,h3⟩
    ·exact⟨by omega,hb,h3⟩
  ·rw [A6 hb]
   refine ih.ZZ fun b p y=>?_;constructor
   ·rintro⟨h1,h2,h3⟩
    refine⟨?_,h2,h3⟩;by_cases hk:b<k
    ·exact hk
    ·obtain rfl:b=k:=by omega
     exact absurd h2 hb
   ·rintro⟨h1,h2,h3⟩
    exact⟨by omega,h2,h3⟩
theorem sites {A7 n:Int} {inl pl:List Bool} {C:List (List Ins)} {k:Nat} (h:Mg A7 (Df A7 inl pl C k)=(n,true)):10≤A7∧A7≤13∧∃(S j B i:Nat) (y:Ins),S<k∧inl.getD S false=true∧pl.getD S false=true∧(C.getD S [])[j]?=some (⟨15,A7,A7,0,1⟩:Ins)∧B<k∧inl.getD B false=true∧pl.getD B false=true∧(C.getD B [])[i]?=some y∧y.op=25∧y.a=A7∧y.AD=n∧
  ∀(b p:Nat) (z:Ins),b<k→inl.getD b false=true→(C.getD b [])[p]?=some z→cW A7 z=true→b=S∧p=j:=by
 unfold Mg at h;by_cases hr:A7<10∨13<A7
 ·rw [A9 hr] at h
  cases h
 rw [A6 hr] at h;by_cases hc:(Df A7 inl pl C k).wr≠1∨(Df A7 inl pl C k).st≠1∨(Df A7 inl pl C k).fd=false
 ·rw [A9 hc] at h
  cases h
 rw [A6 hc] at h;have hw:(Df A7 inl pl C k).wr=1:=Sw fun e=>hc (.inl e);have hs:(Df A7 inl pl C k).st=1:=Sw fun e=>hc (.inr (.inl e));have hf:(Df A7 inl pl C k).fd=true:=by
  cases e:(Df A7 inl pl C k).fd with
  | true=>rfl
  | false=>exact absurd (.inr (.inr e)) hc
 have hb:(Df A7 inl pl C k).bd=n:=congrArg (·.1) h;have ha:=LR.all (A7:=A7) (inl:=inl) (pl:=pl) (C:=C) k;obtain⟨S,j,y,⟨h1,h2,h3⟩,_,h5,h6⟩:=ha.one hw;obtain⟨h7,h8⟩:=h6 hs;obtain⟨B,i,z,⟨g1,g2,g3⟩,g4,g5,g6⟩:=ha.fd hf;have e1:y=⟨15,A7,A7,0,1⟩:=JB h7;subst e1;unfold cB at g4;simp only [Eh,E4] at g4;exact⟨by omega,by omega,S,j,B,i,z,h1,h2,h8,h3,g1,g2,g5,g3,g4.1,g4.2,g6.trans hb,fun b p z h9 h10 h11 h12=>h5 b p z ⟨h9,h10,h11⟩ h12⟩
end
theorem eP {cd:Nat→Int} {G:List AU} {rl:List Bool}:∀ {L:List Lp} {acc out:List Int},Fk cd G rl L acc=.inl out→out=acc++L.map (fun x=>(Ii cd G rl x).1)∧∀x∈L,(Ii cd G rl x).2=true
 | [],acc,out,h=>by
  cases h;simp
 | x :: L,acc,out,h=>by
  simp only [Fk] at h;split at h
  ·rename_i h1
   obtain⟨h2,h3⟩:=eP h;refine⟨by rw [h2];simp,fun y hy=>?_⟩;rcases Da.1 hy with rfl|hy
   ·exact h1
   ·exact h3 y hy
  ·cases h
theorem apt (l:List (Int×Bool)):∀s:Int×Bool,l.foldl FA s=s∨∃x∈l,x.2=true∧l.foldl FA s=x:=by
 induction l with
 | nil=>exact fun s=>.inl rfl
 | cons y l ih=>
  intro s;rw [LP];rcases ih (FA s y) with h|⟨x,h1,h2,h3⟩
  ·rw [h]
   unfold FA;by_cases hc:y.2=true∧(s.2=false∨y.1<s.1)
   ·rw [A9 hc]
    exact .inr ⟨y,by simp,hc.1,by rw [←hc.1]⟩
   ·rw [A6 hc]
    exact .inl rfl
  ·exact .inr ⟨x,by simp [h1],h2,h3⟩
theorem tI {cd:Nat→Int} {G:List AU} {rl:List Bool} {x:Lp} (h:(Ii cd G rl x).2=true):((Ii cd G rl x).1=0∧rl.getD x.h.toNat false=false)∨∃r,Eb cd G x r=((Ii cd G rl x).1,true):=by
 unfold Ii at h ⊢;by_cases hr:rl.getD x.h.toNat false=true
 ·rw [A9 hr] at h ⊢
  rcases apt (Kc.map (Eb cd G x)) (0,false) with h1|⟨y,h1,h2,h3⟩
  ·rw [h1] at h
   cases h
  ·obtain⟨r,_,e⟩:=C5.1 h1
   refine .inr ⟨r,?_⟩;rw [h3,e,← h2]
 ·rw [A6 hr]
  exact .inl ⟨rfl,by simpa using hr⟩
structure X8 (cd:Nat→Int) (G:List AU) (x:Lp) (M r:Int) (B i S j:Nat):Prop where
 rg:10≤r∧r≤13
 h0:0≤x.h
 mx:M≤131071
 hb:JO (Aa G) (fun b:Nat=>(b:Int)∈x.bl) (fun l:Nat=>(l:Int)∈x.la) x.h.toNat B
 hs:JO (Aa G) (fun b:Nat=>(b:Int)∈x.bl) (fun l:Nat=>(l:Int)∈x.la) x.h.toNat S
 ent:∀c c':Nat,(c':Int)∈x.bl→c'≠x.h.toNat→c<G.length→c'∈Aa G c→(c:Int)∈x.bl
 Z9:(Cf cd G S)[j]?=some (⟨15,r,r,0,1⟩:Ins)
 chk:∃y:Ins,(Cf cd G B)[i]?=some y∧y.op=25∧y.a=r∧y.AD=M
 only:∀(b p:Nat) (z:Ins),b<G.length→(b:Int)∈x.bl→(Cf cd G b)[p]?=some z→cW r z=true→b=S∧p=j
theorem nj {cd:Nat→Int} {G:List AU} {P:List (List Int)} {D:List Int} (hV:Dm G P) (hn:G.length≤5000) (hT:Ec G D) {x:Lp} {b:Nat} (hb:b<G.length) (h:(Vg cd G x).getD b false=true):MI G (Fz cd G) D x.h.toNat x.bl (x.la.map Int.toNat) b:=by
 unfold Vg GN at h;rw [hT.eq hV hn] at h;have e:((List.range G.length).map (pB G (Fz cd G) D x.h.toNat x.bl (x.la.map Int.toNat) G.length)).getD b false=pB G (Fz cd G) D x.h.toNat x.bl (x.la.map Int.toNat) G.length b:=by simp [List.getD,hb]
 rw [e] at h;exact (TC.1 h).2
theorem iT (cd:Nat→Int) (G:List AU) {b:Nat} (hb:b<G.length):(KF cd G).getD b []=Cf cd G b:=by simp [KF,List.getD,hb]
theorem pI {cd:Nat→Int} {G:List AU} {P:List (List Int)} {D:List Int} (hI:∀b,b<G.length→∀z∈Cf cd G b,z.AD≤131071) (hV:Dm G P) (hn:G.length≤5000) (hT:Ec G D) (hA:Ty G) {L:List Lp} (hL:Hy P (C6 G.length (Aa G)) (Cw G.length (Aa G)) (CP G G.length []) D L) {x:Lp} (hx:x∈L) {r M:Int} (h:Eb cd G x r=(M,true)):∃B i S j,X8 cd G x M r B i S j:=by
 unfold Eb at h;obtain⟨r0,r1,S,j,B,i,y,s1,s2,s3,s4,c1,c2,c3,c4,c5,c6,c7,ho⟩:=sites h;have hS:=nj hV hn hT s1 s3;have hB:=nj hV hn hT c1 c3;obtain⟨oS,e1,_⟩:=qR hV hn hT hL hx hS;obtain⟨oB,_,_⟩:=qR hV hn hT hL hx hB;rw [iT cd G s1] at s4;rw [iT cd G c1] at c4;refine⟨B,i,S,j,⟨r0,r1⟩,((hL.mem x.h).1 (C5.2 ⟨x,hx,rfl⟩)).1,by rw [←c7];exact hI B c1 y (Bj c4),oB,oS,fun c c' h1 h2 h3 h4=>e1 c c' h1 h2 (hA c h3) h4,s4,⟨y,c4,c5,c6,c7⟩,fun b p z h1 h2 h3 h4=>ho b p z h1 ?_ (by rw [iT cd G h1];exact h3) h4⟩;rw [lW _ _ h1];exact lS.2 h2
theorem atL {G:List AU} {P:List (List Int)} {D:List Int} (hV:Dm G P) {L:List Lp} (hL:Hy P (C6 G.length (Aa G)) (Cw G.length (Aa G)) (CP G G.length []) D L) {x:Lp} (hx:x∈L) {l:Nat} (hl:(l:Int)∈x.la):x.h.toNat∈Aa G l:=by
 obtain⟨h1,_⟩:=hL.each x hx;rw [h1] at hl;unfold Bg Dz at hl;obtain⟨y,hy,e1⟩:=C5.1 hl;obtain rfl:y=l:=by omega
 obtain⟨e,he,e2⟩:=C5.1 hy;obtain⟨h4,h5⟩:=Mj.1 he;have h6:=JB h5;obtain⟨a,b,rfl,_,_,h8⟩:=Vn hV h4;simp only [Cu] at h6 e2;rw [←e2,← h6.2.2];exact h8
theorem ao9 {G:List AU} {P:List (List Int)} {D:List Int} (hV:Dm G P) (hn:G.length≤5000) (hT:Ec G D) {L:List Lp} (hL:Hy P (C6 G.length (Aa G)) (Cw G.length (Aa G)) (CP G G.length []) D L) {x:Lp} (hx:x∈L) (hz:(0:Int)∈x.bl):x.h=0:=by
 obtain⟨gr,-⟩:=Nb (Gk.2 hV.ne) (GB.of hV hn).lt;have it:JL G.length (Aa G) (C6 G.length (Aa G)) (Cw G.length (Aa G)) D:=hT;obtain⟨h1,h2⟩:=hL.each x hx;have h3:=(hL.mem x.h).1 (C5.2 ⟨x,hx,rfl⟩);have hz2:=((h2.mem 0).1 hz).2;generalize C6 G.length (Aa G)=ord at *;generalize Cw G.length (Aa G)=pos at *;have hpv:∀b p,b∈ord→(p∈Ck P b↔p<G.length∧b∈Aa G p):=fun b p hb=>(bF hV (gr.lt b hb)).1;obtain⟨hd,E5⟩:∃k,x.h.toNat=k:=⟨_,rfl⟩;rw [E5] at h1 h2 h3 hz2;obtain⟨Cj,X6⟩:∃l,Dz ord pos (CP G G.length []) hd=l:=⟨_,rfl⟩;rw [X6] at h1 h2 h3 hz2;have hlt:∀l∈Cj,l∈ord∧hd∈Aa G l∧Ae D l hd:=fun l hl=>by
  rw [←X6] at hl;unfold Dz at hl;obtain⟨e,he,rfl⟩:=C5.1 hl;obtain⟨h4,h5⟩:=Mj.1 he;have h6:=JB h5;have h7:=hL.ok e h4 h6.1 h6.2.1;obtain⟨a,b,rfl,_,_,h8⟩:=Vn hV h4;simp only [Cu] at h6 h7 ⊢;rw [h6.2.2] at h7 h8;exact⟨h6.1,h8,h7⟩
 obtain⟨l0,hl0⟩:∃l,l∈Cj:=by
  cases h:Cj with
  | nil=>exact absurd h h3.2
  | cons a _=>exact⟨a,by simp⟩
 have Re:hd∈ord:=gr.closed l0 (hlt l0 hl0).1 hd (hlt l0 hl0).2.1;have Ih:∀c,Ic (Ck P) (·∈ord) hd Cj c→c∈ord:=fun c h=>by
  cases h with
  | hd=>exact Re
  | lt _ h=>exact h
  | up _ _ _ h=>exact h
 have hdom:∀c,Ic (Ck P) (·∈ord) hd Cj c→Dom (Aa G) hd c:=fun c h=>by
  induction h with
  | hd=>exact fun l h=>h.head
  | lt h _=>exact (it.ex _ (hlt _ h).1 hd).1 (hlt _ h).2.2
  | @up b p h1 h2 h3 _ ih=>
   intro l hl;have hb:=(hpv b p (Ih b h1)).1 h3;rcases Da.1 (ih _ (hl.step hb.2)) with e|e
   ·exact absurd e.symm h2
   ·exact e
 have:=hdom 0 hz2 _ .nil;obtain rfl:hd=0:=by simpa using this
 omega
structure LpK (cd:Nat→Int) (G:List AU) (rl:List Bool) (Ls:List Lp) (Ms:List Int):Prop where
 len:Ms.length=Ls.length
 sit:∀(i:Nat) (x:Lp),Ls[i]?=some x→(rl.getD x.h.toNat false=false)∨∃r B k S j,X8 cd G x (Ms.getD i 0) r B k S j
 JG:∀x∈Ls,∀l:Nat,(l:Int)∈x.la→x.h.toNat∈Aa G l
 h0:∀x∈Ls,0≤x.h
 z:∀x∈Ls,(0:Int)∈x.bl→x.h=0
 ln:∀x∈Ls,∀t∈x.la,0≤t
theorem arN {cd:Nat→Int} {G:List AU} {P:List (List Int)} {D:List Int} {rl:List Bool} (hI:∀b,b<G.length→∀z∈Cf cd G b,z.AD≤131071) (hV:Dm G P) (hn:G.length≤5000) (hT:Ec G D) (hA:Ty G) {L:List Lp} (hL:Hy P (C6 G.length (Aa G)) (Cw G.length (Aa G)) (CP G G.length []) D L) {Ms:List Int} (h:Fk cd G rl L []=.inl Ms):LpK cd G rl L Ms:=by
 obtain⟨h1,h2⟩:=eP h;rw [cT] at h1;refine⟨by rw [h1];simp,fun i x hx=>?_,fun x hx l hl=>atL hV hL hx hl,fun x hx=>((hL.mem x.h).1 (C5.2 ⟨x,hx,rfl⟩)).1,fun x hx hz=>ao9 hV hn hT hL hx hz,fun x hx t ht=>by
  rw [(hL.each x hx).1] at ht;unfold Bg at ht;obtain⟨y,_,rfl⟩:=C5.1 ht
  omega⟩
 have hm:=Bj hx;have e:Ms.getD i 0=(Ii cd G rl x).1:=by rw [h1];simp [List.getD,hx]
 rcases tI (h2 x hm) with h3|⟨r,h3⟩
 ·exact .inl h3.2
 ·rw [e]
  exact .inr ⟨r,pI hI hV hn hT hA hL hm h3⟩
theorem atX {v:List Int} {r:RG} (hl:v.length=16) (hr:R16 r) (h:Jk v r) {a x:Int} {z:Int×Int} (a0:0≤a) (a1:a≤15) (hz:Mem x z):Jk (JC v a x) (Cr r a z):=fun k hk=>by
 have h1:=h k hk;rw [ay a0 Zb _ A0];unfold JC;by_cases ha:a=0
 ·rw [A9 ha,A6 (fun e=>e.1 ha)];exact h1
 ·rw [A6 ha]
  by_cases hka:k=a.toNat
  ·rw [A9 ⟨ha,by omega⟩,hka]
   rw [show (v.set a.toNat x).getD a.toNat 0=x by simp [List.getD,hl,show a.toNat<16 by omega]];exact hz
  ·rw [A6 (fun e=>hka A0)]
   rw [show (v.set a.toNat x).getD k 0=v.getD k 0 by simp [List.getD,Gv,ED hka]];exact h1
theorem ars {i:Ins} (h0:0≤i.op) (hv:CW i=true) (h:i.op=16):0≤i.AD∧i.AD≤31:=by
 obtain⟨k,g1,g2,_,_,_,i1,i2⟩:=(QJ (i:=i) h0).1 hv;obtain rfl:k=16:=by omega
 exact⟨Ph AP i1,Ph i2 AP⟩
theorem l9 {l:List Int} (h:∀x∈l,AL x) (k:Nat):AL (l.getD k 0):=by
 by_cases hk:k<l.length
 ·rw [show l.getD k 0=l[k] by simp [List.getD,Ab hk]]
  exact h _ (CQ hk)
 ·rw [show l.getD k 0=0 by simp [List.getD,Dy (kF hk)]]
  unfold AL;omega
theorem ari {I:Ins} {r:RG} (h0:0≤I.op) (hv:CW I=true) (pr:En r=true) (hr:R16 r) {s:St} (hl:s.r.length=16) (hin:Jk s.r r) {lk:Int} {dl sl:List Int} (hd:∀x∈dl,AL x) (hs:∀x∈sl,AL x) {nx:Int} {s':St} {DN sl':List Int}
  (h:EM I lk s dl sl nx s' DN sl'):∃a,Hu I r=some a∧Jk s'.r a:=by
 obtain⟨⟨a0,a1⟩,⟨b0,b1⟩,⟨c0,c1⟩,i0,i1⟩:=ZP h0 hv;have wi:=o7 hv h0;have mem:∀k:Int,0≤k→k≤15→Mem (A7 s k) (rg r k):=fun k k0 k1=>by
  have:=hin k.toNat A0;rw [show ((k.toNat:Nat):Int)=k by omega] at this;exact this
 have wr:∀k:Int,WI (rg r k):=fun k=>hr.at_ k;have ZK:WI (I.AD,I.AD):=⟨wi.1,wi.1⟩;have mim:Mem I.AD (I.AD,I.AD):=⟨EJ _,EJ _⟩;have Md:∀ {x:Int} {z:Int×Int},Mem x z→Jk (JC s.r I.a x) (Cr r I.a z):=fun hz=>atX hl hr hin a0 a1 hz;unfold Hu;rw [A9 ⟨hv,pr⟩];have same:¬(2≤I.op∧I.op≤17)→¬(I.op=18∨I.op=20∨I.op=26)→I.op≠25→s'.r=s.r→∃a,(if 2≤I.op∧I.op≤13 then
   if (I.op=5∨I.op=6)∧rg r I.c=(0,0) then none else some (Cr r I.a (Dr (Lm I.op) (rg r I.b) (rg r I.c)))
  else if I.op=14 then some (Cr r I.a (I.AD,I.AD))
  else if I.op=15 then some (Cr r I.a (Dr 6 (rg r I.b) (I.AD,I.AD)))
  else if I.op=16 then some (Cr r I.a (Dr 14 (rg r I.b) (I.AD,I.AD)))
  else if I.op=17 then some (Cr r I.a (Dr 12 (rg r I.b) (I.AD,I.AD)))
  else if I.op=18∨I.op=20∨I.op=26 then some (Cr r I.a Yq)
  else if I.op=25 then (if emp (Ao (rg r I.a) (0,I.AD - 1))=true then none else some (Cr r I.a (Ao (rg r I.a) (0,I.AD - 1))))
  else some r)=some a∧Jk s'.r a:=fun n1 n2 n3 e=>by
  rw [A6 A0,A6 A0,A6 A0,A6 A0,A6 A0,A6 n2,A6 n3,e];exact⟨_,rfl,hin⟩
 cases h with
 | plain h=>
  rcases h with h|h|⟨h,h1,h2⟩
  ·exact same A0 A0 A0 rfl
  ·exact same A0 A0 A0 rfl
  ·rw [A6 A0,A6 A0,A6 A0,A6 A0,A6 A0,A6 A0,A9 h]
   have hm:=(tj (rg r I.a) (0,I.AD - 1) (A7 s I.a)).2 ⟨mem _ a0 a1,h1,by simp only;omega⟩;have he:emp (Ao (rg r I.a) (0,I.AD - 1))=false:=by
    unfold emp;simpa using Ph hm.1 hm.2
   rw [A6 (by rw [he];simp)];refine⟨_,rfl,?_⟩;have:=Md hm;have e:JC s.r I.a (A7 s I.a)=s.r:=by
    unfold JC A7;split
    ·rfl
    ·apply JR
     intro q;rw [Gv];split
     ·rename_i e;subst e
      rw [A9 A0];simp [List.getD,Ab (show I.a.toNat<s.r.length by omega)]
     ·rfl
   rwa [e] at this
 | set v h=>
  rcases h with⟨h,e⟩|⟨h,e⟩|⟨h,e⟩|⟨h,e⟩|⟨h,_,_,e⟩|⟨h,_,_,e⟩|⟨h,e⟩|⟨h1,h2,h3,e⟩
  ·rw [A6 A0,A9 h]
   exact⟨_,rfl,Md (by rw [e];exact mim)⟩
  ·rw [A6 A0,A6 A0,A9 h]
   refine⟨_,rfl,Md ?_⟩;have:=dL (op:=6) (wr I.b) ZK (mem _ b0 b1) mim rfl;rw [e];exact this
  ·rw [A6 A0,A6 A0,A6 A0,A9 h]
   refine⟨_,rfl,Md ?_⟩;have h5:=dL (op:=14) (wr I.b) ZK (mem _ b0 b1) mim rfl;obtain⟨q0,q1⟩:=ars h0 hv h;have h6:wv 14 (A7 s I.b) I.AD=wrap32 (A7 s I.b*2 ^ I.AD.toNat):=by
    unfold wv;rw [A6 AP,A6 AP,A6 AP,A6 AP,A6 AP,A6 AP,A6 AP,A6 AP,A9 rfl,show I.AD % 32=I.AD by omega]
   rw [h6] at h5;rw [e];exact h5
  ·rw [A6 A0,A6 A0,A6 A0,A6 A0,A9 h]
   refine⟨_,rfl,Md ?_⟩;have:=dL (op:=12) (wr I.b) ZK (mem _ b0 b1) mim rfl;rw [e];exact this
  ·rw [A6 A0,A6 A0,A6 A0,A6 A0,A6 A0,A9 (.inl h)]
   exact⟨_,rfl,Md (by rw [e];exact gI (l9 hd _))⟩
  ·rw [A6 A0,A6 A0,A6 A0,A6 A0,A6 A0,A9 (.inr (.inl h))]
   exact⟨_,rfl,Md (by rw [e];exact gI (l9 hs _))⟩
  ·rw [A6 A0,A6 A0,A6 A0,A6 A0,A6 A0,A9 (.inr (.inr h))]
   exact⟨_,rfl,Md (gI e)⟩
  ·rw [A9 ⟨h1,h2⟩]
   have hop:Ru I.op=Lm I.op:=rfl;rw [hop] at h3 e;have hz:¬((I.op=5∨I.op=6)∧rg r I.c=(0,0)):=by
    rintro⟨q1,q2⟩;have hm:=mem I.c c0 c1;rw [q2] at hm;have hz:A7 s I.c=0:=by unfold Mem at hm;simp only at hm;omega
    rw [hz] at h3;unfold we Lm at h3;rcases q1 with q1|q1<;>rw [q1] at h3<;>simp at h3
   rw [A6 hz];refine⟨_,rfl,Md ?_⟩;rw [e];exact dL (wr I.b) (wr I.c) (mem _ b0 b1) (mem _ c0 c1) h3
 | st h _ _=>exact same A0 A0 A0 rfl
 | PD h _ _=>exact same A0 A0 A0 rfl
 | br h=>
  have:I.op=22∨I.op=23∨I.op=24:=by unfold Cg at h;simpa [or_assoc] using h
  exact same A0 A0 A0 rfl
 | lock h _ _=>exact same A0 A0 A0 rfl
 | unlock h _=>exact same A0 A0 A0 rfl
 | halt h _=>exact same A0 A0 A0 rfl
section
structure S5 (cd:Nat→Int) (D:List Int) (L:List (Int×Int)) (s:AS) (pc:Int) (rs:List Int) (b:Nat):Prop where
 at_:At (AK cd) D L pc b
 rc:s.reach.getD b false=true
 run:∃r,Dc (codeFrom cd (L[b]'at_.lt).1 (pc - (L[b]'at_.lt).1).toNat) (s.AG.getD b [])=some r∧Jk rs r
theorem aaW {B:List AB} {s:AS} {n b:Nat} {t:Int} (h:((b:Int),t)∈Em B s n):((b:Int),t)∈Ee (B.getD b ⟨[],[]⟩) b (B.getD b ⟨[],[]⟩).nx.length (s.AG.getD b []):=by
 unfold Em at h;rw [TB] at h;obtain⟨j,_,h2⟩:=h;split at h2
 ·have e:j=b:=by
   unfold Ee at h2;cases hr:Dc (B.getD j ⟨[],[]⟩).code (s.AG.getD j []) with
   | none=>
    rw [hr] at h2;simp only [C5] at h2;obtain⟨x,_,e⟩:=h2;have:=congrArg Prod.fst e;simp only at this;omega
   | some AX=>
    rw [hr] at h2;simp only [C5] at h2;obtain⟨x,_,e⟩:=h2;have:=congrArg Prod.fst e;simp only at this;omega
  subst e;exact h2
 ·cases h2
theorem akX {l:List Int} (h:l.Nodup) {i j:Nat} (hi:i<l.length) (hj:j<l.length) (e:l.getD i 0=l.getD j 0):i=j:=by
 simp only [List.getD,Ab hi,Ab hj,nw] at e;exact (List.getElem_inj h).1 e
theorem EM.aqp {I:Ins} {lk:Int} {S S':St} {dl sl DN sl':List Int} {nx:Int} (h:EM I lk S dl sl nx S' DN sl') (hb:I.op=22∨I.op=23):S'.r=S.r:=by
 cases h with
 | set v hw=>exfalso;rcases hw with h|h|h|h|h|h|h|h<;>omega
 | br _=>rfl
 | plain _=>rfl
 | st _ _ _=>rfl
 | PD _ _ _=>rfl
 | lock _ _ _=>rfl
 | unlock _ _=>rfl
 | halt _ _=>rfl
theorem EM.len {I:Ins} {lk:Int} {S S':St} {dl sl DN sl':List Int} {nx:Int} (h:EM I lk S dl sl nx S' DN sl') (hl:S.r.length=16):S'.r.length=16:=by
 cases h with
 | set v hw=>
  show (JC S.r _ v).length=16;unfold JC;split
  ·exact hl
  ·rw [LB];exact hl
 | br _=>exact hl
 | plain _=>exact hl
 | st _ _ _=>exact hl
 | PD _ _ _=>exact hl
 | lock _ _ _=>exact hl
 | unlock _ _=>exact hl
 | halt _ _=>exact hl
theorem EM.zM {I:Ins} {lk:Int} {S S':St} {dl sl DN sl':List Int} {nx:Int} (h:EM I lk S dl sl nx S' DN sl') (hb:I.op=22∨I.op=23):nx=if (decide (S.r.getD I.a.toNat 0=0)==decide (I.op=22))=true then S.pc+1+I.AD else S.pc+1:=by
 cases h with
 | br _=>
  unfold taken A7;rw [show decide (I.op=24)=false from Ad A0,Bool.false_or]
 | plain hw=>exfalso;omega
 | set v hw=>exfalso;rcases hw with h|h|h|h|h|h|h|h<;>omega
 | st hw _ _=>exfalso;omega
 | PD hw _ _=>exfalso;omega
 | lock hw _ _=>exfalso;omega
 | unlock hw _=>exfalso;omega
 | halt hw _=>exfalso;omega
section
variable {n:Nat} {cd:Nat→Int} {st en:Int} {D:List Int} {L:List (Int×Int)} {s:AS}
theorem sI {r:RG} {v:List Int} (hr:R16 r) (h:Jk v r) (h0:rg r 0=(0,0)):En r=true:=
 zQ hr (fun k hk=>by have:=h k hk;unfold Mem at this;omega) h0
theorem as9 {x:AU} (ho:M6 n cd (BP (AK cd) L) x) {b:Nat} (hx:(BP (AK cd) L)[b]?=some x) (hrc:s.reach.getD b false=true) (hnd:x.nx.Nodup) {AX:RG} (ha:Dc (codeFrom cd x.lo (x.hi - x.lo).toNat) (s.AG.getD b [])=some AX) (h16:R16 AX) (pr:En AX=true) {v:List Int} (hl:v.length=16) (hin:Jk v AX)
  (h0:0≤(AK cd (x.hi - 1)).op) (hv:CW (AK cd (x.hi - 1))=true) {j:Nat} (hj:j<x.nx.length)
  (ht:(AK cd (x.hi - 1)).op=22∨(AK cd (x.hi - 1)).op=23→x.nx.length=2→(decide (v.getD (AK cd (x.hi - 1)).a.toNat 0=0)==decide ((AK cd (x.hi - 1)).op=22))=decide (j=1)) :
  ((b:Int),x.nx.getD j 0)∉Em (BR cd (BP (AK cd) L)) s (BP (AK cd) L).length:=fun hd=>by
 have h1:=aaW hd;have hab:=pE (cd:=cd) hx;rw [hab] at h1;unfold Ee at h1;simp only [ha] at h1;rw [C5] at h1;obtain⟨q,hq,e⟩:=h1;rw [Mj] at hq;obtain⟨hq1,hq2⟩:=hq;have Xw:=Gp.1 hq1;have e2:x.nx.getD q 0=x.nx.getD j 0:=congrArg Prod.snd e;obtain rfl:=akX hnd Xw hj e2;rw [oM ho] at hq2;unfold ES at hq2;by_cases hb:(AK cd (x.hi - 1)).op=22∨(AK cd (x.hi - 1)).op=23
 ·rw [A6 (fun h=>h hb)] at hq2
  obtain⟨a,Fo,_⟩:=pz h0 hl h16 pr hb hv hin;by_cases h2:x.nx.length=2
  ·rw [A9 h2,← ht hb h2,Fo] at hq2
   cases hq2
  ·rw [A6 h2] at hq2
   cases hf:Cx (AK cd (x.hi - 1)) AX false with
   | none=>
    rw [hf] at hq2;cases Vz:Cx (AK cd (x.hi - 1)) AX true with
    | none=>
     cases ho2:(decide (v.getD (AK cd (x.hi - 1)).a.toNat 0=0)==decide ((AK cd (x.hi - 1)).op=22)) with
     | false=>rw [ho2,hf] at Fo;cases Fo
     | true=>rw [ho2,Vz] at Fo;cases Fo
    | some y=>rw [Vz] at hq2;cases hq2
   | some y=>
    rw [hf] at hq2;cases Vz:Cx (AK cd (x.hi - 1)) AX true with
    | none=>rw [Vz] at hq2;cases hq2
    | some z=>rw [Vz] at hq2;cases hq2
 ·rw [A9 hb] at hq2
  cases hq2
theorem yO (h:De (AK cd) st en D L) {b:Nat} (hb:b<L.length) {nx:Int} {t:Bool} (hn:nx∈CN (AK cd ((L[b]).2 - 1)) ((L[b]).2 - 1))
  (ht:(AK cd ((L[b]).2 - 1)).op=22∨(AK cd ((L[b]).2 - 1)).op=23→nx=if t=true then (L[b]).2 - 1+1+(AK cd ((L[b]).2 - 1)).AD else (L[b]).2 - 1+1) :
  ∃j,j<(EX (AK cd) L b).length∧(EX (AK cd) L b).getD j 0=(idx L nx:Int)∧((AK cd ((L[b]).2 - 1)).op=22∨(AK cd ((L[b]).2 - 1)).op=23→(EX (AK cd) L b).length=2→t=decide (j=1)):=by
 have hla:JV L b=(L[b]).2 - 1:=by simp [JV,List.getD,Ab hb]
 unfold EX;rw [hla];by_cases hbr:(AK cd ((L[b]).2 - 1)).op=22∨(AK cd ((L[b]).2 - 1)).op=23
 ·have hs:CN (AK cd ((L[b]).2 - 1)) ((L[b]).2 - 1)=[(L[b]).2 - 1+1,(L[b]).2 - 1+1+(AK cd ((L[b]).2 - 1)).AD]:=by
   unfold CN;rw [A6 A0,A6 A0,A9 hbr]
  rw [hs];have e:=ht hbr;unfold Gf;simp only [LP,List.foldl_nil];have e0:Fq [] (idx L ((L[b]).2 - 1+1):Int)=[(idx L ((L[b]).2 - 1+1):Int)]:=by simp [Fq]
  rw [e0];cases t with
  | false=>
   rw [A6 AR] at e;refine⟨0,?_,?_,fun _ _=>by simp⟩
   ·unfold Fq;split<;>simp
   ·rw [e];unfold Fq;split<;>simp
  | true=>
   rw [A9 rfl] at e;by_cases he:(idx L ((L[b]).2 - 1+1+(AK cd ((L[b]).2 - 1)).AD):Int)=(idx L ((L[b]).2 - 1+1):Int)
   ·have e1:Fq [(idx L ((L[b]).2 - 1+1):Int)] (idx L ((L[b]).2 - 1+1+(AK cd ((L[b]).2 - 1)).AD):Int)=[(idx L ((L[b]).2 - 1+1):Int)]:=by unfold Fq;rw [A9 (by rw [he];simp)]
    rw [e1];exact⟨0,by simp,by rw [e,he];simp,fun _ h2=>by simp at h2⟩
   ·have e1:Fq [(idx L ((L[b]).2 - 1+1):Int)] (idx L ((L[b]).2 - 1+1+(AK cd ((L[b]).2 - 1)).AD):Int)=[(idx L ((L[b]).2 - 1+1):Int),(idx L ((L[b]).2 - 1+1+(AK cd ((L[b]).2 - 1)).AD):Int)]:=by unfold Fq;rw [A6 (by simpa using he)];rfl
    rw [e1];exact⟨1,by simp,by rw [e];simp,fun _ _=>by simp⟩
 ·have hm:(idx L nx:Int)∈Gf L (CN (AK cd ((L[b]).2 - 1)) ((L[b]).2 - 1)):=(cJ _ _ _).2 ⟨nx,hn,rfl⟩
  obtain⟨j,hj,e⟩:=Rk hm;exact⟨j,hj,by simp [List.getD,Ab hj,e],fun h=>absurd h hbr⟩
theorem S5.head {pc:Int} {rs:List Int} {b:Nat} (h:S5 cd D L s pc rs b) (e:(L[b]'h.at_.lt).1=pc):Jk rs (s.AG.getD b []):=by
 obtain⟨r,h1,h2⟩:=h.run;rw [e,show (pc - pc).toNat=0 by omega] at h1;have h3:some (s.AG.getD b [])=some r:=h1;cases h3;exact h2
theorem S5.step (hL:blk (AK cd) st D (en - st).toNat=L) (hG:De (AK cd) st en D L) (hE:Ends (BR cd (BP (AK cd) L)) (EI (BP (AK cd) L).length) s) (FX:Fx (BP (AK cd) L).length s) (hok:∀x∈BP (AK cd) L,M6 n cd (BP (AK cd) L) x) (hwd:∀i,i<n→0≤cd i∧cd i<4294967296)
  {S S':St} {b:Nat} (h:S5 cd D L s S.pc S.r b) (hl:S.r.length=16) {lk:Int} {dl sl DN sl':List Int} {nx:Int} (hd:∀x∈dl,AL x) (hs:∀x∈sl,AL x) (hh:S.hal=false) (hst:EM (AK cd S.pc) lk S dl sl nx S' DN sl') :
  S'.hal=true∨(S'.hal=false∧∃k,S5 cd D L s nx S'.r k∧((k=b∧nx=S.pc+1∧(L[b]'h.at_.lt).1<nx)∨(∃hk:k<L.length,(L[k]).1=nx∧((b:Int),(k:Int))∉Em (BR cd (BP (AK cd) L)) s (BP (AK cd) L).length))):=by
 obtain⟨hat,hrc,r,hrun,hin⟩:=h;have hb:=hat.lt;have hgx:=Lv (AK cd) L hb;have ho:=hok _ (Bj hgx);have hbl:b<(BP (AK cd) L).length:=by rw [O8];exact hb
 have p1:=hat.lo;have p2:=hat.hi;have l0:0≤(L[b]).1:=ho.lo;obtain⟨q1,q2,q3⟩:=ho.MK S.pc.toNat GD GD;rw [show ((S.pc.toNat:Nat):Int)=S.pc by omega] at q3;have hv:CW (AK cd S.pc)=true:=by
  obtain⟨k,g1,_⟩:=UU (hwd _ q1).1 q2;exact (QJ q3).2 ⟨k,g1⟩
 have h16:=FX.El.get hbl;have hz:=FX.z b hbl;have Mu:=uQ ho (m:=(S.pc - (L[b]).1).toNat) GD;have r16:=TM Mu h16 hrun;have rz:rg r 0=(0,0):=(jS Mu h16 hrun).trans hz;have pr:=sI r16 hin rz;obtain⟨a,hta,XD⟩:=ari q3 hv pr r16 hl hin hd hs hst;have a16:=eD q3 r16 hta;have az:rg a 0=(0,0):=(vE q3 r16 hta).1.trans rz;have hrun':Dc (codeFrom cd (L[b]).1 ((S.pc - (L[b]).1).toNat+1)) (s.AG.getD b [])=some a:=by
  rw [Zr,uV,hrun];simp only [Dc];rw [show (L[b]).1+((S.pc - (L[b]).1).toNat:Int)=S.pc by omega,hta]
 rcases hst.next hh q3 with⟨h1,_⟩|⟨h1,h2,h3,h4⟩
 ·exact .inl h1
 refine .inr ⟨h1,?_⟩;obtain⟨s1,s2⟩:=hat.step hL hG h2 h3 h4;by_cases EB:S.pc=(L[b]).2 - 1
 ·obtain⟨k,hk,e1,e2,e3,xm⟩:=s2 EB
  have e1':(L[k]).1=nx:=by simpa [List.getD,Ab hk] using e1
  have hik:idx L nx=k:=by rw [←e1'];exact jL hG hk
  have DC:=fun hb=>hst.zM hb;rw [EB] at h3 DC;obtain⟨j,hj,ej,htj⟩:=yO hG hb (t:=(decide (S.r.getD (AK cd S.pc).a.toNat 0=0)==decide ((AK cd S.pc).op=22))) h3 (by rw [EB];exact DC);rw [hik] at ej;have hfull:Dc (codeFrom cd (L[b]).1 ((L[b]).2 - (L[b]).1).toNat) (s.AG.getD b [])=some a:=by
   rw [show ((L[b]).2 - (L[b]).1).toNat=(S.pc - (L[b]).1).toNat+1 by omega];exact hrun'
  have pa:=sI a16 XD az;have hl':=hst.len hl;have eO:=fun hb=>hst.aqp hb;have q3':=q3;have hv':=hv;rw [EB] at q3' hv' htj eO;have hnd:((b:Int),(EX (AK cd) L b).getD j 0)∉Em (BR cd (BP (AK cd) L)) s (BP (AK cd) L).length:=
   as9 ho hgx hrc (gS _ _) hfull a16 pa hl' XD q3' hv' hj (fun hbr h2=>by rw [eO hbr];exact htj hbr h2)
  have Pq:=at7 hE FX hok hgx hrc (k:=j) hj hnd;simp only at Pq;rw [hfull] at Pq;obtain⟨AX,ea,_,f1,f2,f3,f4⟩:=Pq;cases ea;rw [ej,Cu] at f1 f2 f3 f4;rw [ej] at hnd;refine⟨k,⟨xm,f1,s.AG.getD k [],?_,?_⟩,.inr ⟨hk,e1',hnd⟩⟩
  ·rw [e1',show (nx - nx).toNat=0 by omega]
   rfl
  ·by_cases hbr:(AK cd ((L[b]).2 - 1)).op=22∨(AK cd ((L[b]).2 - 1)).op=23
   ·obtain⟨a2,Fo,aF⟩:=pz q3' hl' a16 pa hbr hv' XD
    exact aF.sub (f4 hbr _ a2 (fun h2=>by rw [eO hbr];exact htj hbr h2) Fo)
   ·exact XD.sub (f3 hbr)
 ·obtain⟨e1,aS⟩:=s1 A0
  subst e1;refine⟨b,⟨aS,hrc,a,?_,XD⟩,.inl ⟨rfl,rfl,by omega⟩⟩;rw [show (S.pc+1 - (L[b]).1).toNat=(S.pc - (L[b]).1).toNat+1 by omega];exact hrun'
end
end
end Go.Proofs.YtlmgkipmfgijiaaGreatDoor
