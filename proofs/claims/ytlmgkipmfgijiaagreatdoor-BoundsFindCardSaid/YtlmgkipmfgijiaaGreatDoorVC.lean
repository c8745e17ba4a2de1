/-
  What is proved here: parts lFi.
-/
import Derived.Test.YtlmgkipmfgijiaaGreatDoorVa
import Derived.Test.YtlmgkipmfgijiaaGreatDoorVx
import Derived.Test.YtlmgkipmfgijiaaGreatDoorVu
import Derived.Test.YtlmgkipmfgijiaaGreatDoorVB
import Derived.Test.YtlmgkipmfgijiaaGreatDoorVA
import Derived.Test.YtlmgkipmfgijiaaGreatDoorVr
import Derived.Test.YtlmgkipmfgijiaaGreatDoorVb
import Derived.BigRegion
import Derived.BigQuiet
import Derived.Deep.RegionHeld3
namespace Go.Proofs.YtlmgkipmfgijiaaGreatDoor
set_option linter.unusedVariables false
set_option linter.unusedSimpArgs false
set_option maxRecDepth 100000
set_option maxHeartbeats 8000000
open Go.RowKit
theorem abP {w W:World} {q b p o:Nat} {x0 x1 x2 x3 y0 y1 z0 z1 z2 z3:Value} (h:Below w.heap.size w W) (hq:q<w.heap.size) (hb:b<w.heap.size) (hp:p<w.heap.size) (e0:w.cell? ⟨q,0,none⟩=some x0) (e1:w.cell? ⟨q,1,none⟩=some x1) (e2:w.cell? ⟨q,2,none⟩=some x2) (e3:w.cell? ⟨q,3,none⟩=some x3) (f0:w.cell? ⟨b,0,none⟩=some y0) (f1:w.cell? ⟨b,1,none⟩=some y1) (g0:w.cell? ⟨p,o,none⟩=some z0) (g1:w.cell? ⟨p,o+1,none⟩=some z1) (g2:w.cell? ⟨p,o+2,none⟩=some z2) (g3:w.cell? ⟨p,o+3,none⟩=some z3) :
  W.cell? ⟨q,0,none⟩=some x0∧W.cell? ⟨q,1,none⟩=some x1∧W.cell? ⟨q,2,none⟩=some x2∧W.cell? ⟨q,3,none⟩=some x3∧W.cell? ⟨b,0,none⟩=some y0∧W.cell? ⟨b,1,none⟩=some y1∧W.cell? ⟨p,o,none⟩=some z0∧W.cell? ⟨p,o+1,none⟩=some z1∧W.cell? ⟨p,o+2,none⟩=some z2∧W.cell? ⟨p,o+3,none⟩=some z3∧q<W.heap.size∧b<W.heap.size∧p<W.heap.size:=
 ⟨(h.cell (p:=⟨q,0,none⟩) hq).trans e0,(h.cell (p:=⟨q,1,none⟩) hq).trans e1,(h.cell (p:=⟨q,2,none⟩) hq).trans e2,(h.cell (p:=⟨q,3,none⟩) hq).trans e3,(h.cell (p:=⟨b,0,none⟩) hb).trans f0,(h.cell (p:=⟨b,1,none⟩) hb).trans f1,(h.cell (p:=⟨p,o,none⟩) hp).trans g0,(h.cell (p:=⟨p,o+1,none⟩) hp).trans g1,(h.cell (p:=⟨p,o+2,none⟩) hp).trans g2,(h.cell (p:=⟨p,o+3,none⟩) hp).trans g3,Cq hq h.size,Cq hb h.size,Cq hp h.size⟩
theorem acr (AZ:WV) (cv ev:Value) (sh lk:Int) (n:Nat) (cd:Nat→Int) (AU:List CP) (task:Int) (w:World) (T:C8 w) (HW:Mr w cv n cd) (HE:Il w ev AU) :
  Calls Tryz.prog 5 #[.agg #[cv,ev,.int .i64 sh,.int .i64 lk],.int .i64 task] w fun e w'=>e=.returned (.bool true)∧Below w.heap.size w w':=by
 obtain⟨CA,Cp,hcv,hc1,hc2,-⟩:=HW.at_;obtain⟨EA,Cz,hev,-,-,-⟩:=HE.at_;subst hcv hev;obtain⟨m,hm⟩:=AA AU.length;rw [hm] at HE ⊢;obtain⟨V,hV⟩:=AA (w.alloc (.cells #[.slice CA n Cp,.slice EA m Cz,.int .i64 sh,.int .i64 lk] 25));obtain⟨q2,hq2⟩:∃q,w.heap.size=q:=⟨_,rfl⟩;have bV:Below w.heap.size w V:=hV▸(AP _ _).alloc (AH _) _;have kV:V.heap[q2]?=some (.cells #[.slice CA n Cp,.slice EA m Cz,.int .i64 sh,.int .i64 lk] 25 (0,0)):=by rw [←hq2];exact hV▸Ai _ _
 have HAW:=A3 (xS AZ V (T.below bV));have BV:=A3 bV;have KV:=A3 kV;have TV:=A3 (T.below bV);have Pk:=A3 (HW.lF bV);have VZ:=A3 (HE.below bV);have arP:=A3 (Dt hc1 hc2);have LV:=A3 (BR kV);clear bV kV T HW HE hc1 hc2 hm;go_enter Tryz.func5,Tryz.ntmps5;go_wp2_with fail;refine HAW.out.mono ?_;rintro e W1 ⟨rfl,hb1⟩;have B1:=A3 hb1;obtain⟨a0,a1,a2,a3,a4⟩:=Ep ((hb1.block q2 LV.out).trans KV.out);have aG:=A3 (aqs (.slice CA n Cp) (.slice EA m Cz) sh lk n cd AU W1 (Pk.out.lF hb1) (VZ.out.below hb1));have IV:=A3 (BV.out.trans (hb1.mono BV.out.size));clear hb1 hV hq2;go_wp2_with fail;refine aG.out.mono ?_;rintro e W2 ⟨rfl,hb2⟩;obtain⟨c0,c1,c2,c3,c4⟩:W2.cell? ⟨q2,0,none⟩=_∧W2.cell? ⟨q2,1,none⟩=_∧W2.cell? ⟨q2,2,none⟩=_∧W2.cell? ⟨q2,3,none⟩=_∧q2<W2.heap.size:=⟨(hb2.cell (p:=⟨q2,0,none⟩) a4).trans a0,(hb2.cell (p:=⟨q2,1,none⟩) a4).trans a1,(hb2.cell (p:=⟨q2,2,none⟩) a4).trans a2,(hb2.cell (p:=⟨q2,3,none⟩) a4).trans a3,by have:=hb2.size;omega⟩;have B2:=A3 (B1.out.trans (hb2.mono B1.out.size));have WL:=A3 (IV.out.trans (hb2.mono IV.out.size));clear hb2 a0 a1 a2 a3 a4;by_cases hsm:dQ n AU sh;case neg=>
  obtain⟨r,hr⟩:=AA (VE n AU sh);have hr0:r=0:=by rw [←hr];unfold VE;rw [A9 hsm]
  rw [hr];subst hr0;clear hr hsm;go_wp2_with fail;go_ret;exact⟨rfl,WL.out⟩
 obtain⟨r,hr⟩:=AA (VE n AU sh);have hr0:r=1:=by rw [←hr];unfold VE;rw [AE hsm]
 rw [hr];subst hr0;have aro:=hsm.1;have HWW:=A3 ((Pk.out.lF B2.out).words A0);have NI:=A3 (adb AZ (.slice CA n Cp) (.slice EA m Cz) sh lk n cd AU task W2 (TV.out.below B2.out) HWW.out A0 (VZ.out.below B2.out));clear hr hsm;go_wp2_with fail;refine NI.out.mono ?_;rintro e W3 ⟨h,hb3⟩;have B23:=A3 hb3;have Un:=A3 (WL.out.trans (hb3.mono WL.out.size));obtain⟨d0,d1,d2,d3,d4⟩:W3.cell? ⟨q2,0,none⟩=_∧W3.cell? ⟨q2,1,none⟩=_∧W3.cell? ⟨q2,2,none⟩=_∧W3.cell? ⟨q2,3,none⟩=_∧q2<W3.heap.size:=⟨(hb3.cell (p:=⟨q2,0,none⟩) c4).trans c0,(hb3.cell (p:=⟨q2,1,none⟩) c4).trans c1,(hb3.cell (p:=⟨q2,2,none⟩) c4).trans c2,(hb3.cell (p:=⟨q2,3,none⟩) c4).trans c3,by have:=hb3.size;omega⟩;clear hb3 c0 c1 c2 c3 c4 NI;rcases h with⟨-,hy⟩|⟨-,hno⟩;case inr=>
  obtain⟨bv,pv,lv,rv,iv,dv,⟨⟨_,_,_,rfl⟩,⟨_,_,_,rfl⟩,⟨_,_,_,rfl⟩,⟨_,_,_,rfl⟩,⟨_,_,_,rfl⟩,⟨_,_,_,rfl⟩⟩,rfl⟩:=hno;go_wp2_with fail;go_ret;exact⟨rfl,(Un.out.alloc Un.out.size _).alloc (by rw [El];have:=Un.out.size;omega) _⟩
 obtain⟨k,en,G,P,D,L,s,GA,PA,LA,S2,IA,DA,gc,pc,lc,rc,ic,dn,dc,hk,hg,hA,rfl,hi1,hi2⟩:=aal hy;have HG:=A3 hg;have HA:=A3 hA;have HI:=A3 (Dt hi1 hi2);have yY:=Ic.2 hg.val.ne;have bg:=hg.len;have Hs:=hA.loops.len hg.val;obtain⟨lc1,lc2⟩:L.length≤lc∧lc≤2 ^ 63 - 1:=by obtain⟨A,c,e,h1,h2⟩:=hA.Si.slice;cases e;exact⟨h1,h2⟩
 obtain⟨gc1,gc2⟩:G.length≤gc∧gc≤2 ^ 63 - 1:=by obtain⟨A,c,e,h1,h2⟩:=hA.Ou.slice;cases e;exact⟨h1,h2⟩
 obtain⟨rc1,rc2⟩:G.length≤rc∧rc≤2 ^ 63 - 1:=by obtain⟨A,c,e,h1,h2,_⟩:=hA.Mv;rw [hA.l1] at e h1;cases e;exact⟨h1,Oo h2⟩
 obtain⟨gn,hgn⟩:∃m,G.length=m:=⟨_,rfl⟩;obtain⟨ln,M0⟩:∃m,L.length=m:=⟨_,rfl⟩;obtain⟨pn,Gz⟩:∃m,P.length=m:=⟨_,rfl⟩;obtain⟨rb,ro,hRA,hrb,hrc⟩:∃rb ro,S2=some ⟨rb,ro,none⟩∧rb<W3.heap.size∧∀k,k<s.reach.length→W3.cell? ⟨rb,ro+k,none⟩=some (.bool (s.reach.getD k false)):=by
  obtain⟨A,c,e,h1,h2,h4⟩:=hA.Mv;rw [hA.l1] at e;cases e;exact h4 (by rw [hA.l1];exact yY)
 subst hRA;have OJ:=A3 hrc;rw [hgn] at yY bg Hs gc1 rc1;rw [M0] at Hs lc1;rw [hgn,M0,Gz];have Cj:=A3 hgn;have Nu:=A3 M0;have HPN:=A3 Gz;clear hk hg hA hy hgn M0 Gz hi1 hi2 hrc;go_upto_region 6 with fail;obtain⟨Y,hY,k5,k7,bY,sY⟩:=Pm W3 #[.slice GA gn gc,.slice PA pn pc] #[.slice (some ⟨rb,ro,none⟩) gn rc,.slice IA gn ic,.slice DA dn dc] 31 59;rw [hY];obtain⟨q5,hq5⟩:∃q,W3.heap.size=q:=⟨_,rfl⟩;obtain⟨q7,hq7⟩:∃q,q5+1=q:=⟨_,rfl⟩;rw [hq5,hq7] at k7;rw [hq5] at k5;rw [hq5,hq7];have lq5:q5<Y.heap.size:=BR k5;have lq7:q7<Y.heap.size:=BR k7;have g0:Y.cell? ⟨q5,0,none⟩=some (.slice GA gn gc):=by simp [World.cell?,k5]
 have g1:Y.cell? ⟨q5,1,none⟩=some (.slice PA pn pc):=by simp [World.cell?,k5]
 have r0:Y.cell? ⟨q7,0,none⟩=some (.slice (some ⟨rb,ro,none⟩) gn rc):=by simp [World.cell?,k7]
 have r1:Y.cell? ⟨q7,1,none⟩=some (.slice IA gn ic):=by simp [World.cell?,k7]
 have r2:Y.cell? ⟨q7,2,none⟩=some (.slice DA dn dc):=by simp [World.cell?,k7]
 obtain⟨i0,i1,i2,i3,i4⟩:Y.cell? ⟨q2,0,none⟩=_∧Y.cell? ⟨q2,1,none⟩=_∧Y.cell? ⟨q2,2,none⟩=_∧Y.cell? ⟨q2,3,none⟩=_∧q2<Y.heap.size:=⟨(bY.cell (p:=⟨q2,0,none⟩) d4).trans d0,(bY.cell (p:=⟨q2,1,none⟩) d4).trans d1,(bY.cell (p:=⟨q2,2,none⟩) d4).trans d2,(bY.cell (p:=⟨q2,3,none⟩) d4).trans d3,by have:=bY.size;omega⟩;have BY:=A3 (Un.out.trans (bY.mono Un.out.size));have B2Y:=A3 (B23.out.trans (bY.mono B23.out.size));have B3Y:=A3 bY;have amT:=A3 (show rb<Y.heap.size by have:=bY.size;omega);have K5:=A3 k5;have K7:=A3 k7;have HBG:=A3 (show Dc Y (.slice GA gn gc) G from by have h:=HA.out.Ou;rw [Cj.out] at h;exact h.below bY);have HBP:=A3 (show CO Y (.slice PA pn pc) P from by have h:=HA.out.lls;rw [HPN.out] at h;exact h.below bY);have Dy:=A3 (show Ih Y (.slice LA ln lc) L from by have h:=HA.out.Si;rw [Nu.out] at h;exact h.below bY);have HBR:=A3 (show Ho Y (.slice (some ⟨rb,ro,none⟩) gn rc) s.reach from by have h:=HA.out.Mv;rw [Cj.out] at h;exact h.below bY);clear hY k5 k7 bY sY d0 d1 d2 d3 d4;have HWY:=A3 (HWW.out.below (B2Y.out));have gj:=A3 (TV.out.below (B2.out.trans (B2Y.out.mono B2.out.size)));by_cases hgt:20<gn
 ·have dgt:decide ((20:Int)<(gn:Int))=true:=AR A0
  clear hgt;go_wp2_with fail;go_ret;exact⟨rfl,BY.out⟩
 have dgt:decide ((20:Int)<(gn:Int))=false:=Aq A0;have HFD:=A3 (show Calls Tryz.prog 20 #[.agg #[.slice CA n Cp,.slice EA m Cz,.int .i64 sh,.int .i64 lk],.agg #[.slice GA gn gc,.slice PA pn pc],.slice LA ln lc,.agg #[.slice (some ⟨rb,ro,none⟩) gn rc,.slice IA gn ic,.slice DA dn dc]] Y fun e w'=>wF w' (IL cd G s.reach L []) e∧Below Y.heap.size Y w' from by
  have hA:=HA.out.below B3Y.out;rw [Cj.out,Nu.out,HPN.out] at hA
  exact arH (.slice CA n Cp) (.slice EA m Cz) sh lk gj.out HWY.out A0 HG.out hA)
 go_upto_region 9 with (go_at_call 20;refine HFD.out.mono ?_;rintro e W8 ⟨hfv,hb8⟩;obtain⟨yT,ol,oc,at_,er,rfl,hin,hir⟩:=aao hfv);have Ei:=A3 hin;have HIR:=A3 hir;have HB8:=A3 hb8;obtain⟨R,hR⟩:=AA (IL cd G s.reach L []);rw [hR] at Ei HIR;have LZ:=A3 hR;have Z4:=A3 HA.out.loops;have HT:=A3 HA.out.tree;have EB:=A3 (Dt g0 (Dt g1 (Dt r0 (Dt i0 (Dt i1 (Dt i2 i3))))));have I7:=A3 (HA.out.loops.uT KN HG.out.nx2);have HRL:=A3 HA.out.l1;have ak0:=A3 OJ.out;obtain⟨iI,E5,E7,DT,Dw⟩:=D5 NQ;have HII:=A3 (Dt E5 (Dt E7 (Dt DT Dw)));clear hfv hin hir hb8 hR HFD g0 g1 r0 r1 r2 i0 i1 i2 i3 E5 E7 DT Dw;go_upto_region 11 with fail;go_loopw [12,13] (fun a12 a13 wr=>∃(i:Nat) (PB:Option Addr) (wc_:Nat) (acc:List Int),i≤ln∧a12=.slice PB i wc_∧a13=.int .i64 (i:Int)∧R=IL cd G s.reach (L.drop i) acc∧wr.ownsRow W8.heap.size 3 1 (.slice PB i wc_) i (Av acc)∧Below W8.heap.size W8 wr) (fun _ a13 _=>ln - (intOf a13).toNat);case atStart=>exact⟨0,none,0,[],by omega,rfl,rfl,LZ.out.symm,JV _ _ _ _,AP _ _⟩
 case round=>
  obtain⟨i,PB,wc_,acc,hi,rfl,rfl,hRi,how,hb⟩:=hrel;obtain⟨w11,am4⟩:∃w11:World,w11=wr:=⟨_,rfl⟩;subst am4;have aaw:=A3 hb;have HB:=A3 (HB8.out.trans (hb.mono HB8.out.size));have HO:=A3 how;have LN:=A3 hRi;have s11:=HB.out.size;clear hb how hRi;by_cases hli:i<ln
  ·have dl2:decide ((i:Int)<(ln:Int))=true:=AR A0
   have di:(i:Int)<(ln:Int):=by omega
   obtain⟨pb,po,x,A1,m1,cp1,A2,m2,cp2,p,rfl,hpl,hx,c0,c1,c2,c3,DT,Dw⟩:=Ih.at_ Dy.out HB.out (k:=i) (by rw [Nu.out];exact hli);have HX:=A3 (Bf hx);have HXI:=A3 hx;have HI1:=A3 DT;have UG:=A3 Dw;obtain⟨⟨hd,Fg,hhd⟩,aaz,hbl⟩:=HG.out.lp KN Z4.out HX.out;rw [Fg] at c0;have HXH:=A3 Fg;have HLU:=A3 aaz;have hhg:hd<gn:=by rw [←Cj.out];exact hhd
   have HHD:=A3 hhg;have f0:=(HB.out.cell (p:=⟨q2,0,none⟩) i4).trans EB.out.2.2.2.1;have f1:=(HB.out.cell (p:=⟨q2,1,none⟩) i4).trans EB.out.2.2.2.2.1;have f2:=(HB.out.cell (p:=⟨q2,2,none⟩) i4).trans EB.out.2.2.2.2.2.1;have f3:=(HB.out.cell (p:=⟨q2,3,none⟩) i4).trans EB.out.2.2.2.2.2.2;have h0:=(HB.out.cell (p:=⟨q5,0,none⟩) lq5).trans EB.out.1;have h1:=(HB.out.cell (p:=⟨q5,1,none⟩) lq5).trans EB.out.2.1;have r0:=(HB.out.cell (p:=⟨q7,0,none⟩) lq7).trans EB.out.2.2.1;have r1:w11.cell? ⟨rb,ro+hd,none⟩=some (.bool (s.reach.getD hd false)):=((B3Y.out.trans (HB.out.mono B3Y.out.size)).cell (p:=⟨rb,ro+hd,none⟩) hrb).trans (OJ.out hd (by rw [HRL.out,Cj.out];exact hhg));have r8:=A3 (Dt r0 r1);have l3w:q2<w11.heap.size:=by omega
   have l5w:q5<w11.heap.size:=by omega
   have l7w:q7<w11.heap.size:=by omega
   have lrw:rb<w11.heap.size:=by have:=amT.out;omega
   have lpw:pb<w11.heap.size:=by omega
   have FX:=A3 (fun W (h:Below w11.heap.size w11 W)=>abP h l3w l5w lpw f0 f1 f2 f3 h0 h1 c0 c1 c2 c3);have ET:=A3 (show ∀D,Below w11.heap.size w11 D→Calls Tryz.prog 14 #[.agg #[.slice GA gn gc,.slice PA pn pc],.agg #[.int .i64 (hd:Int),.slice A1 m1 cp1,.slice A2 m2 cp2,.int .i64 p]] D fun e w'=>(∃FA TA NA fc tc nc,e=.returned (.tuple #[.agg #[.slice FA gn fc,.slice TA gn tc,.slice NA gn nc],.agg #[.int .i64 (hd:Int),.slice A1 m1 cp1,.slice A2 m2 cp2]])∧Gs D.heap.size Y w' G gn (.slice FA gn fc) (.slice TA gn tc) (.slice NA gn nc))∧Below D.heap.size D w' from fun D hD=>by
    have h:=zz (.slice GA gn gc) (.slice PA pn pc) G P gn x p A1 A2 m1 cp1 m2 cp2 Y D (HB.out.trans (hD.mono s11)) HBG.out HBP.out Cj.out A0;rw [HXH.out] at h
    exact h)
   have dh1:decide ((hd:Int)<0)=false:=Aq A0;have dh2:decide ((gn:Int)≤(hd:Int))=false:=Aq A0;have dh4:decide (gn≤hd)=false:=Aq A0;have dh3:(hd:Int)<(gn:Int):=by omega
   have C0:=A3 (Dt c0 h0);clear hx DT Dw Fg hhd aaz hbl f0 f1 f2 f3 r0 r1;go_upto_region 16 with fail;go_cut [15,16] from 71 to 79 (fun a15 a16 W=>∃bp bq FA TA NA fc tc nc zB,a15=.pointer (some ⟨bp,0,none⟩)∧a16=.pointer (some ⟨bq,0,none⟩)∧W.heap[bp]?=some (.cells #[.slice FA gn fc,.slice TA gn tc,.slice NA gn nc] 40 (0,0))∧W.heap[bq]?=some (.cells #[.int .i64 (hd:Int),.slice A1 m1 cp1,.slice A2 m2 cp2] 42 (0,0))∧Gs zB Y W G gn (.slice FA gn fc) (.slice TA gn tc) (.slice NA gn nc)∧Below w11.heap.size w11 W)
   case first=>
    refine YN (S:=fun w'=>Below w11.heap.size w11 w') A6 (AP _ _).drew (fun hHeld=>?_);have Es:Below w11.heap.size w11 w11.drew:=(AP _ _).drew;obtain⟨D0,Eo⟩:∃D,w11.drew=D:=⟨_,rfl⟩;rw [Eo] at hHeld Es ⊢;clear Eo;refine ht 0 (v:=?_) hHeld ?_ ?_;rotate_left
    ·intro w' hSw
     obtain⟨a0,a1,a2,a3,s0,s1,t0,t1,t2,t3,u3,u7,up⟩:=FX.out w' hSw;clear hSw;go_simp
     (try with_reducible rfl)
    (try simp only [AX,Ad,Ac,Act.put,AW,Ab,AY]);refine ht 1 (v:=?_) hHeld ?_ ?_;rotate_left
    ·intro w' hSw
     clear hSw;go_simp
     (try with_reducible rfl)
    (try simp only [AX,Ad,Ac,Act.put,AW,Ab,AY]);refine ht 2 (v:=?_) hHeld ?_ ?_;rotate_left
    ·intro w' hSw
     clear hSw;go_simp
     (try with_reducible rfl)
    (try simp only [AX,Ad,Ac,Act.put,AW,Ab,AY]);refine ht 3 (v:=?_) hHeld ?_ ?_;rotate_left
    ·intro w' hSw
     obtain⟨a0,a1,a2,a3,s0,s1,t0,t1,t2,t3,u3,u7,up⟩:=FX.out w' hSw;clear hSw;go_simp
     (try with_reducible rfl)
    (try simp only [AX,Ad,Ac,Act.put,AW,Ab,AY]);refine ht 4 (v:=?_) hHeld ?_ ?_;rotate_left
    ·intro w' hSw
     obtain⟨a0,a1,a2,a3,s0,s1,t0,t1,t2,t3,u3,u7,up⟩:=FX.out w' hSw;clear hSw;go_simp
     (try with_reducible rfl)
    (try simp only [AX,Ad,Ac,Act.put,AW,Ab,AY]);refine GZ (rs:=[5,9,10]) Ku AO (Eg (o:=_) rfl (fun K hK=>?_) (Eg (o:=_) rfl (fun K hK=>?_) (Eg (o:=_) rfl (fun K hK=>?_) GV)));all_goals first
     | (go_simp;go_at_call 14;refine (ET.out _ Es).mono ?_;rintro e DC ⟨⟨FA,TA,NA,fc,tc,nc,rfl,Fz⟩,bA⟩;have C9:=A3 Fz;have hS1:=Es.trans (bA.mono Es.size);(try have mP:=A3 (Fz.sep (.inl (BR kP.out))));(try have mQ:=A3 (Fz.sep (.inl (BR kQ.out))));clear Fz)
     | (go_simp;obtain⟨zp,DP,e1,e2,kA,wP,hS1,bA⟩:=VV Es zP;unfold zP at e2;rw [e2,e1];have kP:=A3 kA;have wP:=A3 wP;(try have mP:=A3 (C9.out.sep (z:=zp) (.inr A0)));(try have C9:=A3 (C9.out.below bA));clear kA e1 e2)
     | (go_simp;obtain⟨zq,DQ,e1,e2,kA,wQ,hS1,bA⟩:=VV Es zQ;unfold zQ at e2;rw [e2,e1];have kQ:=A3 kA;have wQ:=A3 wQ;(try have mQ:=A3 (C9.out.sep (z:=zq) (.inr A0)));(try have C9:=A3 (C9.out.below bA));clear kA e1 e2)
    all_goals
     (try have kP:=A3 (VX bA kP.out));(try have kQ:=A3 (VX bA kQ.out));clear bA;refine hK.out _ _ hS1 (fun hHeld=>?_);clear hK K Es;have Es:=hS1;clear hS1;(try simp only [AX,Ad,Ac,Act.put,AW,Ab,AY]);(try (refine ht 6 (v:=?_) (hr:=by decide +kernel) hHeld ?_ ?_;rotate_left;(focus (intro w' hSw;clear hSw;go_simp;(try with_reducible rfl)));(try simp only [AX,Ad,Ac,Act.put,AW,Ab,AY]);refine ht 7 (v:=?_) (hr:=by decide +kernel) hHeld ?_ ?_;rotate_left;(focus (intro w' hSw;clear hSw;go_simp;(try with_reducible rfl)));(try simp only [AX,Ad,Ac,Act.put,AW,Ab,AY]);refine ht 8 (v:=?_) (hr:=by decide +kernel) hHeld ?_ ?_;rotate_left;(focus (intro w' hSw;clear hSw;go_simp;(try with_reducible rfl)));(try simp only [AX,Ad,Ac,Act.put,AW,Ab,AY])))
    all_goals first
     | (refine GZ (rs:=[5,9]) Ku AO (Eg (o:=_) rfl (fun K hK=>?_) (Eg (o:=_) rfl (fun K hK=>?_) GV)))
     | (refine GZ (rs:=[5,10]) Ku AO (Eg (o:=_) rfl (fun K hK=>?_) (Eg (o:=_) rfl (fun K hK=>?_) GV)))
     | (refine GZ (rs:=[9,10]) Ku AO (Eg (o:=_) rfl (fun K hK=>?_) (Eg (o:=_) rfl (fun K hK=>?_) GV)))
    all_goals first
     | (go_simp;go_at_call 14;refine (ET.out _ Es).mono ?_;rintro e DC ⟨⟨FA,TA,NA,fc,tc,nc,rfl,Fz⟩,bA⟩;have C9:=A3 Fz;have hS1:=Es.trans (bA.mono Es.size);(try have mP:=A3 (Fz.sep (.inl (BR kP.out))));(try have mQ:=A3 (Fz.sep (.inl (BR kQ.out))));clear Fz)
     | (go_simp;obtain⟨zp,DP,e1,e2,kA,wP,hS1,bA⟩:=VV Es zP;unfold zP at e2;rw [e2,e1];have kP:=A3 kA;have wP:=A3 wP;(try have mP:=A3 (C9.out.sep (z:=zp) (.inr A0)));(try have C9:=A3 (C9.out.below bA));clear kA e1 e2)
     | (go_simp;obtain⟨zq,DQ,e1,e2,kA,wQ,hS1,bA⟩:=VV Es zQ;unfold zQ at e2;rw [e2,e1];have kQ:=A3 kA;have wQ:=A3 wQ;(try have mQ:=A3 (C9.out.sep (z:=zq) (.inr A0)));(try have C9:=A3 (C9.out.below bA));clear kA e1 e2)
    all_goals
     (try have kP:=A3 (VX bA kP.out));(try have kQ:=A3 (VX bA kQ.out));clear bA;refine hK.out _ _ hS1 (fun hHeld=>?_);clear hK K Es;have Es:=hS1;clear hS1;(try simp only [AX,Ad,Ac,Act.put,AW,Ab,AY]);(try (refine ht 6 (v:=?_) (hr:=by decide +kernel) hHeld ?_ ?_;rotate_left;(focus (intro w' hSw;clear hSw;go_simp;(try with_reducible rfl)));(try simp only [AX,Ad,Ac,Act.put,AW,Ab,AY]);refine ht 7 (v:=?_) (hr:=by decide +kernel) hHeld ?_ ?_;rotate_left;(focus (intro w' hSw;clear hSw;go_simp;(try with_reducible rfl)));(try simp only [AX,Ad,Ac,Act.put,AW,Ab,AY]);refine ht 8 (v:=?_) (hr:=by decide +kernel) hHeld ?_ ?_;rotate_left;(focus (intro w' hSw;clear hSw;go_simp;(try with_reducible rfl)));(try simp only [AX,Ad,Ac,Act.put,AW,Ab,AY])))
    all_goals first
     | (refine GZ (rs:=[5]) Ku AO (Eg (o:=_) rfl (fun K hK=>?_) GV))
     | (refine GZ (rs:=[9]) Ku AO (Eg (o:=_) rfl (fun K hK=>?_) GV))
     | (refine GZ (rs:=[10]) Ku AO (Eg (o:=_) rfl (fun K hK=>?_) GV))
    all_goals first
     | (go_simp;go_at_call 14;refine (ET.out _ Es).mono ?_;rintro e DC ⟨⟨FA,TA,NA,fc,tc,nc,rfl,Fz⟩,bA⟩;have C9:=A3 Fz;have hS1:=Es.trans (bA.mono Es.size);(try have mP:=A3 (Fz.sep (.inl (BR kP.out))));(try have mQ:=A3 (Fz.sep (.inl (BR kQ.out))));clear Fz)
     | (go_simp;obtain⟨zp,DP,e1,e2,kA,wP,hS1,bA⟩:=VV Es zP;unfold zP at e2;rw [e2,e1];have kP:=A3 kA;have wP:=A3 wP;(try have mP:=A3 (C9.out.sep (z:=zp) (.inr A0)));(try have C9:=A3 (C9.out.below bA));clear kA e1 e2)
     | (go_simp;obtain⟨zq,DQ,e1,e2,kA,wQ,hS1,bA⟩:=VV Es zQ;unfold zQ at e2;rw [e2,e1];have kQ:=A3 kA;have wQ:=A3 wQ;(try have mQ:=A3 (C9.out.sep (z:=zq) (.inr A0)));(try have C9:=A3 (C9.out.below bA));clear kA e1 e2)
    all_goals
     (try have kP:=A3 (VX bA kP.out));(try have kQ:=A3 (VX bA kQ.out));clear bA;refine hK.out _ _ hS1 (fun hHeld=>?_);clear hK K Es;have Es:=hS1;clear hS1;(try simp only [AX,Ad,Ac,Act.put,AW,Ab,AY]);(try (refine ht 6 (v:=?_) (hr:=by decide +kernel) hHeld ?_ ?_;rotate_left;(focus (intro w' hSw;clear hSw;go_simp;(try with_reducible rfl)));(try simp only [AX,Ad,Ac,Act.put,AW,Ab,AY]);refine ht 7 (v:=?_) (hr:=by decide +kernel) hHeld ?_ ?_;rotate_left;(focus (intro w' hSw;clear hSw;go_simp;(try with_reducible rfl)));(try simp only [AX,Ad,Ac,Act.put,AW,Ab,AY]);refine ht 8 (v:=?_) (hr:=by decide +kernel) hHeld ?_ ?_;rotate_left;(focus (intro w' hSw;clear hSw;go_simp;(try with_reducible rfl)));(try simp only [AX,Ad,Ac,Act.put,AW,Ab,AY])))
    all_goals
     obtain⟨E1,E2,e1,e2,⟨c1,c2,c3,c4,c5,c6,c7⟩,TT,⟨d1,d2,d3,d4,d5,d6,d7⟩,Qk,KP2,KQ,HPE⟩:=anL Es kP.out kQ.out wP.out wQ.out C9.out mP.out mQ.out (.int .i64 (hd:Int)) (.slice A1 m1 cp1) (.slice A2 m2 cp2);refine GZ (rs:=[11]) A6 AO ?_;refine Eg (o:=_) rfl (fun K hK=>?_) GV;go_simp
     (try rw [e1]);refine hK.out _ _ TT (fun hHeld=>?_);clear hK K;(try simp only [AX,Ad,Ac,Act.put,AW,Ab,AY]);refine GZ (rs:=[12]) A6 AO ?_;refine Eg (o:=_) rfl (fun K hK=>?_) GV;go_simp
     (try rw [e2]);refine hK.out _ _ Qk (fun hHeld=>?_);clear hK K;(try simp only [AX,Ad,Ac,Act.put,AW,Ab,AY]);refine VJ A6 ?_ _;go_wp2_with fail;go_meet;exact⟨_,_,FA,TA,NA,fc,tc,nc,_,rfl,rfl,KP2,KQ,HPE,Qk⟩
   obtain⟨bp,bq,FA,TA,NA,fc,tc,nc,zB,rfl,rfl,kp,kq,Fz,QM⟩:=hcut;obtain⟨MI,abv⟩:∃E:World,E=wc:=⟨_,rfl⟩;subst abv;have Pu:=A3 (HB.out.trans (QM.mono s11));have Fl:=A3 QM;have KP:=A3 kp;have KQ:=A3 kq;obtain⟨iF,iT,iN⟩:=Fz.out Cj.out A0 Pu.out;have IF:=A3 iF;have IT:=A3 iT;have IN:=A3 iN;obtain⟨f,hf⟩:=AA (Dr cd G x);have HF:=A3 hf;have HBE:=A3 (show EJ n cd G P x=Dr cd G x from by
    funext r;unfold EJ
    rw [AE ⟨HG.out.val,HG.out.Na,HG.out.ref KN Z4.out x HX.out⟩])
   have PW:=A3 (show ∀W,Below MI.heap.size MI W→∀r:Int,Calls Tryz.prog 16 #[.slice CA n Cp,.agg #[.slice FA gn fc,.slice TA gn tc,.slice NA gn nc],.agg #[.int .i64 (hd:Int),.slice A1 m1 cp1,.slice A2 m2 cp2],.int .i64 r] W fun e w'=>(∃y:Int,((f r).2=true→y=(f r).1∧0<y)∧e=.returned (.tuple #[.int .i64 y,.bool (f r).2]))∧Below W.heap.size W w' from fun W hW r=>by
    have J2:=Pu.out.trans (hW.mono Pu.out.size);have h:=am0 (.slice CA n Cp) FA TA NA A1 A2 gn fc tc nc m1 cp1 m2 cp2 n cd G hd x.bl x.la r _ _ D W (HWY.out.below J2) Cj.out A0 (IF.out.below hW) (IT.out.below hW) (IN.out.below hW) (by rw [←Cj.out];exact HG.out.nl KN) (fun y hy=>by have:=HG.out.Zj y hy;have:=HG.out.range;omega) (HI1.out.below J2) (UG.out.below J2) HHD.out (by rw [←Cj.out];exact HG.out.gr KN) (by rw [←Cj.out];exact HG.out.it HT.out) HLU.out;have ha:=HG.out.agr HWY.out.wd KN HT.out Z4.out HX.out r;rw [HXH.out,Cj.out,Dk,HBE.out,HF.out] at ha
    exact h.mono fun e w' ⟨he,hb⟩=>⟨⟨_,fun h1=>⟨ha.2.1 h1,aam (ha.1.trans h1)⟩,by rw [he,ha.1]⟩,hb⟩)
   clear hf kp kq Fz iF iT iN QM c0 c1 c2 c3;go_upto_region 19 with fail;go_loopw [17,18] (fun a17 a18 wr=>∃(q:Nat) (M:Int),10≤q∧q≤14∧aaf (aai f q) M∧a17=.int .i64 M∧a18=.int .i64 (q:Int)∧Below MI.heap.size MI wr) (fun _ a18 _=>14 - (intOf a18).toNat);case atStart=>exact⟨10,0,by omega,by omega,⟨fun h=>UD,fun _=>rfl⟩,rfl,rfl,AP _ _⟩
   case round=>
    obtain⟨q,M,hq1,hq2,hls,rfl,rfl,xH⟩:=hrel;obtain⟨w20,xW⟩:∃E:World,E=wr:=⟨_,rfl⟩;subst xW;have Tk:=A3 xH;have Vi:=A3 hls;have aah:=A3 (Fl.out.trans (Tk.out.mono Fl.out.size));clear xH hls;by_cases hk:q≤13
    ·have dk:decide ((q:Int)≤13)=true:=AR A0
     obtain⟨a0,a1,a2,a3,a4,a5,a6,a7,a8,a9,UE,TS,Ts⟩:=FX.out w20 aah.out;obtain⟨aa,ab,ac,-,-,-⟩:=Gb ((Tk.out.block bp (BR KP.out)).trans KP.out);obtain⟨ad,ae,af,-,-,-⟩:=Gb ((Tk.out.block bq (BR KQ.out)).trans KQ.out);have Mp:=A3 (aaj f hq1 hk);have HRQ:=A3 (PW.out w20 Tk.out (q:Int));obtain⟨R2,hR2⟩:=AA (f (q:Int));rw [hR2] at HRQ Mp;obtain⟨v2,k2⟩:=R2;clear hR2;go_upto_region 22 with (go_at_call 16;refine HRQ.out.mono ?_;rintro e W21 ⟨⟨y,hy,rfl⟩,uD⟩);have vY:=A3 (Tk.out.trans (uD.mono Tk.out.size));have HY2:=A3 hy;clear a0 a1 a2 a3 a4 a5 a6 a7 a8 a9 UE TS Ts aa ab ac ad ae af;clear uD hy;have TAIL:=A3 (show ∀M',aaf (Ij (aai f q) (v2,k2)) M'→aaf (aai f (q+1)) M' from fun M' h=>by rw [Mp.out];exact h);cases k2 with
     | false=>
      have HE:=A3 (TAIL.out M (Vi.out.no rfl));go_wp2_with fail;go_roundw;case rel=>exact⟨q+1,_,by omega,by omega,HE.out,rfl,by go_num,vY.out⟩
      case measure=>exact Aa
     | true=>
      obtain⟨hyv,hyp⟩:=HY2.out rfl;by_cases hM:M=0
      ·have e1:(M==0)=true:=by simpa using hM
       have HE:=A3 (TAIL.out y (by have h:=Vi.out.take (x:=(v2,true)) rfl (by show 0<v2;omega) (.inl hM);rw [show y=v2 from hyv];exact h));clear hM hyv hyp;go_wp2_with fail;go_roundw;case rel=>exact⟨q+1,_,by omega,by omega,HE.out,rfl,by go_num,vY.out⟩
       case measure=>exact Aa
      ·have e1:(M==0)=false:=by simpa using hM
       by_cases hl:y<M
       ·have e2:decide (y<M)=true:=AR hl
        have HE:=A3 (TAIL.out y (by have h:=Vi.out.take (x:=(v2,true)) rfl (by show 0<v2;omega) (.inr (by show v2<M;omega));rw [show y=v2 from hyv];exact h));clear hM hyv hyp hl;go_wp2_with fail;go_roundw;case rel=>exact⟨q+1,_,by omega,by omega,HE.out,rfl,by go_num,vY.out⟩
        case measure=>exact Aa
       ·have e2:decide (y<M)=false:=Aq hl
        have HE:=A3 (TAIL.out M (Vi.out.keep hM (by show ¬v2<M;omega)));clear hM hyv hyp hl;go_wp2_with fail;go_roundw;case rel=>exact⟨q+1,_,by omega,by omega,HE.out,rfl,by go_num,vY.out⟩
        case measure=>exact Aa
    ·obtain rfl:q=14:=by omega
     have dk:decide (((14:Nat):Int)≤13)=false:=by decide
     have zN:=A3 (Pu.out.trans (Tk.out.mono Pu.out.size));have aas:=A3 (show w20.ownsRow W8.heap.size 3 1 (.slice PB i wc_) i (Av acc) from CH HO.out aah.out);have HST:=A3 ((LN.out).trans (aak HXI.out acc));have aag:=A3 (aaw.out.trans (aah.out.mono aaw.out.size));have q0:=(aah.out.cell (p:=⟨q7,0,none⟩) l7w).trans r8.out.1;have q1:=(aah.out.cell (p:=⟨rb,ro+hd,none⟩) lrw).trans r8.out.2;have l7q:q7<w20.heap.size:=Cq l7w aah.out.size;have lrq:rb<w20.heap.size:=Cq lrw aah.out.size;obtain⟨bb,J8⟩:∃b,s.reach.getD hd false=b:=⟨_,rfl⟩;have Bi:=A3 (show s.reach.getD x.h.toNat false=bb by rw [HXH.out,Dk];exact J8);rw [J8] at q1;clear J8 hk hq1 hq2;cases bb with
     | true=>
      have HLY:=A3 (aaq HF.out Vi.out Bi.out);by_cases hM:M=0
      ·have e1:(M==0)=true:=by simpa using hM
       obtain⟨rfl,rfl,rfl⟩:=HIR.out x.h (by rw [HST.out,A9 (by rw [HLY.out.1 hM];simp)]);have e2:(x.h==(hd:Int))=true:=by rw [HXH.out];simp
       clear hM;go_wp2_with fail;go_ret;exact⟨rfl,BY.out.trans (zN.out.mono BY.out.size)⟩
      ·have e1:(M==0)=false:=by simpa using hM
       have Dz:=A3 (show R=IL cd G s.reach (L.drop (i+1)) (acc++[M]) from by rw [HST.out,HLY.out.2 hM,AE rfl]);clear hM;go_upto_region 12 with (at_builtin;refine Kf _ rfl (.tmp 131) (.tmp 133) 38 rfl W8.heap.size 3 iI (.int .i64 0) 1 8 Ey HII.out.1 HII.out.2.1 HII.out.2.2.1 HII.out.2.2.2 rfl AK (.slice PB i wc_) i (Av acc) rfl (aas.out.alloc _) ⟨w20.heap.size,0,none⟩ 1 1 [.int .i64 M] rfl rfl (DV _ _ _) BS Bc A0 (by rw [El];have:=aag.out.size;omega) ?_;intro v' W' hown' hgrow _ Ce;obtain⟨g',cap',rfl⟩:=GI hown');have HO1:=A3 (show W'.ownsRow W8.heap.size 3 1 (.slice (some ⟨g',0,none⟩) (i+1) cap') (i+1) (Av (acc++[M])) by simpa [Av] using hown');have HB9:=A3 ((aag.out.alloc aag.out.size (.cells #[.int .i64 M] 3)).grown hgrow (by rw [El];have:=aag.out.size;omega) (fun q hq=>(aas.out.lt q hq).1));clear hown' hgrow Ce;go_wp2_with fail;go_roundw;case rel=>exact⟨i+1,_,_,_,by omega,rfl,by go_num,Dz.out,HO1.out,HB9.out⟩
       case measure=>exact Aa
     | false=>
      have Dz:=A3 (show R=IL cd G s.reach (L.drop (i+1)) (acc++[0]) from by rw [HST.out,aau Bi.out,AE rfl]);go_upto_region 12 with (at_builtin;refine Kf _ rfl (.tmp 131) (.tmp 133) 38 rfl W8.heap.size 3 iI (.int .i64 0) 1 8 Ey HII.out.1 HII.out.2.1 HII.out.2.2.1 HII.out.2.2.2 rfl AK (.slice PB i wc_) i (Av acc) rfl (aas.out.alloc _) ⟨w20.heap.size,0,none⟩ 1 1 [.int .i64 0] rfl rfl (DV _ _ _) BS Bc A0 (by rw [El];have:=aag.out.size;omega) ?_;intro v' W' hown' hgrow _ Ce;obtain⟨g',cap',rfl⟩:=GI hown');have HO1:=A3 (show W'.ownsRow W8.heap.size 3 1 (.slice (some ⟨g',0,none⟩) (i+1) cap') (i+1) (Av (acc++[0])) by simpa [Av] using hown');have HB9:=A3 ((aag.out.alloc aag.out.size (.cells #[.int .i64 0] 3)).grown hgrow (by rw [El];have:=aag.out.size;omega) (fun q hq=>(aas.out.lt q hq).1));clear hown' hgrow Ce;go_wp2_with fail;go_roundw;case rel=>exact⟨i+1,_,_,_,by omega,rfl,by go_num,Dz.out,HO1.out,HB9.out⟩
      case measure=>exact Aa
  ·obtain rfl:ln=i:=by omega
   have dl2:decide ((ln:Int)<(ln:Int))=false:=by simp
   obtain⟨rfl,rfl,hiO⟩:=Ei.out acc (by rw [LN.out,List.drop_eq_nil_of_le (by rw [Nu.out];exact AH _)];rfl);have hal:acc.length=ln:=by have:=HO.out.1;simpa [Av] using this
   have HIS:=A3 (arR (.slice yT ol oc) (.slice PB ln wc_) acc w11 (hiO.below aaw.out) (MF (l:=acc) (by rw [hal];exact HO.out)));go_wp2_with (go_at_call 21;refine HIS.out.mono ?_;rintro e W31 ⟨rfl,acQ⟩);go_ret;exact⟨rfl,BY.out.trans ((HB.out.trans (acQ.mono s11)).mono BY.out.size)⟩
end Go.Proofs.YtlmgkipmfgijiaaGreatDoor
