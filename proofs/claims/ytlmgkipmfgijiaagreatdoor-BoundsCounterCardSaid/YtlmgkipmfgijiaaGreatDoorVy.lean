/-
  What is proved here: parts lCn.
-/
import Derived.Test.YtlmgkipmfgijiaaGreatDoorVa
import Derived.Test.YtlmgkipmfgijiaaGreatDoorVx
import Derived.Test.YtlmgkipmfgijiaaGreatDoorVu
import Derived.Test.YtlmgkipmfgijiaaGreatDoorVv
import Derived.Test.YtlmgkipmfgijiaaGreatDoorVr
import Derived.Test.YtlmgkipmfgijiaaGreatDoorVb
import Derived.BigRegion
import Derived.BigQuiet
import Derived.Deep.RegionHeld3
namespace Go.Proofs.YtlmgkipmfgijiaaGreatDoor
set_option linter.unusedVariables false
set_option linter.unusedSimpArgs false
set_option maxRecDepth 100000
set_option maxHeartbeats 8000000
open Go.RowKit
theorem zD {w W:World} {q b p o:Nat} {x0 x1 x2 x3 y0 y1 z0 z1 z2 z3:Value} (h:Below w.heap.size w W) (hq:q<w.heap.size) (hb:b<w.heap.size) (hp:p<w.heap.size) (e0:w.cell? ⟨q,0,none⟩=some x0) (e1:w.cell? ⟨q,1,none⟩=some x1) (e2:w.cell? ⟨q,2,none⟩=some x2) (e3:w.cell? ⟨q,3,none⟩=some x3) (f0:w.cell? ⟨b,0,none⟩=some y0) (f1:w.cell? ⟨b,1,none⟩=some y1) (g0:w.cell? ⟨p,o,none⟩=some z0) (g1:w.cell? ⟨p,o+1,none⟩=some z1) (g2:w.cell? ⟨p,o+2,none⟩=some z2) (g3:w.cell? ⟨p,o+3,none⟩=some z3) :
  W.cell? ⟨q,0,none⟩=some x0∧W.cell? ⟨q,1,none⟩=some x1∧W.cell? ⟨q,2,none⟩=some x2∧W.cell? ⟨q,3,none⟩=some x3∧W.cell? ⟨b,0,none⟩=some y0∧W.cell? ⟨b,1,none⟩=some y1∧W.cell? ⟨p,o,none⟩=some z0∧W.cell? ⟨p,o+1,none⟩=some z1∧W.cell? ⟨p,o+2,none⟩=some z2∧W.cell? ⟨p,o+3,none⟩=some z3∧q<W.heap.size∧b<W.heap.size∧p<W.heap.size:=
 ⟨(h.cell (p:=⟨q,0,none⟩) hq).trans e0,(h.cell (p:=⟨q,1,none⟩) hq).trans e1,(h.cell (p:=⟨q,2,none⟩) hq).trans e2,(h.cell (p:=⟨q,3,none⟩) hq).trans e3,(h.cell (p:=⟨b,0,none⟩) hb).trans f0,(h.cell (p:=⟨b,1,none⟩) hb).trans f1,(h.cell (p:=⟨p,o,none⟩) hp).trans g0,(h.cell (p:=⟨p,o+1,none⟩) hp).trans g1,(h.cell (p:=⟨p,o+2,none⟩) hp).trans g2,(h.cell (p:=⟨p,o+3,none⟩) hp).trans g3,Cq hq h.size,Cq hb h.size,Cq hp h.size⟩
theorem zk (AZ:WV) (cv ev:Value) (sh lk:Int) (n:Nat) (cd:Nat→Int) (AU:List CP) (task A8:Int) (w:World) (T:C8 w) (HW:Mr w cv n cd) (HE:Il w ev AU) :
  Calls Tryz.prog 3 #[.agg #[cv,ev,.int .i64 sh,.int .i64 lk],.int .i64 task,.int .i64 A8] w fun e w'=>e=.returned (.bool true)∧Below w.heap.size w w':=by
 obtain⟨CA,Cp,hcv,hc1,hc2,-⟩:=HW.at_;obtain⟨EA,Cz,hev,-,-,-⟩:=HE.at_;subst hcv hev;obtain⟨m,hm⟩:=AA AU.length;rw [hm] at HE ⊢;obtain⟨V,hV⟩:=AA (w.alloc (.cells #[.slice CA n Cp,.slice EA m Cz,.int .i64 sh,.int .i64 lk] 25));obtain⟨q3,hq3⟩:∃q,w.heap.size=q:=⟨_,rfl⟩;have bV:Below w.heap.size w V:=hV▸(AP _ _).alloc (AH _) _;have kV:V.heap[q3]?=some (.cells #[.slice CA n Cp,.slice EA m Cz,.int .i64 sh,.int .i64 lk] 25 (0,0)):=by rw [←hq3];exact hV▸Ai _ _
 have HAW:=A3 (xS AZ V (T.below bV));have BV:=A3 bV;have KV:=A3 kV;have TV:=A3 (T.below bV);have TW:=A3 T;have Pk:=A3 (HW.lF bV);have VZ:=A3 (HE.below bV);have arP:=A3 (Dt hc1 hc2);have LV:=A3 (BR kV);have HQ3:=A3 hq3;clear bV kV T HW HE hc1 hc2 hm;go_enter Tryz.func3,Tryz.ntmps3;go_wp2_with fail;refine HAW.out.mono ?_;rintro e W1 ⟨rfl,hb1⟩;have B1:=A3 hb1;obtain⟨a0,a1,a2,a3,a4⟩:=Ep ((hb1.block q3 LV.out).trans KV.out);have aG:=A3 (aqs (.slice CA n Cp) (.slice EA m Cz) sh lk n cd AU W1 (Pk.out.lF hb1) (VZ.out.below hb1));have IV:=A3 (BV.out.trans (hb1.mono BV.out.size));clear hb1 hV hq3;go_wp2_with fail;refine aG.out.mono ?_;rintro e W2 ⟨rfl,hb2⟩;obtain⟨c0,c1,c2,c3,c4⟩:W2.cell? ⟨q3,0,none⟩=_∧W2.cell? ⟨q3,1,none⟩=_∧W2.cell? ⟨q3,2,none⟩=_∧W2.cell? ⟨q3,3,none⟩=_∧q3<W2.heap.size:=⟨(hb2.cell (p:=⟨q3,0,none⟩) a4).trans a0,(hb2.cell (p:=⟨q3,1,none⟩) a4).trans a1,(hb2.cell (p:=⟨q3,2,none⟩) a4).trans a2,(hb2.cell (p:=⟨q3,3,none⟩) a4).trans a3,by have:=hb2.size;omega⟩;have B2:=A3 (B1.out.trans (hb2.mono B1.out.size));have WL:=A3 (IV.out.trans (hb2.mono IV.out.size));clear hb2 a0 a1 a2 a3 a4;by_cases hsm:dQ n AU sh;case neg=>
  obtain⟨r,hr⟩:=AA (VE n AU sh);have hr0:r=0:=by rw [←hr];unfold VE;rw [A9 hsm]
  rw [hr];subst hr0;clear hr hsm;go_wp2_with fail;go_ret;exact⟨rfl,WL.out⟩
 obtain⟨r,hr⟩:=AA (VE n AU sh);have hr0:r=1:=by rw [←hr];unfold VE;rw [AE hsm]
 rw [hr];subst hr0;have aro:=hsm.1;have HWW:=A3 ((Pk.out.lF B2.out).words A0);have J7:=A3 (oM (.slice CA n Cp) (.slice EA m Cz) sh lk n cd AU task W2 (TV.out.below B2.out) HWW.out (VZ.out.below B2.out));clear hr hsm;go_wp2_with fail;refine J7.out.mono ?_;rintro e W3 ⟨h,hb3⟩;have B23:=A3 hb3;have Un:=A3 (WL.out.trans (hb3.mono WL.out.size));obtain⟨d0,d1,d2,d3,d4⟩:W3.cell? ⟨q3,0,none⟩=_∧W3.cell? ⟨q3,1,none⟩=_∧W3.cell? ⟨q3,2,none⟩=_∧W3.cell? ⟨q3,3,none⟩=_∧q3<W3.heap.size:=⟨(hb3.cell (p:=⟨q3,0,none⟩) c4).trans c0,(hb3.cell (p:=⟨q3,1,none⟩) c4).trans c1,(hb3.cell (p:=⟨q3,2,none⟩) c4).trans c2,(hb3.cell (p:=⟨q3,3,none⟩) c4).trans c3,by have:=hb3.size;omega⟩;clear hb3 c0 c1 c2 c3 c4 J7;rcases h with⟨-,hy⟩|⟨-,hno⟩;case inr=>
  obtain⟨at_,er,her,rfl⟩:=hno;have der:(er != 0)=true:=by simpa using her
  have Nu:=A3 abj;clear her;go_wp2_with (go_at_call 13;refine (Nu.out _).mono ?_;rintro e W4 ⟨rfl,hb4⟩);go_ret;have hB:=Un.out.alloc Un.out.size (.cells #[.slice none 0 0,.slice none 0 0] 31);exact⟨rfl,hB.trans (hb4.mono hB.size)⟩
 obtain⟨k,en,G,P,GA,PA,gc,pc,rfl,hg,rfl,hGb,hPl,-⟩:=hy;have yY:=Ic.2 hg.val.ne;have bg:=hg.len;have hn0:0<n:=by omega
 obtain⟨gn,hgn⟩:∃m,G.length=m:=⟨_,rfl⟩;obtain⟨pn,Gz⟩:∃m,P.length=m:=⟨_,rfl⟩;obtain⟨b7,hb7⟩:∃b,W3.heap.size=b:=⟨_,rfl⟩;obtain⟨X,hX⟩:=AA (W3.alloc (.cells #[.slice GA gn gc,.slice PA pn pc] 31));rw [hgn,Gz];go_upto_region 6 with fail;(try rw [hX]);have bX:Below W3.heap.size W3 X:=hX▸(AP _ _).alloc (AH _) _;have kX:X.heap[b7]?=some (.cells #[.slice GA gn gc,.slice PA pn pc] 31 (0,0)):=by rw [←hb7,← hX];exact Ai _ _
 (try rw [hb7]);have HLF:=A3 (oQ (.slice GA gn gc) (.slice PA pn pc) G P X (by rw [←hgn];exact hGb.below bX) (by rw [←Gz];exact hPl.below bX) hg.val A0);have KX:=A3 kX;have RL:=A3 (show Dc X (.slice GA gn gc) G by rw [←hgn];exact hGb.below bX);have ET:=A3 (show CO X (.slice PA pn pc) P by rw [←Gz];exact hPl.below bX);have HG:=A3 hg;have Cj:=A3 hgn;have arp:gn≤n:=by rw [←hgn];exact bg
 have x0:=(bX.cell (p:=⟨q3,0,none⟩) d4).trans d0;have x1:=(bX.cell (p:=⟨q3,1,none⟩) d4).trans d1;have x2:=(bX.cell (p:=⟨q3,2,none⟩) d4).trans d2;have x3:=(bX.cell (p:=⟨q3,3,none⟩) d4).trans d3;have l3:q3<X.heap.size:=by have:=bX.size;omega
 have l7:b7<X.heap.size:=BR kX;have n37:q3<b7:=by omega
 have g0:X.cell? ⟨b7,0,none⟩=some (.slice GA gn gc):=by simp [World.cell?,kX]
 have g1:X.cell? ⟨b7,1,none⟩=some (.slice PA pn pc):=by simp [World.cell?,kX]
 have B2X:=A3 (B23.out.trans (bX.mono B23.out.size));have Oe:=A3 (Un.out.trans (bX.mono Un.out.size));clear hX bX kX hb7 hGb hPl hg hgn Gz d0 d1 d2 d3 d4 yY;go_wp2_with fail;refine HLF.out.mono ?_;rintro e W4 ⟨⟨D,hT,h⟩,hb4⟩;have BX4:=A3 hb4;have Yr:=A3 (Oe.out.trans (hb4.mono Oe.out.size));rcases h with⟨lv,L,rfl,hLp,Ox⟩|⟨tg,rfl,-⟩;case inr=>
  go_wp2_with fail;go_ret;exact⟨rfl,Yr.out⟩
 obtain⟨LA,lc,hlv,lc1,lc2⟩:=hLp.slice;subst hlv;obtain⟨ln,M0⟩:∃m,L.length=m:=⟨_,rfl⟩;have Ik:=A3 (show L.length≤G.length from Ox.len HG.out.val);have I7:=A3 (Ox.uT KN HG.out.nx2);have HLP:=A3 hLp;have Nu:=A3 M0;rw [M0] at lc1 HLP;rw [M0];have y0:=(hb4.cell (p:=⟨q3,0,none⟩) l3).trans x0;have y1:=(hb4.cell (p:=⟨q3,1,none⟩) l3).trans x1;have y2:=(hb4.cell (p:=⟨q3,2,none⟩) l3).trans x2;have y3:=(hb4.cell (p:=⟨q3,3,none⟩) l3).trans x3;have m3:q3<W4.heap.size:=by have:=hb4.size;omega
 have m7:b7<W4.heap.size:=by have:=hb4.size;omega
 have h0:=(hb4.cell (p:=⟨b7,0,none⟩) l7).trans g0;have h1:=(hb4.cell (p:=⟨b7,1,none⟩) l7).trans g1;have HH:=A3 (Dt h0 h1);have Z4:=A3 Ox;have HT:=A3 hT;clear hb4 hLp Ox hT M0 x0 x1 x2 x3 g0 g1 l3 l7 h0 h1;have TW4:=A3 (TW.out.below Yr.out);have dW:=A3 (HWW.out.below (B2X.out.trans (BX4.out.mono B2X.out.size)));have JZ:=A3 (RL.out.below BX4.out);have Q0:=A3 (ET.out.below BX4.out);by_cases hgt:20<gn
 ·have dgt:decide ((20:Int)<(gn:Int))=true:=AR A0
  clear hgt;have h0:=HH.out.1;go_wp2_with fail;go_ret;exact⟨rfl,Yr.out⟩
 have dgt:decide ((20:Int)<(gn:Int))=false:=Aq A0;have HH0:=HH.out.1;go_upto_region 10 with fail;go_loopw [13] (fun a13 wr=>∃i:Nat,i≤ln∧a13=.int .i64 (i:Int)∧Below W4.heap.size W4 wr) (fun a13 _=>ln - (intOf a13).toNat);case atStart=>exact⟨0,by omega,rfl,AP _ _⟩
 case round=>
  obtain⟨i,hi,rfl,hb⟩:=hrel;obtain⟨w11,am4⟩:∃w11:World,w11=wr:=⟨_,rfl⟩;subst am4;have HB:=A3 hb;have s11:=hb.size;clear hb;by_cases hli:i<ln
  ·have dl2:decide ((i:Int)<(ln:Int))=true:=AR A0
   have di:(i:Int)<(ln:Int):=by omega
   obtain⟨pb,po,x,A1,m1,cp1,A2,m2,cp2,p,rfl,hpl,hx,c0,c1,c2,c3,DT,Dw⟩:=Ih.at_ HLP.out HB.out (k:=i) (by rw [Nu.out];exact hli);have HX:=A3 (Bf hx);have HI1:=A3 DT;have UG:=A3 Dw;have f0:=(HB.out.cell (p:=⟨q3,0,none⟩) m3).trans y0;have f1:=(HB.out.cell (p:=⟨q3,1,none⟩) m3).trans y1;have f2:=(HB.out.cell (p:=⟨q3,2,none⟩) m3).trans y2;have f3:=(HB.out.cell (p:=⟨q3,3,none⟩) m3).trans y3;have h0:=(HB.out.cell (p:=⟨b7,0,none⟩) m7).trans HH.out.1;have h1:=(HB.out.cell (p:=⟨b7,1,none⟩) m7).trans HH.out.2;have l3w:q3<w11.heap.size:=by omega
   have l7w:b7<w11.heap.size:=by omega
   have lpw:pb<w11.heap.size:=by omega
   have FX:=A3 (fun W (h:Below w11.heap.size w11 W)=>zD h l3w l7w lpw f0 f1 f2 f3 h0 h1 c0 c1 c2 c3);obtain⟨hd,Fg,hhd⟩:=(HG.out.lp KN Z4.out HX.out).1;have HXH:=A3 Fg;have HHD:=A3 (show hd<gn by rw [←Cj.out];exact hhd);have ET:=A3 (show ∀D,Below w11.heap.size w11 D→Calls Tryz.prog 14 #[.agg #[.slice GA gn gc,.slice PA pn pc],.agg #[.int .i64 x.h,.slice A1 m1 cp1,.slice A2 m2 cp2,.int .i64 p]] D fun e w'=>(∃FA TA NA fc tc nc,e=.returned (.tuple #[.agg #[.slice FA gn fc,.slice TA gn tc,.slice NA gn nc],.agg #[.int .i64 x.h,.slice A1 m1 cp1,.slice A2 m2 cp2]])∧Gs D.heap.size W4 w' G gn (.slice FA gn fc) (.slice TA gn tc) (.slice NA gn nc))∧Below D.heap.size D w' from fun D hD=>
    zz (.slice GA gn gc) (.slice PA pn pc) G P gn x p A1 A2 m1 cp1 m2 cp2 W4 D (HB.out.trans (hD.mono s11)) JZ.out Q0.out Cj.out A0)
   clear hx DT Dw Fg hhd f0 f1 f2 f3;go_upto_region 12 with fail;go_cut [14,15] from 64 to 72 (fun a14 a15 W=>∃bp bq FA TA NA fc tc nc zB,a14=.pointer (some ⟨bp,0,none⟩)∧a15=.pointer (some ⟨bq,0,none⟩)∧W.heap[bp]?=some (.cells #[.slice FA gn fc,.slice TA gn tc,.slice NA gn nc] 40 (0,0))∧W.heap[bq]?=some (.cells #[.int .i64 x.h,.slice A1 m1 cp1,.slice A2 m2 cp2] 42 (0,0))∧Gs zB W4 W G gn (.slice FA gn fc) (.slice TA gn tc) (.slice NA gn nc)∧Below w11.heap.size w11 W)
   case first=>
    refine YN (S:=fun w'=>Below w11.heap.size w11 w') A6 (AP _ _).drew (fun hHeld=>?_);have Es:Below w11.heap.size w11 w11.drew:=(AP _ _).drew;obtain⟨D0,Eo⟩:∃D,w11.drew=D:=⟨_,rfl⟩;rw [Eo] at hHeld Es ⊢;clear Eo;refine ht 0 (v:=?_) hHeld ?_ ?_;rotate_left
    ·intro w' hSw
     obtain⟨a0,a1,a2,a3,s0,s1,t0,t1,t2,t3,u3,u7,up⟩:=FX.out w' hSw;clear hSw;go_simp
     (try with_reducible rfl)
    (try simp only [AX,Ad,Ac,Act.put,AW,Ab,AY]);refine ht 1 (v:=?_) hHeld ?_ ?_;rotate_left
    ·intro w' hSw
     clear hSw;go_simp
     (try with_reducible rfl)
    (try simp only [AX,Ad,Ac,Act.put,AW,Ab,AY]);refine ht 2 (v:=?_) hHeld ?_ ?_;rotate_left
    ·intro w' hSw
     clear hSw;go_simp
     (try with_reducible rfl)
    (try simp only [AX,Ad,Ac,Act.put,AW,Ab,AY]);refine ht 3 (v:=?_) hHeld ?_ ?_;rotate_left
    ·intro w' hSw
     obtain⟨a0,a1,a2,a3,s0,s1,t0,t1,t2,t3,u3,u7,up⟩:=FX.out w' hSw;clear hSw;go_simp
     (try with_reducible rfl)
    (try simp only [AX,Ad,Ac,Act.put,AW,Ab,AY]);refine ht 4 (v:=?_) hHeld ?_ ?_;rotate_left
    ·intro w' hSw
     obtain⟨a0,a1,a2,a3,s0,s1,t0,t1,t2,t3,u3,u7,up⟩:=FX.out w' hSw;clear hSw;go_simp
     (try with_reducible rfl)
    (try simp only [AX,Ad,Ac,Act.put,AW,Ab,AY]);refine GZ (rs:=[5,9,10]) Ku AO (Eg (o:=_) rfl (fun K hK=>?_) (Eg (o:=_) rfl (fun K hK=>?_) (Eg (o:=_) rfl (fun K hK=>?_) GV)));all_goals first
     | (go_simp;go_at_call 14;refine (ET.out _ Es).mono ?_;rintro e DC ⟨⟨FA,TA,NA,fc,tc,nc,rfl,Fz⟩,bA⟩;have C9:=A3 Fz;have hS1:=Es.trans (bA.mono Es.size);(try have mP:=A3 (Fz.sep (.inl (BR kP.out))));(try have mQ:=A3 (Fz.sep (.inl (BR kQ.out))));clear Fz)
     | (go_simp;obtain⟨zp,DP,e1,e2,kA,wP,hS1,bA⟩:=VV Es zP;unfold zP at e2;rw [e2,e1];have kP:=A3 kA;have wP:=A3 wP;(try have mP:=A3 (C9.out.sep (z:=zp) (.inr A0)));(try have C9:=A3 (C9.out.below bA));clear kA e1 e2)
     | (go_simp;obtain⟨zq,DQ,e1,e2,kA,wQ,hS1,bA⟩:=VV Es zQ;unfold zQ at e2;rw [e2,e1];have kQ:=A3 kA;have wQ:=A3 wQ;(try have mQ:=A3 (C9.out.sep (z:=zq) (.inr A0)));(try have C9:=A3 (C9.out.below bA));clear kA e1 e2)
    all_goals
     (try have kP:=A3 (VX bA kP.out));(try have kQ:=A3 (VX bA kQ.out));clear bA;refine hK.out _ _ hS1 (fun hHeld=>?_);clear hK K Es;have Es:=hS1;clear hS1;(try simp only [AX,Ad,Ac,Act.put,AW,Ab,AY]);(try (refine ht 6 (v:=?_) (hr:=by decide +kernel) hHeld ?_ ?_;rotate_left;(focus (intro w' hSw;clear hSw;go_simp;(try with_reducible rfl)));(try simp only [AX,Ad,Ac,Act.put,AW,Ab,AY]);refine ht 7 (v:=?_) (hr:=by decide +kernel) hHeld ?_ ?_;rotate_left;(focus (intro w' hSw;clear hSw;go_simp;(try with_reducible rfl)));(try simp only [AX,Ad,Ac,Act.put,AW,Ab,AY]);refine ht 8 (v:=?_) (hr:=by decide +kernel) hHeld ?_ ?_;rotate_left;(focus (intro w' hSw;clear hSw;go_simp;(try with_reducible rfl)));(try simp only [AX,Ad,Ac,Act.put,AW,Ab,AY])))
    all_goals first
     | (refine GZ (rs:=[5,9]) Ku AO (Eg (o:=_) rfl (fun K hK=>?_) (Eg (o:=_) rfl (fun K hK=>?_) GV)))
     | (refine GZ (rs:=[5,10]) Ku AO (Eg (o:=_) rfl (fun K hK=>?_) (Eg (o:=_) rfl (fun K hK=>?_) GV)))
     | (refine GZ (rs:=[9,10]) Ku AO (Eg (o:=_) rfl (fun K hK=>?_) (Eg (o:=_) rfl (fun K hK=>?_) GV)))
    all_goals first
     | (go_simp;go_at_call 14;refine (ET.out _ Es).mono ?_;rintro e DC ⟨⟨FA,TA,NA,fc,tc,nc,rfl,Fz⟩,bA⟩;have C9:=A3 Fz;have hS1:=Es.trans (bA.mono Es.size);(try have mP:=A3 (Fz.sep (.inl (BR kP.out))));(try have mQ:=A3 (Fz.sep (.inl (BR kQ.out))));clear Fz)
     | (go_simp;obtain⟨zp,DP,e1,e2,kA,wP,hS1,bA⟩:=VV Es zP;unfold zP at e2;rw [e2,e1];have kP:=A3 kA;have wP:=A3 wP;(try have mP:=A3 (C9.out.sep (z:=zp) (.inr A0)));(try have C9:=A3 (C9.out.below bA));clear kA e1 e2)
     | (go_simp;obtain⟨zq,DQ,e1,e2,kA,wQ,hS1,bA⟩:=VV Es zQ;unfold zQ at e2;rw [e2,e1];have kQ:=A3 kA;have wQ:=A3 wQ;(try have mQ:=A3 (C9.out.sep (z:=zq) (.inr A0)));(try have C9:=A3 (C9.out.below bA));clear kA e1 e2)
    all_goals
     (try have kP:=A3 (VX bA kP.out));(try have kQ:=A3 (VX bA kQ.out));clear bA;refine hK.out _ _ hS1 (fun hHeld=>?_);clear hK K Es;have Es:=hS1;clear hS1;(try simp only [AX,Ad,Ac,Act.put,AW,Ab,AY]);(try (refine ht 6 (v:=?_) (hr:=by decide +kernel) hHeld ?_ ?_;rotate_left;(focus (intro w' hSw;clear hSw;go_simp;(try with_reducible rfl)));(try simp only [AX,Ad,Ac,Act.put,AW,Ab,AY]);refine ht 7 (v:=?_) (hr:=by decide +kernel) hHeld ?_ ?_;rotate_left;(focus (intro w' hSw;clear hSw;go_simp;(try with_reducible rfl)));(try simp only [AX,Ad,Ac,Act.put,AW,Ab,AY]);refine ht 8 (v:=?_) (hr:=by decide +kernel) hHeld ?_ ?_;rotate_left;(focus (intro w' hSw;clear hSw;go_simp;(try with_reducible rfl)));(try simp only [AX,Ad,Ac,Act.put,AW,Ab,AY])))
    all_goals first
     | (refine GZ (rs:=[5]) Ku AO (Eg (o:=_) rfl (fun K hK=>?_) GV))
     | (refine GZ (rs:=[9]) Ku AO (Eg (o:=_) rfl (fun K hK=>?_) GV))
     | (refine GZ (rs:=[10]) Ku AO (Eg (o:=_) rfl (fun K hK=>?_) GV))
    all_goals first
     | (go_simp;go_at_call 14;refine (ET.out _ Es).mono ?_;rintro e DC ⟨⟨FA,TA,NA,fc,tc,nc,rfl,Fz⟩,bA⟩;have C9:=A3 Fz;have hS1:=Es.trans (bA.mono Es.size);(try have mP:=A3 (Fz.sep (.inl (BR kP.out))));(try have mQ:=A3 (Fz.sep (.inl (BR kQ.out))));clear Fz)
     | (go_simp;obtain⟨zp,DP,e1,e2,kA,wP,hS1,bA⟩:=VV Es zP;unfold zP at e2;rw [e2,e1];have kP:=A3 kA;have wP:=A3 wP;(try have mP:=A3 (C9.out.sep (z:=zp) (.inr A0)));(try have C9:=A3 (C9.out.below bA));clear kA e1 e2)
     | (go_simp;obtain⟨zq,DQ,e1,e2,kA,wQ,hS1,bA⟩:=VV Es zQ;unfold zQ at e2;rw [e2,e1];have kQ:=A3 kA;have wQ:=A3 wQ;(try have mQ:=A3 (C9.out.sep (z:=zq) (.inr A0)));(try have C9:=A3 (C9.out.below bA));clear kA e1 e2)
    all_goals
     (try have kP:=A3 (VX bA kP.out));(try have kQ:=A3 (VX bA kQ.out));clear bA;refine hK.out _ _ hS1 (fun hHeld=>?_);clear hK K Es;have Es:=hS1;clear hS1;(try simp only [AX,Ad,Ac,Act.put,AW,Ab,AY]);(try (refine ht 6 (v:=?_) (hr:=by decide +kernel) hHeld ?_ ?_;rotate_left;(focus (intro w' hSw;clear hSw;go_simp;(try with_reducible rfl)));(try simp only [AX,Ad,Ac,Act.put,AW,Ab,AY]);refine ht 7 (v:=?_) (hr:=by decide +kernel) hHeld ?_ ?_;rotate_left;(focus (intro w' hSw;clear hSw;go_simp;(try with_reducible rfl)));(try simp only [AX,Ad,Ac,Act.put,AW,Ab,AY]);refine ht 8 (v:=?_) (hr:=by decide +kernel) hHeld ?_ ?_;rotate_left;(focus (intro w' hSw;clear hSw;go_simp;(try with_reducible rfl)));(try simp only [AX,Ad,Ac,Act.put,AW,Ab,AY])))
    all_goals
     obtain⟨E1,E2,e1,e2,⟨c1,c2,c3,c4,c5,c6,c7⟩,TT,⟨d1,d2,d3,d4,d5,d6,d7⟩,Qk,KP2,KQ,HPE⟩:=anL Es kP.out kQ.out wP.out wQ.out C9.out mP.out mQ.out (.int .i64 x.h) (.slice A1 m1 cp1) (.slice A2 m2 cp2);refine GZ (rs:=[11]) A6 AO ?_;refine Eg (o:=_) rfl (fun K hK=>?_) GV;go_simp
     (try rw [e1]);refine hK.out _ _ TT (fun hHeld=>?_);clear hK K;(try simp only [AX,Ad,Ac,Act.put,AW,Ab,AY]);refine GZ (rs:=[12]) A6 AO ?_;refine Eg (o:=_) rfl (fun K hK=>?_) GV;go_simp
     (try rw [e2]);refine hK.out _ _ Qk (fun hHeld=>?_);clear hK K;(try simp only [AX,Ad,Ac,Act.put,AW,Ab,AY]);refine VJ A6 ?_ _;go_wp2_with fail;go_meet;exact⟨_,_,FA,TA,NA,fc,tc,nc,_,rfl,rfl,KP2,KQ,HPE,Qk⟩
   obtain⟨bp,bq,FA,TA,NA,fc,tc,nc,zB,rfl,rfl,kp,kq,Fz,QM⟩:=hcut;obtain⟨MI,abv⟩:∃E:World,E=wc:=⟨_,rfl⟩;subst abv;have Pu:=A3 (HB.out.trans (QM.mono s11));have Fl:=A3 QM;have KP:=A3 kp;have KQ:=A3 kq;obtain⟨iF,iT,iN⟩:=Fz.out Cj.out A0 Pu.out;have IF:=A3 iF;have IT:=A3 iT;have IN:=A3 iN;obtain⟨f,hf⟩:=AA (EJ n cd G P x);have HF:=A3 hf;have HAG:=A3 (fun r=>HG.out.agr dW.out.wd KN HT.out Z4.out HX.out r);have P0:=A3 (show ∀u:Ext MI,Calls Tryz.prog 15 #[.agg #[.slice CA n Cp,.slice EA m Cz,.int .i64 sh,.int .i64 lk],.agg #[.slice GA gn gc,.slice PA pn pc],.agg #[.int .i64 x.h,.slice A1 m1 cp1,.slice A2 m2 cp2,.int .i64 p],.int .i64 A8] u.w fun e w'=>e=.returned (.tuple #[.int .i64 (f A8).1,.bool (f A8).2])∧Below u.w.heap.size u.w w' from fun u=>by
    have J2:=Pu.out.trans (u.h.mono Pu.out.size);have h:=wj (.slice CA n Cp) (.slice EA m Cz) (.slice GA gn gc) (.slice PA pn pc) sh lk n cd G P u.w (TW4.out.below J2) (dW.out.below J2) (JZ.out.below J2) (Q0.out.below J2) KN (fun x hx=>by have:=HG.out.nx2 x hx;omega) x p _ _ (HI1.out.below J2) (UG.out.below J2) (by have:=I7.out x HX.out;omega) (fun _=>HG.out.Zo KN) A8;rw [HF.out] at h
    exact h)
   have Kq:=A3 (show ∀W,Below MI.heap.size MI W→Calls Tryz.prog 17 #[.agg #[.slice CA n Cp,.slice EA m Cz,.int .i64 sh,.int .i64 lk],.agg #[.slice GA gn gc,.slice PA pn pc],.agg #[.int .i64 x.h,.slice A1 m1 cp1,.slice A2 m2 cp2,.int .i64 p]] W fun e w'=>e=.returned (jz (FT f Fa))∧Below W.heap.size W w' from fun W hW=>by
    have J2:=Pu.out.trans (hW.mono Pu.out.size);have h:=w6 (.slice CA n Cp) (.slice EA m Cz) (.slice GA gn gc) (.slice PA pn pc) sh lk n cd G P W (TW4.out.below J2) (dW.out.below J2) (JZ.out.below J2) (Q0.out.below J2) KN (fun x hx=>by have:=HG.out.nx2 x hx;omega) x p _ _ (HI1.out.below J2) (UG.out.below J2) (by have:=I7.out x HX.out;omega) (fun _=>HG.out.Zo KN);rw [HF.out] at h
    exact h)
   have PW:=A3 (show ∀W,Below MI.heap.size MI W→∀r:Int,Calls Tryz.prog 16 #[.slice CA n Cp,.agg #[.slice FA gn fc,.slice TA gn tc,.slice NA gn nc],.agg #[.int .i64 x.h,.slice A1 m1 cp1,.slice A2 m2 cp2],.int .i64 r] W fun e w'=>(∃y:Int,((f r).2=true→y=(f r).1)∧e=.returned (.tuple #[.int .i64 y,.bool (f r).2]))∧Below W.heap.size W w' from fun W hW r=>by
    have J2:=Pu.out.trans (hW.mono Pu.out.size);have hl:=HG.out.lp KN Z4.out HX.out;have h:=am0 (.slice CA n Cp) FA TA NA A1 A2 gn fc tc nc m1 cp1 m2 cp2 n cd G hd x.bl x.la r _ _ D W (dW.out.below J2) Cj.out A0 (IF.out.below hW) (IT.out.below hW) (IN.out.below hW) (by rw [←Cj.out];exact HG.out.nl KN) (fun y hy=>by have:=HG.out.Zj y hy;have:=HG.out.range;omega) (HI1.out.below J2) (UG.out.below J2) HHD.out (by rw [←Cj.out];exact HG.out.gr KN) (by rw [←Cj.out];exact HG.out.it HT.out) hl.2.1;have ha:=HAG.out r;rw [HXH.out,Cj.out,Dk,HF.out] at ha;rw [HXH.out]
    exact h.mono fun e w' ⟨he,hb⟩=>⟨⟨_,ha.2.1,by rw [he,ha.1]⟩,hb⟩)
   have HZ:=A3 (show (f A8).2=false→(f A8).1=0 from by have h:=(HAG.out A8).2.2;rw [HF.out] at h;exact h);have PK:=A3 (aq0 f);obtain⟨C,hC⟩:=AA (FT f Fa);rw [hC] at Kq PK;have HC:=A3 hC;obtain⟨cr,cm,cf⟩:=C;simp only [jz] at Kq;obtain⟨R,hR⟩:=AA (f A8);rw [hR] at P0 HZ;have HR:=A3 hR;obtain⟨v1,k1⟩:=R;clear hf hC hR kp kq Fz iF iT iN QM;obtain⟨a0,a1,a2,a3,a4,a5,a6,a7,a8,a9,UE,TS,Ts⟩:=FX.out MI Fl.out;go_upto_region 13 with fail;refine Cg A6 A6 ?_;repeat (go_big_quiet_step ((go_at_call 15;with_reducible exact Calls.AQ (P0.out _))))
   refine Ba ?_;rintro _ ⟨u1,rfl⟩;obtain⟨OC,eC⟩:∃E:World,u1.w=E:=⟨_,rfl⟩;have hx1:=u1.h;rw [eC] at hx1 ⊢;have ZE:=A3 hx1;have FP:=A3 (Fl.out.trans (hx1.mono Fl.out.size));clear a0 a1 a2 a3 a4 a5 a6 a7 a8 a9 UE TS Ts;clear eC hx1 P0;obtain⟨a0,a1,a2,a3,a4,a5,a6,a7,a8,a9,UE,TS,Ts⟩:=FX.out OC FP.out;obtain⟨aa,ab,ac,-,-,-⟩:=Gb ((ZE.out.block bp (BR KP.out)).trans KP.out);obtain⟨ad,ae,af,-,-,-⟩:=Gb ((ZE.out.block bq (BR KQ.out)).trans KQ.out);have iw:=A3 (PW.out OC ZE.out A8);rw [HR.out] at iw;go_upto_region 15 with (go_at_call 16;refine iw.out.mono ?_;rintro e TZ ⟨⟨y,hy,rfl⟩,DX⟩);have YG:=A3 (ZE.out.trans (DX.mono ZE.out.size));have HY:=A3 hy;clear a0 a1 a2 a3 a4 a5 a6 a7 a8 a9 UE TS Ts aa ab ac ad ae af;clear DX hy iw;have dkk:(k1 != k1)=false:=by simp
   go_cut [111] from 93 to 111 (fun acI W=>acI=.bool false∧W=TZ)
   case first=>
    cases k1 with
    | true=>
     have e1:(v1 != y)=false:=by rw [HY.out rfl];simp
     go_wp2_with fail;go_meet;exact⟨rfl,rfl⟩
    | false=>
     have e1:(v1 != 0)=false:=by rw [show v1=0 from HZ.out rfl];simp
     go_wp2_with fail;go_meet;exact⟨rfl,rfl⟩
   obtain⟨rfl,rfl⟩:=hcut;obtain⟨W15,aqT⟩:∃E:World,E=wc:=⟨_,rfl⟩;subst aqT;have apO:=A3 (Fl.out.trans (YG.out.mono Fl.out.size));obtain⟨a0,a1,a2,a3,a4,a5,a6,a7,a8,a9,UE,TS,Ts⟩:=FX.out W15 apO.out;have HCU:=A3 (show ∀u:Ext W15,Calls Tryz.prog 17 #[.agg #[.slice CA n Cp,.slice EA m Cz,.int .i64 sh,.int .i64 lk],.agg #[.slice GA gn gc,.slice PA pn pc],.agg #[.int .i64 x.h,.slice A1 m1 cp1,.slice A2 m2 cp2,.int .i64 p]] u.w fun e w'=>e=.returned (.tuple #[.int .i64 cr,.int .i64 cm,.bool cf])∧Below u.w.heap.size u.w w' from fun u=>Kq.out u.w (YG.out.trans (u.h.mono YG.out.size)));go_upto_region 17 with fail;refine Cg A6 A6 ?_;repeat (go_big_quiet_step ((go_at_call 17;with_reducible exact Calls.AQ (HCU.out _))))
   refine Ba ?_;rintro _ ⟨u2,rfl⟩;obtain⟨W16,sN⟩:∃E:World,u2.w=E:=⟨_,rfl⟩;have hx2:=u2.h;rw [sN] at hx2 ⊢;have an4:=A3 (YG.out.trans (hx2.mono YG.out.size));clear a0 a1 a2 a3 a4 a5 a6 a7 a8 a9 UE TS Ts;clear sN hx2 Kq HCU;go_upto_region 20 with fail;go_loopw [23,24,25] (fun a23 a24 a25 wr=>∃(q:Nat) (F M:Int) (B:Bool),9≤q∧q≤13∧FT f (Fa.drop (q - 9))=(F,M,B)∧a23=.int .i64 F∧a24=.int .i64 M∧a25=.int .i64 (q:Int)∧Below MI.heap.size MI wr) (fun _ _ a25 _=>(intOf a25).toNat);case atStart=>exact⟨13,0,0,false,by omega,by omega,rfl,rfl,rfl,rfl,an4.out⟩
   case round=>
    obtain⟨q,F,M,B,hq1,hq2,sI,rfl,rfl,rfl,xH⟩:=hrel;obtain⟨w20,xW⟩:∃E:World,E=wr:=⟨_,rfl⟩;subst xW;have Tk:=A3 xH;have Kq:=A3 sI;clear xH sI;by_cases hk:10≤q
    ·have dk:decide ((10:Int)≤(q:Int))=true:=AR A0
     have w1:IntKind.i64.wrap ((q:Int) - 1)=((q - 1:Nat):Int):=by rw [GN _ A0];omega
     have zN:=A3 (Fl.out.trans (Tk.out.mono Fl.out.size));obtain⟨a0,a1,a2,a3,a4,a5,a6,a7,a8,a9,UE,TS,Ts⟩:=FX.out w20 zN.out;obtain⟨aa,ab,ac,-,-,-⟩:=Gb ((Tk.out.block bp (BR KP.out)).trans KP.out);obtain⟨ad,ae,af,-,-,-⟩:=Gb ((Tk.out.block bq (BR KQ.out)).trans KQ.out);have QA:=A3 (aqH (f:=f) hk hq2);have HRQ:=A3 (PW.out w20 Tk.out (q:Int));obtain⟨R2,hR2⟩:=AA (f (q:Int));rw [hR2] at HRQ QA;obtain⟨v2,k2⟩:=R2;clear hR2;go_upto_region 23 with (go_at_call 16;refine HRQ.out.mono ?_;rintro e W21 ⟨⟨y,hy,rfl⟩,uD⟩);have vY:=A3 (Tk.out.trans (uD.mono Tk.out.size));have HY2:=A3 hy;clear a0 a1 a2 a3 a4 a5 a6 a7 a8 a9 UE TS Ts aa ab ac ad ae af;clear uD hy;cases k2 with
     | true=>
      have HE:=A3 (show FT f (Fa.drop (q - 1 - 9))=((q:Int),y,true) by rw [show q - 1 - 9=q - 10 by omega,QA.out,AE rfl,show y=v2 from HY2.out rfl]);go_wp2_with fail;go_roundw;case rel=>exact⟨q - 1,_,_,_,by omega,by omega,HE.out,rfl,rfl,by go_num,vY.out⟩
      case measure=>exact Aa
     | false=>
      have HE:=A3 (show FT f (Fa.drop (q - 1 - 9))=(F,M,B) by rw [show q - 1 - 9=q - 10 by omega,QA.out,A9 AO];exact Kq.out);go_wp2_with fail;go_roundw;case rel=>exact⟨q - 1,_,_,_,by omega,by omega,HE.out,rfl,rfl,by go_num,vY.out⟩
      case measure=>exact Aa
    ·obtain rfl:q=9:=by omega
     have dk:decide ((10:Int)≤((9:Nat):Int))=false:=by decide
     obtain⟨rfl,rfl,rfl⟩:cr=F∧cm=M∧cf=B:=by
      have h:=HC.out.symm.trans Kq.out;exact⟨congrArg (·.1) h,congrArg (·.2.1) h,congrArg (·.2.2) h⟩
     have e1:(cr != cr)=false:=by simp
     have e2:(cm != cm)=false:=by simp
     have e3:(cf != decide (0<cr))=false:=by rw [show cf=decide (0<cr) from PK.out];simp
     have e4:(!cf==decide (0<cr))=false:=by rw [show cf=decide (0<cr) from PK.out];simp
     have Lm:=A3 (Pu.out.trans (Tk.out.mono Pu.out.size));clear hk hq1 hq2;go_wp2_with fail;go_roundw;case rel=>exact⟨i+1,by omega,by go_num,Lm.out⟩
     case measure=>exact Aa
  ·obtain rfl:ln=i:=by omega
   have dl2:decide ((ln:Int)<(ln:Int))=false:=by simp
   go_wp2_with fail;go_ret;exact⟨rfl,Yr.out.trans (HB.out.mono Yr.out.size)⟩
end Go.Proofs.YtlmgkipmfgijiaaGreatDoor
