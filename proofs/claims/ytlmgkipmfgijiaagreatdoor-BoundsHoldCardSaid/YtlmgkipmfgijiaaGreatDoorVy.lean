/-
  What is proved here: parts lHo.
-/
import Derived.Test.YtlmgkipmfgijiaaGreatDoorVa
import Derived.Test.YtlmgkipmfgijiaaGreatDoorVx
import Derived.Test.YtlmgkipmfgijiaaGreatDoorVu
import Derived.BigRegion
import Derived.BigQuiet
namespace Go.Proofs.YtlmgkipmfgijiaaGreatDoor
set_option linter.unusedVariables false
set_option linter.unusedSimpArgs false
set_option maxRecDepth 100000
set_option maxHeartbeats 8000000
open Go.RowKit
theorem atY (AZ:bR) (cv ev:Value) (sh lk:Int) (n:Nat) (cd:Nat→Int) (AO:List Bt) (task:Int) (dv sv0 iv:Value) (dl sl il:List Int) (w:World) (T:CO w) (OT:UR w) (HW:Pj w cv n cd) (HE:IZ w ev AO) (HD:Lb w dv dl) (HS:Lb w sv0 sl) (HI:Lb w iv il) :
  Calls Tryz.prog 9 #[.agg #[cv,ev,.int .i64 sh,.int .i64 lk],.int .i64 task,dv,sv0,iv] w fun e w'=>e=.returned (.bool true)∧Below w.heap.size w w':=by
 obtain⟨CA,Dv,hcv,hc1,hc2,-⟩:=HW.at_;obtain⟨EA,CV,hev,-,-,-⟩:=HE.at_;obtain⟨dA,au3,ao7,hd1,hd2,-⟩:=HD.at_;obtain⟨sA,yt,xS,hs1,hs2,-⟩:=HS.at_;obtain⟨iA,qA,anM,hi1,hi2,-⟩:=HI.at_;subst hcv hev ao7 xS anM;have auj:=MV hd2;have auk:=MV hs2;have auU:=MV hi2;obtain⟨m,hm⟩:=A8 AO.length;rw [hm] at HE ⊢;obtain⟨V,hV,kV,k3,bV,sV⟩:=Rn w #[.slice CA n Dv,.slice EA m CV,.int .i64 sh,.int .i64 lk] #[.slice iA il.length qA] 25 79;obtain⟨q2,hq2⟩:∃q,w.heap.size=q:=⟨_,rfl⟩;obtain⟨q3,hq3⟩:∃q,q2+1=q:=⟨_,rfl⟩;rw [hq2] at kV k3;rw [hq3] at k3;have⟨HQ2,HQ3,HAW,BV,KV,K3,TV,OTV⟩:=OI hq2 hq3 (atk AZ V (T.below bV)) bV kV k3 (T.below bV) (OT.below bV);have⟨PO,Tx,HDV,HSV,HIV,au4,LV,HM⟩:=OI (HW.j6 bV) (HE.below bV) (HD.below bV) (HS.below bV) (HI.below bV) (Eg hc1 hc2) (Ak kV) hm;clear bV kV k3 T OT HW HE HD HS HI hc1 hc2 hm sV hd1 hd2 hs1 hs2 hi1 hi2;go_enter Tryz.func9,Tryz.ntmps9;go_wp2_with fail;refine HAW.out.mono ?_;rintro e W1 ⟨rfl,hb1⟩;have B1:=A3 hb1;obtain⟨a0,a1,a2,a3,a4⟩:=FY ((hb1.block q2 LV.out).trans KV.out);have⟨HSM,Ib⟩:=AQ (aqc (.slice CA n Dv) (.slice EA m CV) sh lk n cd AO W1 (PO.out.j6 hb1) (Tx.out.below hb1)) (BV.out.trans (hb1.mono BV.out.size));clear hb1 hV hq2 hq3;go_wp2_with fail;refine HSM.out.mono ?_;rintro e W2 ⟨rfl,hb2⟩;obtain⟨c0,c1,c2,c3,c4⟩:W2.cell? ⟨q2,0,none⟩=_∧W2.cell? ⟨q2,1,none⟩=_∧W2.cell? ⟨q2,2,none⟩=_∧W2.cell? ⟨q2,3,none⟩=_∧q2<W2.heap.size:=⟨(hb2.cell (p:=⟨q2,0,none⟩) a4).trans a0,(hb2.cell (p:=⟨q2,1,none⟩) a4).trans a1,(hb2.cell (p:=⟨q2,2,none⟩) a4).trans a2,(hb2.cell (p:=⟨q2,3,none⟩) a4).trans a3,by have:=hb2.size;omega⟩;have⟨B2,Uu⟩:=AQ (B1.out.trans (hb2.mono B1.out.size)) (Ib.out.trans (hb2.mono Ib.out.size));have k3':=(B2.out.block _ (Ak K3.out)).trans K3.out;have x3:W2.cell? ⟨q3,0,none⟩=some (.slice iA il.length qA):=by simp [World.cell?,k3']
 have l3:q3<W2.heap.size:=Ak k3';clear hb2 k3' a0 a1 a2 a3 a4;by_cases hsm:aJ n AO sh;case neg=>
  obtain⟨r,hr⟩:=A8 (Vw n AO sh);have hr0:r=0:=by rw [←hr];unfold Vw;rw [A6 hsm]
  rw [hr];subst hr0;clear hr hsm;go_wp2_with fail;go_ret;exact⟨rfl,Uu.out⟩
 obtain⟨r,hr⟩:=A8 (Vw n AO sh);have hr0:r=1:=by rw [←hr];unfold Vw;rw [A9 hsm]
 rw [hr];subst hr0;have auS:=hsm.1;have auI:=A3 hsm;clear hr hsm;by_cases u1:(600:Int)<(dl.length:Int);case pos=>
  have g9:=Ac u1;have g9n:decide (600<dl.length)=true:=Ac A0;clear u1;go_wp2_with fail;go_ret;exact⟨rfl,Uu.out⟩
 have au0:dl.length≤600:=by omega
 have g9:=Ad u1;have g9n:decide (600<dl.length)=false:=Ad A0;clear u1;by_cases u2:(64:Int)<(sl.length:Int);case pos=>
  have g8:=Ac u2;have g8n:decide (64<sl.length)=true:=Ac A0;clear u2;go_wp2_with fail;go_ret;exact⟨rfl,Uu.out⟩
 have ju:sl.length≤64:=by omega
 have g8:=Ad u2;have g8n:decide (64<sl.length)=false:=Ad A0;clear u2;by_cases u3:(60:Int)<(il.length:Int);case pos=>
  have g7:=Ac u3;have g7n:decide (60<il.length)=true:=Ac A0;clear u3;go_wp2_with fail;go_ret;exact⟨rfl,Uu.out⟩
 have apy:il.length≤60:=by omega
 have g7:=Ad u3;have g7n:decide (60<il.length)=false:=Ad A0;clear u3;have HWW:=A3 ((PO.out.j6 B2.out).words A0);have Nr:=A3 (pN AZ (.slice CA n Dv) (.slice EA m CV) sh lk n cd AO task W2 (TV.out.below B2.out) HWW.out A0 (Tx.out.below B2.out));go_wp2_with fail;refine Nr.out.mono ?_;rintro e W3 ⟨h,hb3⟩;have⟨B23,BW3⟩:=AQ hb3 (Uu.out.trans (hb3.mono Uu.out.size));obtain⟨d0,d1,d2,d3,d4⟩:W3.cell? ⟨q2,0,none⟩=_∧W3.cell? ⟨q2,1,none⟩=_∧W3.cell? ⟨q2,2,none⟩=_∧W3.cell? ⟨q2,3,none⟩=_∧q2<W3.heap.size:=⟨(hb3.cell (p:=⟨q2,0,none⟩) c4).trans c0,(hb3.cell (p:=⟨q2,1,none⟩) c4).trans c1,(hb3.cell (p:=⟨q2,2,none⟩) c4).trans c2,(hb3.cell (p:=⟨q2,3,none⟩) c4).trans c3,by have:=hb3.size;omega⟩;clear hb3 c0 c1 c2 c3 c4 Nr;rcases h with⟨-,hy⟩|⟨-,hno⟩;case inr=>
  obtain⟨bv,pv,lv,rv,iv,dv,⟨⟨_,_,_,rfl⟩,⟨_,_,_,rfl⟩,⟨_,_,_,rfl⟩,⟨_,_,_,rfl⟩,⟨_,_,_,rfl⟩,⟨_,_,_,rfl⟩⟩,rfl⟩:=hno;go_wp2_with fail;go_ret;exact⟨rfl,(BW3.out.alloc BW3.out.size _).alloc (by rw [F9];have:=BW3.out.size;omega) _⟩
 obtain⟨k,en,G,P,D,L,s,GA,PA,LA,Ko,IA,DA,gc,pc,lc,rc,ic,dn,dc,hk,hg,hA,rfl,hi1,hi2⟩:=apR hy;have⟨HG,HA,HI⟩:=Bh hg hA (Eg hi1 hi2);have vw:=Gk.2 hg.val.ne;have hgl:=hg.len;have Gi:=hA.loops.len hg.val;obtain⟨lc1,lc2⟩:L.length≤lc∧lc≤2 ^ 63 - 1:=by obtain⟨A,c,e,h1,h2⟩:=hA.Ox.slice;cases e;exact⟨h1,h2⟩
 obtain⟨gc1,gc2⟩:G.length≤gc∧gc≤2 ^ 63 - 1:=by obtain⟨A,c,e,h1,h2⟩:=hA.Kg.slice;cases e;exact⟨h1,h2⟩
 obtain⟨rc1,rc2⟩:G.length≤rc∧rc≤2 ^ 63 - 1:=by obtain⟨A,c,e,h1,h2,_⟩:=hA.Ji;rw [hA.l1] at e h1;cases e;exact⟨h1,MV h2⟩
 obtain⟨gn,hgn⟩:∃m,G.length=m:=⟨_,rfl⟩;obtain⟨ln,MR⟩:∃m,L.length=m:=⟨_,rfl⟩;obtain⟨pn,I3⟩:∃m,P.length=m:=⟨_,rfl⟩;obtain⟨rb,ro,hRA,hrb,hrc⟩:∃rb ro,Ko=some ⟨rb,ro,none⟩∧rb<W3.heap.size∧∀k,k<s.reach.length→W3.cell? ⟨rb,ro+k,none⟩=some (.bool (s.reach.getD k false)):=by
  obtain⟨A,c,e,h1,h2,h4⟩:=hA.Ji;rw [hA.l1] at e;cases e;exact h4 (by rw [hA.l1];exact vw)
 subst hRA;have Qx:=A3 hrc;rw [hgn] at vw hgl Gi gc1 rc1;rw [MR] at Gi lc1;rw [hgn,MR,I3];have⟨DU,N9,HPN⟩:=Bh hgn MR I3;subst hk;clear hg hA hy hgn MR I3 hi1 hi2 hrc;go_upto_region 8 with fail;obtain⟨Y,hY,k5,k7,bY,sY⟩:=Rn W3 #[.slice GA gn gc,.slice PA pn pc] #[.slice (some ⟨rb,ro,none⟩) gn rc,.slice IA gn ic,.slice DA dn dc] 31 59;rw [hY];obtain⟨q5,hq5⟩:∃q,W3.heap.size=q:=⟨_,rfl⟩;obtain⟨q7,hq7⟩:∃q,q5+1=q:=⟨_,rfl⟩;rw [hq5,hq7] at k7;rw [hq5] at k5;rw [hq5,hq7];have lq5:q5<Y.heap.size:=Ak k5;have lq7:q7<Y.heap.size:=Ak k7;have g0:Y.cell? ⟨q5,0,none⟩=some (.slice GA gn gc):=by simp [World.cell?,k5]
 have g1:Y.cell? ⟨q5,1,none⟩=some (.slice PA pn pc):=by simp [World.cell?,k5]
 have r0:Y.cell? ⟨q7,0,none⟩=some (.slice (some ⟨rb,ro,none⟩) gn rc):=by simp [World.cell?,k7]
 have r1:Y.cell? ⟨q7,1,none⟩=some (.slice IA gn ic):=by simp [World.cell?,k7]
 have r2:Y.cell? ⟨q7,2,none⟩=some (.slice DA dn dc):=by simp [World.cell?,k7]
 obtain⟨i0,i1,i2,i3,i4⟩:Y.cell? ⟨q2,0,none⟩=_∧Y.cell? ⟨q2,1,none⟩=_∧Y.cell? ⟨q2,2,none⟩=_∧Y.cell? ⟨q2,3,none⟩=_∧q2<Y.heap.size:=⟨(bY.cell (p:=⟨q2,0,none⟩) d4).trans d0,(bY.cell (p:=⟨q2,1,none⟩) d4).trans d1,(bY.cell (p:=⟨q2,2,none⟩) d4).trans d2,(bY.cell (p:=⟨q2,3,none⟩) d4).trans d3,by have:=bY.size;omega⟩;have⟨BY,Ve,B3Y⟩:=Bh (BW3.out.trans (bY.mono BW3.out.size)) (B23.out.trans (bY.mono B23.out.size)) bY;have SY:=A3 (show rb<Y.heap.size by have:=bY.size;omega);have⟨K5,K7⟩:=AQ k5 k7;have HBG:=A3 (show E7 Y (.slice GA gn gc) G from by have h:=HA.out.Kg;rw [DU.out] at h;exact h.below bY);have HBP:=A3 (show Dk Y (.slice PA pn pc) P from by have h:=HA.out.lls;rw [HPN.out] at h;exact h.below bY);have Gh:=A3 (show IW Y (.slice LA ln lc) L from by have h:=HA.out.Ox;rw [N9.out] at h;exact h.below bY);have HBR:=A3 (show Hq Y (.slice (some ⟨rb,ro,none⟩) gn rc) s.reach from by have h:=HA.out.Ji;rw [DU.out] at h;exact h.below bY);clear hY k5 k7 bY sY d0 d1 d2 d3 d4;have⟨RR,HWY⟩:=AQ (B2.out.trans (Ve.out.mono B2.out.size)) (HWW.out.below Ve.out);have TY:=A3 (TV.out.below RR.out);have HFD:=A3 (show Calls Tryz.prog 20 #[.agg #[.slice CA n Dv,.slice EA m CV,.int .i64 sh,.int .i64 lk],.agg #[.slice GA gn gc,.slice PA pn pc],.slice LA ln lc,.agg #[.slice (some ⟨rb,ro,none⟩) gn rc,.slice IA gn ic,.slice DA dn dc]] Y fun e w'=>cE w' (Fk cd G s.reach L []) e∧Below Y.heap.size Y w' from by
  have hA:=HA.out.below B3Y.out;rw [DU.out,N9.out,HPN.out] at hA
  exact agi (.slice CA n Dv) (.slice EA m CV) sh lk TY.out HWY.out A0 HG.out hA)
 clear x3 l3 g9 g9n g8 g8n g7 g7n;go_upto_region 9 with (go_at_call 20;refine HFD.out.mono ?_;rintro e W8 ⟨hfv,hb8⟩;obtain⟨OA,ol,oc,at_,er,rfl,hin,hir⟩:=abz hfv);have⟨G4,HIR,VD,HV8⟩:=CU hin hir hb8 (RR.out.trans (hb8.mono RR.out.size));have b0:W8.cell? ⟨q2,0,none⟩=_:=(hb8.cell (p:=⟨q2,0,none⟩) i4).trans i0;have b1:W8.cell? ⟨q2,1,none⟩=_:=(hb8.cell (p:=⟨q2,1,none⟩) i4).trans i1;have b2:W8.cell? ⟨q2,2,none⟩=_:=(hb8.cell (p:=⟨q2,2,none⟩) i4).trans i2;have b3:W8.cell? ⟨q2,3,none⟩=_:=(hb8.cell (p:=⟨q2,3,none⟩) i4).trans i3;have b4:q2<W8.heap.size:=by have:=hb8.size;omega
 have hen:=HG.out.he;have hda:=HG.out.gd.da en (Bj hen);have V7:=A3 (asb (.slice CA n Dv) (.slice EA m CV) sh lk AO k en W8 (Tx.out.below HV8.out) hen hda.1 hda.2);obtain⟨zn,Yh⟩:=A8 en.da.toNat;rw [Yh] at V7;have lM:zn≤512:=by omega
 obtain⟨st,fV⟩:=A8 en.st;rw [fV] at V7;have afV:=A3 fV;clear hen hda Yh fV hfv hin hir hb8 HFD;go_upto_region 10 with (first|(go_at_call 24;refine V7.out.mono ?_;rintro e' W9 ⟨⟨g,rfl,hgX,hrow⟩,hb9⟩)|(refine Bk rfl 82 (.tmp 18) (.tmp 72) rfl W9.heap.size #[.int .i64 st,.int .i32 0,.int .i32 0,.int .i32 0,.int .i32 0,.int .i32 0,.int .i32 0,.int .i32 0,.int .i32 0,.int .i32 0,.int .i32 0,.int .i32 0,.int .i32 0,.int .i32 0,.int .i32 0,.int .i32 0,.int .i32 0,.slice (some ⟨g,0,none⟩) zn zn,.bool false,.int .i64 (-1)] rfl rfl 82 _ (AY _ _) A4 rfl Bd ?_));rw [World.setRow_alloc_new];obtain⟨sb,pL⟩:=A8 W9.heap.size;obtain⟨N,hN⟩:=A8 (W9.alloc (.cells #[.int .i64 st,.int .i32 0,.int .i32 0,.int .i32 0,.int .i32 0,.int .i32 0,.int .i32 0,.int .i32 0,.int .i32 0,.int .i32 0,.int .i32 0,.int .i32 0,.int .i32 0,.int .i32 0,.int .i32 0,.int .i32 0,.int .i32 0,.slice (some ⟨g,0,none⟩) zn zn,.bool false,.int .i64 (-1)] 82));have bN:Below W9.heap.size W9 N:=hN▸(AV _ _).alloc (AH _) _;have kN:N.heap[W9.heap.size]?=some (.cells #[.int .i64 st,.int .i32 0,.int .i32 0,.int .i32 0,.int .i32 0,.int .i32 0,.int .i32 0,.int .i32 0,.int .i32 0,.int .i32 0,.int .i32 0,.int .i32 0,.int .i32 0,.int .i32 0,.int .i32 0,.int .i32 0,.int .i32 0,.slice (some ⟨g,0,none⟩) zn zn,.bool false,.int .i64 (-1)] 82):=hN▸AY _ _;rw [hN];rw [pL] at kN ⊢;have hs9:=hb9.size;have hYN:Below Y.heap.size Y N:=VD.out.trans ((hb9.trans (bN.mono hs9)).mono VD.out.size);have⟨BYN,JN,KN⟩:=Bh hYN (CS hrow bN) kN;have hgN:g<N.heap.size:=(JN.out.lt g rfl).2;have asI:sb<N.heap.size:=Ak kN;have arQ:Y.heap.size≤sb:=by have:=VD.out.size;omega
 have hgY:Y.heap.size≤g:=by have:=VD.out.size;omega
 have rP:W8.heap.size≤sb:=by omega
 have⟨HG8,HN8⟩:=AQ hgX (hb9.trans (bN.mono hs9));have n17:N.cell? ⟨sb,17,none⟩=some (.slice (some ⟨g,0,none⟩) zn zn):=by simp [World.cell?,kN]
 clear hN bN kN hb9 hYN hrow pL V7 hs9 b0 b1 b2 b3 b4 hgX;cases hR:Fk cd G s.reach L [] with
 | inr q=>
  obtain⟨rfl,rfl,rfl⟩:=HIR.out q hR;have BWN:=A3 (BY.out.trans (BYN.out.mono BY.out.size));clear hR;go_wp2_with fail;go_ret;exact⟨rfl,BWN.out⟩
 | inl Ms=>
 obtain⟨rfl,rfl,hms⟩:=G4.out Ms hR;have⟨HMS,EC⟩:=AQ hms hR;clear hms hR;go_upto_region 12 with fail;go_upto_region 13 with (refine aaC rfl (.tmp 81) (.tmp 82) rfl g zn zn (List.replicate zn 0) dl _ rfl rfl JN.out (fun x hx=>by rw [(YW.1 hx).2];unfold AL;omega) (HDV.out.below (RR.out.trans (BYN.out.mono RR.out.size))) ?_;intro Z ml kk hml VU hrz hfz);have⟨HFZ,HRZ⟩:=AQ hfz hrz;have hmn:ml.length=zn:=by rw [hml];simp
 have⟨HMN,HMW⟩:=AQ hmn VU;clear hfz hrz VU hml hmn n17;have hY0:=BYN.out.trans (HFZ.out.below (B:=Y.heap.size) BYN.out.size (fun q hq=>by have h9:q=g:=hq;omega));have HYZ:=A3 hY0;clear hY0;go_upto_region 14 with (at_builtin;refine zZ rfl (.tmp 84) (.tmp 85) rfl Z.heap.size (.slice (some ⟨Z.heap.size,0,none⟩) 0 0) rfl (aqH Z) (.slice sA sl.length yt) sl rfl (HSV.out.below ((RR.out.trans (HYZ.out.mono RR.out.size)).alloc (by have:=HYZ.out.size;have:=RR.out.size;omega) _)) A0 I7 ?_;intro sv Z2 Vt hgr);have⟨HSW,zB,EG⟩:=Bh HSV.out.wd Vt hgr;clear Vt hgr;obtain⟨Ot,pR⟩:ol=ln∧Ms.length=ln:=by
  obtain⟨_,_,h2⟩:=(mJ lk HG.out Tb PO.out.wd HA.out.tree HA.out.loops HA.out.ends EC.out);have h3:=h2.len;rw [N9.out] at h3;obtain⟨_,_,e,_⟩:=HMS.out;cases e;exact⟨h3,h3⟩
 subst Ot;obtain⟨iI,Ef,Es,EN,FN⟩:=Dp Oy;have hr:=Sy (P:=Tryz.prog) Z2 38 3 iI _ JJ Ef Es .i64 .i64 (ol:Int) (ol:Int) A0 (EJ _) Xa A0;rw [EN,Cu,aal] at hr;obtain⟨Z3,Yo⟩:=A8 (Z2.alloc (.cells (Aq (List.replicate ol 0)).toArray 3));rw [Yo] at hr;have bZ3:Below Z2.heap.size Z2 Z3:=Yo▸((AV _ _).alloc (AH _) _);have kT:Z3.heap[Z2.heap.size]?=some (.cells (Aq (List.replicate ol 0)).toArray 3 (0,0)):=Yo▸AY _ _;have sZ3:Z3.heap.size=Z2.heap.size+1:=by rw [←Yo];simp
 obtain⟨tb,htb⟩:=A8 Z2.heap.size;rw [htb] at hr kT sZ3;have⟨BZ3,KT,SZ3,HTB⟩:=CU bZ3 kT sZ3 htb;have hmx:max (ol:Int) 0=(ol:Int):=by omega
 have apW:decide ((ol:Int)<0)=false:=Ad A0;clear Yo bZ3 kT sZ3 htb Ef Es EN FN;go_upto_region 15 with fail;go_upto_region 16 with fail;clear hr hmx apW;obtain⟨nb,uY⟩:=A8 Z3.heap.size;obtain⟨Q,hQ⟩:=A8 (Z3.alloc (.cells #[.int .i64 0] 3));have bQ:Below Z3.heap.size Z3 Q:=hQ▸(AV _ _).alloc (AH _) _;have kNb:Q.heap[Z3.heap.size]?=some (.cells #[.int .i64 0] 3 (0,0)):=hQ▸AY _ _;rw [hQ];rw [uY] at kNb ⊢;have htn:tb<nb:=by have:=SZ3.out;omega
 have b2Q:Below Z2.heap.size Z2 Q:=BZ3.out.trans (bQ.mono BZ3.out.size);have kTQ:Q.heap[tb]?=some (.cells (Aq (List.replicate ol 0)).toArray 3 (0,0)):=(bQ.block tb (Ak KT.out)).trans KT.out;obtain⟨jq,fq,zq1,zq2,jb⟩:=zL (st:=st) (sb:=sb) _ KN.out JN.out HFZ.out HRZ.out HMN.out HMW.out lM zB.out EG.out HSW.out ju b2Q;rw [HTB.out] at zq2 jb;have nQ:=HN8.out.size;have HJB:=A3 (show ∀q,Jb sb (.slice (some ⟨g,0,none⟩) zn zn) sv q→W8.heap.size≤q∧q≠nb∧q≠tb from fun q hq=>by
  obtain⟨h1,h2⟩:=jb q hq;have h3:=HG8.out
  rcases h1 with rfl|rfl|h1<;>refine⟨?_,?_,?_⟩<;>omega)
 have HNB:=A3 (show W8.heap.size≤nb∧W8.heap.size≤tb∧tb<nb from⟨by omega,by omega,htn⟩);have aaz:=A3 (show MQ W8 Q sb nb tb (.slice (some ⟨g,0,none⟩) zn zn) sv (List.replicate ol 0) 0 ⟨st,List.replicate 16 0,.slice (some ⟨g,0,none⟩) zn zn,false,-1⟩ ml sl from
  ⟨jq,rfl,HN8.out.trans (fq.below HN8.out.size (fun q hq=>by have h9:q=g:=hq;have:=HG8.out;omega)),⟨0,EJ _,EJ _,kNb⟩,kTQ⟩)
 obtain⟨DD,LL,hpl⟩:=mJ lk HG.out Tb PO.out.wd HA.out.tree HA.out.loops HA.out.ends EC.out;rw [afV.out] at hpl;have IM:=A3 hpl;have fS:=hpl.start;rw [N9.out] at fS;have⟨asT,auo,HZN,HHS,HHL⟩:=FP fS pR lM (Eg rP nQ) (Eg ju apy);clear hQ bQ kNb uY htn b2Q kTQ jq fq zq1 zq2 jb hpl fS pR lM rP nQ ju au0 hgN asI arQ hgY;go_upto_region 17 with fail;go_loopw [22,90] (fun a22 a90 wr=>∃(i b:Nat) (S:St) (m1 m2 tk:List Int) (Ah:Int),i≤1500∧a90=.int .i64 (i:Int)∧a22=.int .i64 Ah∧Hd cd DD LL s L Ms S.pc S.r S.hal b Ah tk∧MQ W8 wr sb nb tb (.slice (some ⟨g,0,none⟩) zn zn) sv tk i S m1 m2) (fun _ a90 _=>1500 - (intOf a90).toNat);case atStart=>exact⟨0,0,_,ml,sl,_,-1,by omega,rfl,rfl,asT.out,aaz.out⟩
 case round=>
  obtain⟨i,b,S,m1,m2,tk,Ah,hi5,rfl,rfl,E5,GV⟩:=hrel;obtain⟨U,hU⟩:∃U:World,U=wr:=⟨_,rfl⟩;subst hU;by_cases Tt:i<1500
  ·have dl5:decide ((i:Int)<1500)=true:=Ac A0
   have aua:decide (i<1500)=true:=Ac Tt;have hat:=E5.at_;have hbL:=hat.lt;obtain⟨hfb,hgx⟩:=IM.out.fb hat;have DC:b<gn:=by rw [←DU.out];exact (Bc.1 hgx).1
   obtain⟨pq,hpq⟩:=A8 S.pc;obtain⟨x0,hx0⟩:=A8 ((LL[b]).1);have Wd:=VD.out.trans (GV.bx.mono VD.out.size);rw [hpq] at hfb;have LW:=A3 (show Calls Tryz.prog 25 #[.agg #[.slice GA gn gc,.slice PA pn pc],.int .i64 pq] U fun x w'=>x=.returned (.tuple #[.int .i64 (b:Int),.bool true])∧Below U.heap.size U w' from (afF _ (.slice PA pn pc) G pq U (HBG.out.below Wd)).mono fun x w' ⟨h1,h2⟩=>⟨by rw [h1,hfb];rfl,h2⟩);obtain⟨gq,go,hGA,Lg,hgc⟩:∃gq go,GA=some ⟨gq,go,none⟩∧gq<Y.heap.size∧Y.cell? ⟨gq,go+b*3,none⟩=some (.int .i64 x0):=by
    obtain⟨_,_,e3,_,_,e4⟩:=id HBG.out;cases e3;rw [DU.out] at e4;obtain⟨b',off,e5,e6,e7⟩:=e4 A0;exact⟨b',off,e5,e6,by rw [←hx0];exact (e7 b _ hgx).1⟩
   subst hGA;have u0:U.cell? ⟨q5,0,none⟩=_:=(Wd.cell (p:=⟨q5,0,none⟩) lq5).trans g0;have u1:U.cell? ⟨q5,1,none⟩=_:=(Wd.cell (p:=⟨q5,1,none⟩) lq5).trans g1;have up:=GV.j.m.pc;rw [hpq] at up;have lU5:q5<U.heap.size:=by have:=Wd.size;omega
   have lUs:=GV.j.m.lt;have⟨HRS,HHD,HPQ,CE,Ow⟩:=FP GV E5 hpq hx0 Wd;clear hat hgx hpq hx0 Wd hfb E5 GV;go_upto_region 19 with (go_at_call 25;refine LW.out.mono ?_;rintro e' U2 ⟨rfl,Sa⟩);have u0':U2.cell? ⟨q5,0,none⟩=_:=(Sa.cell (p:=⟨q5,0,none⟩) lU5).trans u0;have up':U2.cell? ⟨sb,0,none⟩=_:=(Sa.cell (p:=⟨sb,0,none⟩) lUs).trans up;have ux':U2.cell? ⟨gq,go+b*3,none⟩=_:=(Sa.cell (p:=⟨gq,go+b*3,none⟩) (F7 Lg Ow.out.size)).trans ((Ow.out.cell (p:=⟨gq,go+b*3,none⟩) Lg).trans hgc);have lq2:gq<U2.heap.size:=by have:=Ow.out.size;have:=Sa.size;omega
   have l52:q5<U2.heap.size:=by have:=Sa.size;omega
   have ls2:sb<U2.heap.size:=by have:=Sa.size;omega
   have db1:decide ((gn:Int)≤(b:Int))=false:=Ad A0;have db2:(b:Int)<(gn:Int):=by omega
   have HU2:=A3 Sa;clear Sa u0 u1 up LW;by_cases hf:x0=pq
   focus
    have dq1:(x0==pq)=true:=by simpa using hf
    have dq2:decide (x0=pq)=true:=Ac hf;go_quiet (fail)
    obtain⟨U3,hU3⟩:=A8 (U2.drewN nq);rw [hU3];have bU3:Below U.heap.size U U3:=HU2.out.trans (hU3▸(asr _ _).mono HU2.out.size);have aba:=HRS.out.later bU3;have agT:=A3 aba;have abb:(LL[b]'hbL).1=S.pc:=CE.out.trans (hf.trans HPQ.out.symm);have HF:=A3 abb;clear hU3 bU3 aba u0' up' ux' dq1 dq2 db1 db2 lq2 l52 ls2 abb;go_upto_region 21 with fail;go_loopw [26] (fun a26 wr=>∃SC:Nat,SC≤ol∧a26=.int .i64 (SC:Int)∧MQ W8 wr sb nb tb (.slice (some ⟨g,0,none⟩) zn zn) sv (Kk L b Ah tk SC) i S m1 m2) (fun a26 _=>ol - (intOf a26).toNat);case atStart=>exact⟨0,by omega,rfl,by rw [auG];exact agT.out⟩
    obtain⟨SC,hj9,rfl,aaY⟩:=hrel;obtain⟨jV,hU4⟩:∃jV:World,jV=wr:=⟨_,rfl⟩;subst hU4;have⟨aaF,HB4⟩:=AQ aaY (VD.out.trans (aaY.bx.mono VD.out.size));clear aaY;by_cases hlj:SC<ol
    focus
     have dl2:decide ((SC:Int)<(ol:Int))=true:=Ac A0;have ani:decide (SC<ol)=true:=Ac hlj;have Al:(SC:Int)<(ol:Int):=by omega
     have din:decide ((ol:Int)≤(SC:Int))=false:=Ad A0;obtain⟨pb,po,x,A1,n1,cp1,A2,n2,cp2,p,TE,hpl,hx,c0,c1,c2,c3,EN,FN⟩:=IW.at_ Gh.out HB4.out (k:=SC) (by rw [N9.out];exact hlj);subst TE;have htl:(Kk L b Ah tk SC).length=ol:=by rw [qQ,HHD.out.tl,N9.out]
     have hkt:SC<tk.length:=by rw [HHD.out.tl,N9.out];exact hlj
     obtain⟨t9,ht9⟩:∃t,tk.getD SC 0=t:=⟨_,rfl⟩;have t0:0≤t9:=ht9▸HHD.out.nn SC;obtain⟨tc,tf⟩:=aaF.out.at_ (k:=SC) (by rw [htl];exact hlj);rw [eM _ _ _ _ _ hkt,A6 (Nat.lt_irrefl _),ht9] at tc;have⟨HXI,HI2,HKT,HT9⟩:=CU hx (FN.below HB4.out) hkt ht9;have ltb:=Ak aaF.out.t;have lpb:pb<jV.heap.size:=by have:=HB4.out.size;omega
     clear EN FN hx htl hkt ht9 c1 c3;by_cases FT:x.h=(b:Int)
     focus
      rw [FT] at c0;have HXH:=A3 FT;have dh:((b:Int) != (b:Int))=false:=by simp
      clear FT;by_cases hl0:0≤Ah
      focus
       have dl0:decide (0≤Ah)=true:=Ac hl0;by_cases hla:Ah∈x.la
       focus
        have aaS:=A3 (show Calls Tryz.prog 26 #[.slice A2 n2 cp2,.int .i64 Ah] jV fun e w'=>e=.returned (.bool true)∧jV=w' from (auc _ x.la Ah jV HI2.out).mono fun e w' ⟨h1,h2⟩=>⟨by rw [h1,Ac hla],h2⟩);obtain⟨hm9,hcx⟩:=HHD.out.hdr SC x HXI.out HF.out HXH.out hla;rw [HT9.out] at hm9;have hm1:=IM.out.mx SC;have wq:IntKind.i64.wrap (t9+1)=t9+1:=Dn _ A0;go_upto_region 25 with (go_at_call 26;refine aaS.out.mono ?_;rintro e' W6 ⟨rfl,rfl⟩);go_upto_region 26 with fail;have aaA:=aaF.out.put HJB.out (by have:=HNB.out;omega) HNB.out.2.1 SC (t9+1);obtain⟨ew,hU5⟩:=A8 (jV.setCell ⟨tb,SC,none⟩ (.int .i64 (t9+1)));rw [hU5] at aaA ⊢;have aaO:(Kk L b Ah tk SC).length=tk.length:=qQ ..;obtain⟨te,-⟩:=aaA.at_ (k:=SC) (by rw [LB,aaO];exact HKT.out);rw [show ((Kk L b Ah tk SC).set SC (t9+1)).getD SC 0=t9+1 by simp [List.getD,Gv,aaO,HKT.out]] at te;rw [←HT9.out,← aaX HXH.out hla,aeA L b Ah tk HXI.out HKT.out] at aaA;obtain⟨mb,DG,hOA,hml,mc⟩:=aaN HMS.out auo.out aaA.bx hlj;subst hOA;obtain⟨ZG,hM9⟩:∃M,Ms.getD SC 0=M:=⟨_,rfl⟩;rw [hM9] at mc hm9;have Yg:mb<ew.heap.size:=by have:=aaA.bx.size;omega
        have alM:=Ak aaA.t;have dgt:decide (ZG<t9+1)=false:=Ad A0;have aaG:=A3 aaA;clear hU5 aaA aaO tc tf hm9 hcx hm1 wq aaS;go_quiet (fail)
        obtain⟨gR,hU6⟩:=A8 (ew.drewN nq);rw [hU6];have agS:=A3 (aaG.out.later (hU6▸asr ew nq));clear hU6 te mc;go_wp2_with fail;go_roundw;case rel=>exact⟨SC+1,by omega,by go_num,agS.out⟩
        case measure=>exact Ai
       focus
        have aaS:=A3 (show Calls Tryz.prog 26 #[.slice A2 n2 cp2,.int .i64 Ah] jV fun e w'=>e=.returned (.bool false)∧jV=w' from (auc _ x.la Ah jV HI2.out).mono fun e w' ⟨h1,h2⟩=>⟨by rw [h1,Ad hla],h2⟩);have aaA:=aaF.out.put HJB.out (by have:=HNB.out;omega) HNB.out.2.1 SC 0;rw [←aaE (t:=tk.getD SC 0) HXH.out hla,aeA L b Ah tk HXI.out HKT.out,aaE HXH.out hla] at aaA;have aaG:=A3 aaA;clear aaA;go_upto_region 28 with (go_at_call 26;refine aaS.out.mono ?_;rintro e' W6 ⟨rfl,rfl⟩);go_wp2_with fail;go_roundw;case rel=>exact⟨SC+1,by omega,by go_num,aaG.out⟩
        case measure=>exact Ai
      focus
       have dl0:decide (0≤Ah)=false:=Ad hl0;have hla:Ah∉x.la:=fun h=>hl0 (IM.out.ln x (Bj HXI.out) Ah h);have aaA:=aaF.out.put HJB.out (by have:=HNB.out;omega) HNB.out.2.1 SC 0;rw [←aaE (t:=tk.getD SC 0) HXH.out hla,aeA L b Ah tk HXI.out HKT.out,aaE HXH.out hla] at aaA;have aaG:=A3 aaA;clear aaA;go_upto_region 28 with fail;go_wp2_with fail;go_roundw;case rel=>exact⟨SC+1,by omega,by go_num,aaG.out⟩
       case measure=>exact Ai
     focus
      have dh:(x.h != (b:Int))=true:=by simpa using FT
      have aaA:=aaF.out;rw [auW L b Ah tk HXI.out HKT.out FT] at aaA;have aaG:=A3 aaA;clear aaA;go_wp2_with fail;go_roundw;case rel=>exact⟨SC+1,by omega,by go_num,aaG.out⟩
      case measure=>exact Ai
    focus
     obtain rfl:ol=SC:=by omega
     have dl2:decide ((ol:Int)<(ol:Int))=false:=by simp
     go_upto_region 29 with fail;obtain⟨tkk,Dx⟩:∃t,Kk L b Ah tk ol=t:=⟨_,rfl⟩;have Iu:=A3 (show S.hal=false→Po cd DD LL s L Ms S.pc S.r b tkk from fun e=>by
      have h:=HHD.out;rw [e] at h;have h2:=h.upd HF.out;rw [N9.out,Dx] at h2
      exact h2)
     rw [Dx] at aaF;obtain⟨K0,hK0⟩:∃K:World,K=jV:=⟨_,rfl⟩;subst hK0;have HRK:=aaF;clear Dx aaF HB4 hj9
   rotate_left
   focus
    have dq1:(x0==pq)=false:=by simpa using hf
    have dq2:decide (x0=pq)=false:=Ad hf;go_quiet (fail)
    obtain⟨K0,hK0⟩:=A8 (U2.drewN nq);rw [hK0];have HRK:=A3 (HRS.out.later (hK0▸HU2.out.trans ((asr _ _).mono HU2.out.size)));obtain⟨tkk,Dx⟩:∃t,tk=t:=⟨_,rfl⟩;have Iu:=A3 (show S.hal=false→Po cd DD LL s L Ms S.pc S.r b tkk from fun e=>by
     have h:=HHD.out;rw [e] at h;have h2:=h.aup (fun e9=>hf (CE.out.symm.trans (e9.trans HPQ.out)));rw [Dx] at h2
     exact h2)
    rw [Dx] at HRK;clear hK0 Dx u0' up' ux' dq1 dq2 db1 db2 lq2 l52 ls2;go_upto_region 29 with fail
   all_goals
    have HYK:=A3 (VD.out.trans (HRK.out.bx.mono VD.out.size));have k0:K0.cell? ⟨q2,0,none⟩=_:=(HYK.out.cell (p:=⟨q2,0,none⟩) i4).trans i0;have k1:K0.cell? ⟨q2,1,none⟩=_:=(HYK.out.cell (p:=⟨q2,1,none⟩) i4).trans i1;have k2:K0.cell? ⟨q2,2,none⟩=_:=(HYK.out.cell (p:=⟨q2,2,none⟩) i4).trans i2;have k3:K0.cell? ⟨q2,3,none⟩=_:=(HYK.out.cell (p:=⟨q2,3,none⟩) i4).trans i3;have Vv:q2<K0.heap.size:=by have:=HYK.out.size;omega
    have hVK:Below V.heap.size V K0:=RR.out.trans (HYK.out.mono RR.out.size);have kin:=(hVK.block _ (Ak K3.out)).trans K3.out;have hib:K0.cell? ⟨q3,0,none⟩=some (.slice iA il.length qA):=by simp [World.cell?,kin]
    obtain⟨q,qq1,qq2,qq3⟩:=HRK.out.n;have abd:V.heap.size≤nb:=by have:=RR.out.size;have:=VD.out.size;have:=HNB.out.1;omega
    have HPT:=auR HIV.out (by have:=HHL.out.2;omega) hVK abd qq1 A0 qq3 hib (Ak kin) (by have:=Ak K3.out;omega);have HSP:=A3 (aub (.slice CA n Dv) (.slice EA m CV) sh lk n cd AO k en sb S m1 sv m2 _ (· = nb) (uM nb q) K0 (TV.out.below hVK) (OTV.out.below hVK) (PO.out.j6 hVK) A0 (Tx.out.below hVK) HG.out.he HRK.out.j HPT (fun k hk=>by rw [HRK.out.d] at hk;exact (HJB.out k hk).2.1));unfold uj at HSP;have aa0:=A3 (Eg qq1 (Eg qq2 qq3));clear hVK kin hib qq1 qq2 qq3 HPT abd;go_upto_region 31 with (first|(go_at_call 27;refine HSP.out.mono ?_;rintro e' W5 (⟨er,hne,rfl,hb5⟩|⟨nx,tkv,ad,vl,s',DN,sl',hh0,hl1,hl2,hdz,hok,-,rfl,hJ',hfr,hor⟩))|(refine Bk rfl 88 (.tmp 27) (.tmp 166) rfl W5.heap.size #[.int .u8 0,.int .i64 0,.int .i64 0,.int .i64 0,.int .i64 0,.int .i64 0,.bool false,.int .i64 0,.int .i32 0] rfl rfl 88 _ (AY _ _) A4 rfl Bd ?_)|(refine Bk rfl 88 (.tmp 27) (.tmp 166) rfl W5.heap.size (yx (AK cd S.pc) S.pc tkv ad vl).toArray rfl rfl 88 _ (AY _ _) A4 rfl (by simp [yx,Value.oneCell']) ?_));case _=>
     have gz:(er != 0)=true:=by simpa using hne
     rw [World.setRow_alloc_new];have aaQ:=BY.out.trans ((HYK.out.trans (hb5.mono HYK.out.size)).mono BY.out.size);go_wp2_with fail;go_ret;exact⟨rfl,aaQ.alloc (by have:=aaQ.size;omega) _⟩
    case _=>
     rw [World.setRow_alloc_new];obtain⟨W6,P6⟩:=A8 (W5.alloc (.cells (yx (AK cd S.pc) S.pc tkv ad vl).toArray 88));have b6:Below W5.heap.size W5 W6:=P6▸(AV _ _).alloc (AH _) _;rw [P6];clear P6;have HR6:=A3 ((HRK.out.step HJB.out HNB.out.1 (by have:=HNB.out;omega) aa0.out.1 aa0.out.2.1 aa0.out.2.2 hok hJ' hfr hor).later b6);obtain⟨kn,abf⟩:=IM.out.step (Iu.out hh0) HRK.out.j.m.len (fun k=>l9 HRK.out.j.m.wd k) HRK.out.j.dw HRK.out.j.sw hh0 hok;have HH2:=A3 abf;clear hJ' hfr hor b6 hok hl1 hl2 hdz abf HSP;go_wp2_with fail;go_roundw;case rel=>exact⟨i+1,kn,_,DN,sl',tkk,(b:Int),by omega,by go_num,rfl,HH2.out,HR6.out⟩
     case measure=>exact Ai
  ·obtain rfl:i=1500:=by omega
   have dl5:decide ((1500:Int)<1500)=false:=by decide
   have aaQ:=BY.out.trans ((VD.out.trans (GV.bx.mono VD.out.size)).mono BY.out.size);clear E5 GV;go_wp2_with fail;go_ret;exact⟨rfl,aaQ⟩
end Go.Proofs.YtlmgkipmfgijiaaGreatDoor
