/-
  What is proved here: parts lRw.
-/
import Derived.Test.YtlmgkipmfgijiaaGreatDoorVa
import Derived.Test.YtlmgkipmfgijiaaGreatDoorVx
import Derived.Test.YtlmgkipmfgijiaaGreatDoorVF
import Derived.Test.YtlmgkipmfgijiaaGreatDoorVE
import Derived.Test.YtlmgkipmfgijiaaGreatDoorVu
import Derived.Test.YtlmgkipmfgijiaaGreatDoorVv
import Derived.Test.YtlmgkipmfgijiaaGreatDoorVr
import Derived.Test.YtlmgkipmfgijiaaGreatDoorVb
import Derived.Test.YtlmgkipmfgijiaaGreatDoorVd
import Derived.BigRegion
import Derived.BigQuiet
import Derived.Deep.RegionHeld3
namespace Go.Proofs.YtlmgkipmfgijiaaGreatDoor
set_option linter.unusedVariables false
set_option linter.unusedSimpArgs false
set_option maxRecDepth 100000
set_option maxHeartbeats 8000000
open Go.RowKit
section
open Go.ChangeShapes Go.WideShapes Go.ChangeAt
theorem aaA (cv ev:Value) (sh lk:Int) (n:Nat) (cd:Nat→Int) (AU:List CP) (task:Int) (w:World) (T:C8 w) (HW:Mr w cv n cd) (HE:Il w ev AU) :
  Calls Tryz.prog 12 #[.agg #[cv,ev,.int .i64 sh,.int .i64 lk],.int .i64 task] w fun e w'=>(∃GA gn gc PA pn pc at_ er,e=.returned (.tuple #[.agg #[.slice GA gn gc,.slice PA pn pc],.int .i64 at_,.int .i64 er]))∧Below w.heap.size w w':=by
 by_cases hn:n≤1000000
 ·refine (oM cv ev sh lk n cd AU task w T (HW.words hn) HE).mono fun e w' ⟨h,hb⟩=>⟨?_,hb⟩
  rcases h with⟨-,hy⟩|⟨-,hno⟩
  ·obtain⟨k,en,G,P,GA,PA,gc,pc,-,-,rfl,-⟩:=hy
   exact⟨_,_,_,_,_,_,_,_,rfl⟩
  ·obtain⟨at_,er,-,rfl⟩:=hno
   exact⟨_,_,_,_,_,_,_,_,rfl⟩
 ·obtain⟨CA,Cp,rfl,-,-,-⟩:=HW.at_
  obtain⟨EA,Cz,rfl,-,-,-⟩:=HE.at_;exact (aaD CA EA n Cp _ Cz sh lk task A0 w).mono fun e w' ⟨h,hb⟩=>⟨⟨_,_,_,_,_,_,_,_,h⟩,hb⟩
theorem aay {P:Program} {f:FuncId} {args:Array Value} {w:World} {R:Ending→World→Prop} (h:Calls P f args w R):∃e w',R e w':=by
 obtain⟨e,w',fr,h1,-⟩:=h [];exact⟨e,w',h1⟩
theorem aaO {n:Nat} {cd:Nat→Int} {AU:List CP} {sh lk:Int} {k:Nat} {en:CP} {G:List AV} {P:List (List Int)} (g:Cv n cd AU sh lk k en G P) (hw:∀i,i<n→0≤cd i∧cd i<4294967296) (hn:G.length≤5000) {D:List Int} (hT:Ff G D) {x:Lp} (hr:Kc G.length x=true) (A8:Int) :
  ((Ji A8 (Fj A8 (DY x.bl) (Mf (G.map (·.nx)) D x.h.toNat x.bl x.la) (FC cd G) G.length)).2=(EJ n cd G P x A8).2∧((EJ n cd G P x A8).2=true→(Ji A8 (Fj A8 (DY x.bl) (Mf (G.map (·.nx)) D x.h.toNat x.bl x.la) (FC cd G) G.length)).1=(EJ n cd G P x A8).1)∧((EJ n cd G P x A8).2=false→(EJ n cd G P x A8).1=0))∧(∃hd:Nat,x.h=(hd:Int)∧hd<G.length)∧∀t∈x.la,∃u:Nat,t=(u:Int)∧u∈CR G.length (Ar G):=by
 obtain⟨h1,h2,h3⟩:=nQ hr;have e:EJ n cd G P x A8=Dr cd G x A8:=by
  unfold EJ;rw [AE ⟨g.val,g.Na,hr⟩]
 refine⟨?_,h1,fun t ht=>?_⟩
 ·rw [e]
  refine aoK hw (fun y hy=>by have:=g.Zj y hy;have:=g.range;omega) g.Na (hT.eq g.val hn) x (fun t ht=>?_) A8;have h4:=Ma.1 h2 t ht;simp only [EY,DK] at h4;exact h4
 ·have h4:=Ma.1 h3 t ht
  simp only [EY,DK] at h4;exact⟨t.toNat,by omega,g.Zo hn _ A0⟩
section
variable {H:Type} {enc:TypeId×Value→H} {w:World} {base:Nat} {spare:Nat→Bool} {held:Bool}
theorem aaC:Tryz.prog.cellsOf 46=4:=by kernel_rfl
theorem arE {r:Reach} {b0:Nat} {v:Value} {d:DataW H} {p:List MemPlace} (hv:Value.okWide Tryz.prog w r b0 46 v) (h:DataW.Trod enc Tryz.prog w base spare held 46 v d p) :
  ∃(hd:Int) (ua ub:Value) (pr:Int) (bl la:List Int),v=.agg #[.int .i64 hd,ua,ub,.int .i64 pr]∧Ints w ua bl∧Ints w ub la:=by
 obtain⟨cs,rfl,hsz⟩:=okWide_struct Tryz.underlying46 hv;obtain⟨c0,c1,c2,c3,rfl⟩:=array4 (hsz.trans aaC);obtain⟨fuel,hf⟩:=h;obtain⟨y0,y1,y2,y3,n,g0,g1,g2,g3⟩:=trod_struct4 Tryz.underlying46 hf;simp only [Value.cells,ja,acG,List.drop_zero,Er,Ew,List.take_zero] at g0 g1 g2 g3;obtain⟨z0,e0,_,_⟩:=NC CS g0;obtain⟨bv,bl,e1,hb,_⟩:=qC g1;obtain⟨lv,la,e2,hl,_⟩:=qC g2;obtain⟨z3,e3,_,_⟩:=NC CS g3;simp at e0 e1 e2 e3;subst e0 e1 e2 e3;exact⟨z0,c1,c2,z3,bl,la,rfl,hb,hl⟩
end
theorem acO {w W:World} {q b p:Nat} {x0 x1 x2 x3 y0 y1 z0 z1 z2 z3:Value} (h:Below w.heap.size w W) (hq:q<w.heap.size) (hp:p<w.heap.size) (hb:b<w.heap.size) (e0:w.cell? ⟨q,0,none⟩=some x0) (e1:w.cell? ⟨q,1,none⟩=some x1) (e2:w.cell? ⟨q,2,none⟩=some x2) (e3:w.cell? ⟨q,3,none⟩=some x3) (g0:w.cell? ⟨p,0,none⟩=some z0) (g1:w.cell? ⟨p,1,none⟩=some z1) (g2:w.cell? ⟨p,2,none⟩=some z2) (g3:w.cell? ⟨p,3,none⟩=some z3) (f0:w.cell? ⟨b,0,none⟩=some y0) (f1:w.cell? ⟨b,1,none⟩=some y1) :
  (W.cell? ⟨q,0,none⟩=some x0∧W.cell? ⟨q,1,none⟩=some x1∧W.cell? ⟨q,2,none⟩=some x2∧W.cell? ⟨q,3,none⟩=some x3)∧(W.cell? ⟨p,0,none⟩=some z0∧W.cell? ⟨p,1,none⟩=some z1∧W.cell? ⟨p,2,none⟩=some z2∧W.cell? ⟨p,3,none⟩=some z3)∧(W.cell? ⟨b,0,none⟩=some y0∧W.cell? ⟨b,1,none⟩=some y1)∧q<W.heap.size∧p<W.heap.size∧b<W.heap.size:=
 ⟨⟨(h.cell (p:=⟨q,0,none⟩) hq).trans e0,(h.cell (p:=⟨q,1,none⟩) hq).trans e1,(h.cell (p:=⟨q,2,none⟩) hq).trans e2,(h.cell (p:=⟨q,3,none⟩) hq).trans e3⟩,⟨(h.cell (p:=⟨p,0,none⟩) hp).trans g0,(h.cell (p:=⟨p,1,none⟩) hp).trans g1,(h.cell (p:=⟨p,2,none⟩) hp).trans g2,(h.cell (p:=⟨p,3,none⟩) hp).trans g3⟩,⟨(h.cell (p:=⟨b,0,none⟩) hb).trans f0,(h.cell (p:=⟨b,1,none⟩) hb).trans f1⟩,Cq hq h.size,Cq hp h.size,Cq hb h.size⟩
theorem aiI (AZ:WV) (cv ev:Value) (sh lk:Int) (n:Nat) (cd:Nat→Int) (AU:List CP) (task:Int) (hd:Int) (v1 v2:Value) (p:Int) (bl la:List Int) (A8:Int) (w:World) (T:C8 w) (HW:Mr w cv n cd) (HE:Il w ev AU) (H1:Ints w v1 bl) (H2:Ints w v2 la) :
  Calls Tryz.prog 4 #[.agg #[cv,ev,.int .i64 sh,.int .i64 lk],.int .i64 task,.agg #[.int .i64 hd,v1,v2,.int .i64 p],.int .i64 A8] w fun e w'=>e=.returned (.bool true)∧Below w.heap.size w w':=by
 obtain⟨CA,Cp,hcv,hc1,hc2,-⟩:=HW.at_;obtain⟨EA,Cz,hev,-,-,-⟩:=HE.at_;subst hcv hev;obtain⟨m,hm⟩:=AA AU.length;rw [hm] at HE ⊢;obtain⟨A1,cp1,hv1,h11,h12,-⟩:=id H1;obtain⟨A2,cp2,hv2,h21,h22,-⟩:=id H2;subst hv1 hv2;obtain⟨m1,hm1⟩:∃k,bl.length=k:=⟨_,rfl⟩;obtain⟨m2,hm2⟩:∃k,la.length=k:=⟨_,rfl⟩;rw [hm1] at H1 h11 ⊢;rw [hm2] at H2 h21 ⊢;have akV:=Oo h12;have akU:=Oo h22;obtain⟨x,hx⟩:∃x:Lp,(⟨hd,bl,la⟩:Lp)=x:=⟨_,rfl⟩;have HXX:=A3 (show x.h=hd∧x.bl=bl∧x.la=la by rw [←hx];exact⟨rfl,rfl,rfl⟩);have Nu:=A3 (Dt hm1 hm2);obtain⟨V,hV,k4,k6,bV,sV⟩:=Pm w #[.slice CA n Cp,.slice EA m Cz,.int .i64 sh,.int .i64 lk] #[.int .i64 hd,.slice A1 m1 cp1,.slice A2 m2 cp2,.int .i64 p] 25 46;obtain⟨q4,hq4⟩:∃q,w.heap.size=q:=⟨_,rfl⟩;obtain⟨q6,hq6⟩:∃q,q4+1=q:=⟨_,rfl⟩;rw [hq4,hq6] at k6;rw [hq4] at k4;have HAW:=A3 (xS AZ V (T.below bV));have BV:=A3 bV;have K4:=A3 k4;have K6:=A3 k6;have TV:=A3 (T.below bV);have Pk:=A3 (HW.lF bV);have VZ:=A3 (HE.below bV);have H1V:=A3 (H1.below bV);have Uc:=A3 (H2.below bV);have l4:q4<V.heap.size:=BR k4;have l6:q6<V.heap.size:=BR k6;clear bV k4 k6 T HW HE H1 H2 hm hx hm1 hm2 h12 h22 sV;go_enter Tryz.func4,Tryz.ntmps4;go_wp2_with fail;refine HAW.out.mono ?_;rintro e W1 ⟨rfl,hb1⟩;have B1:=A3 hb1;obtain⟨a0,a1,a2,a3,a4⟩:=Ep ((hb1.block q4 l4).trans K4.out);obtain⟨b0,b1,b2,b3,b4⟩:=Ep ((hb1.block q6 l6).trans K6.out);have IV:=A3 (BV.out.trans (hb1.mono BV.out.size));have aG:=A3 (fun (W:World) (h:Below W1.heap.size W1 W)=>aqs (.slice CA n Cp) (.slice EA m Cz) sh lk n cd AU W (Pk.out.lF (B1.out.trans (h.mono B1.out.size))) (VZ.out.below (B1.out.trans (h.mono B1.out.size))));clear hb1 hV hq4 hq6;by_cases hsm:dQ n AU sh;case neg=>
  have J7:=A3 (aaA (.slice CA n Cp) (.slice EA m Cz) sh lk n cd AU task W1 (TV.out.below B1.out) (Pk.out.lF B1.out) (VZ.out.below B1.out));rw [show VE n AU sh=0 by unfold VE;rw [A9 hsm]] at aG;clear hsm;go_upto_region 4 with (go_at_call 12;refine J7.out.mono ?_;rintro e W2 ⟨⟨GA,gn,gc,PA,pn,pc,at_,er,rfl⟩,hb2⟩);obtain⟨X,hX⟩:=AA (W2.alloc (.cells #[.slice GA gn gc,.slice PA pn pc] 31));(try rw [hX]);have bX:Below W2.heap.size W2 X:=hX▸(AP _ _).alloc (AH _) _;have b1X:=hb2.trans (bX.mono hb2.size);have HSX:=A3 (aG.out X b1X);have BX:=A3 (IV.out.trans (b1X.mono IV.out.size));have x0:=(b1X.cell (p:=⟨q4,0,none⟩) a4).trans a0;have x1:=(b1X.cell (p:=⟨q4,1,none⟩) a4).trans a1;have x2:=(b1X.cell (p:=⟨q4,2,none⟩) a4).trans a2;have x3:=(b1X.cell (p:=⟨q4,3,none⟩) a4).trans a3;have x4:q4<X.heap.size:=Cq a4 b1X.size;clear hb2 bX b1X hX a0 a1 a2 a3 b0 b1 b2 b3;go_wp2_with (go_at_call 11;refine HSX.out.mono ?_;rintro e W3 ⟨rfl,hb3⟩);go_ret;exact⟨rfl,BX.out.trans (hb3.mono BX.out.size)⟩
 have aro:=hsm.1;rw [show VE n AU sh=1 by unfold VE;rw [AE hsm]] at aG;have HWW:=A3 ((Pk.out.lF B1.out).words A0);have J7:=A3 (oM (.slice CA n Cp) (.slice EA m Cz) sh lk n cd AU task W1 (TV.out.below B1.out) HWW.out (VZ.out.below B1.out));clear hsm;go_wp2_with fail;refine J7.out.mono ?_;rintro e W2 ⟨h,hb2⟩;have B12:=A3 hb2;have WL:=A3 (IV.out.trans (hb2.mono IV.out.size));rcases h with⟨-,hy⟩|⟨-,hno⟩;case inr=>
  obtain⟨at_,er,her,rfl⟩:=hno;have der:(er != 0)=true:=by simpa using her
  clear her;go_upto_region 4 with fail;obtain⟨X,hX⟩:=AA (W2.alloc (.cells #[.slice none 0 0,.slice none 0 0] 31));(try rw [hX]);have bX:Below W2.heap.size W2 X:=hX▸(AP _ _).alloc (AH _) _;have b1X:=hb2.trans (bX.mono hb2.size);have HSX:=A3 (aG.out X b1X);have BX:=A3 (IV.out.trans (b1X.mono IV.out.size));have x0:=(b1X.cell (p:=⟨q4,0,none⟩) a4).trans a0;have x1:=(b1X.cell (p:=⟨q4,1,none⟩) a4).trans a1;have x2:=(b1X.cell (p:=⟨q4,2,none⟩) a4).trans a2;have x3:=(b1X.cell (p:=⟨q4,3,none⟩) a4).trans a3;have x4:q4<X.heap.size:=Cq a4 b1X.size;clear hb2 bX b1X hX a0 a1 a2 a3 b0 b1 b2 b3;go_wp2_with (go_at_call 11;refine HSX.out.mono ?_;rintro e W3 ⟨rfl,hb3⟩);go_ret;exact⟨rfl,BX.out.trans (hb3.mono BX.out.size)⟩
 obtain⟨k,en,G,P,GA,PA,gc,pc,rfl,hg,rfl,hGb,hPl,-⟩:=hy;obtain⟨gn,hgn⟩:∃m,G.length=m:=⟨_,rfl⟩;obtain⟨pn,Gz⟩:∃m,P.length=m:=⟨_,rfl⟩;have bg:=hg.len;rw [hgn,Gz];have HG:=A3 hg;have Cj:=A3 hgn;rw [hgn] at hGb bg;rw [Gz] at hPl;go_upto_region 4 with fail;obtain⟨q9,hq9⟩:∃q,W2.heap.size=q:=⟨_,rfl⟩;obtain⟨X,hX⟩:=AA (W2.alloc (.cells #[.slice GA gn gc,.slice PA pn pc] 31));(try rw [hX]);(try rw [hq9]);have bX:Below W2.heap.size W2 X:=hX▸(AP _ _).alloc (AH _) _;have kX:X.heap[q9]?=some (.cells #[.slice GA gn gc,.slice PA pn pc] 31 (0,0)):=by rw [←hq9,← hX];exact Ai _ _
 have b1X:=hb2.trans (bX.mono hb2.size);have B1X:=A3 b1X;have HGX:=A3 (hGb.below bX);have HPX:=A3 (hPl.below bX);have HSX:=A3 (aG.out X b1X);have BX:=A3 (IV.out.trans (b1X.mono IV.out.size));have g0:X.cell? ⟨q9,0,none⟩=some (.slice GA gn gc):=by simp [World.cell?,kX]
 have g1:X.cell? ⟨q9,1,none⟩=some (.slice PA pn pc):=by simp [World.cell?,kX]
 have x0:=(b1X.cell (p:=⟨q4,0,none⟩) a4).trans a0;have x1:=(b1X.cell (p:=⟨q4,1,none⟩) a4).trans a1;have x2:=(b1X.cell (p:=⟨q4,2,none⟩) a4).trans a2;have x3:=(b1X.cell (p:=⟨q4,3,none⟩) a4).trans a3;have y0:=(b1X.cell (p:=⟨q6,0,none⟩) b4).trans b0;have y1:=(b1X.cell (p:=⟨q6,1,none⟩) b4).trans b1;have y2:=(b1X.cell (p:=⟨q6,2,none⟩) b4).trans b2;have y3:=(b1X.cell (p:=⟨q6,3,none⟩) b4).trans b3;have x4:q4<X.heap.size:=Cq a4 b1X.size;have y4:q6<X.heap.size:=Cq b4 b1X.size;have g4:q9<X.heap.size:=BR kX;have FX:=A3 (fun (W:World) (h:Below X.heap.size X W)=>acO h x4 y4 g4 x0 x1 x2 x3 y0 y1 y2 y3 g0 g1);clear hb2 bX b1X hX kX hGb hPl hg hgn Gz hq9 a0 a1 a2 a3 b0 b1 b2 b3 J7;have HTX:=A3 (TV.out.below (B1.out.trans (B1X.out.mono B1.out.size)));have HWX:=A3 (HWW.out.below B1X.out);have H1X:=A3 (H1V.out.below (B1.out.trans (B1X.out.mono B1.out.size)));have H2X:=A3 (Uc.out.below (B1.out.trans (B1X.out.mono B1.out.size)));by_cases h20:20<gn
 ·have d20:decide ((20:Int)<(gn:Int))=true:=AR A0
  clear h20;go_upto_region 5 with (go_at_call 11;refine HSX.out.mono ?_;rintro e W3 ⟨rfl,hb3⟩;obtain⟨⟨s0,s1,s2,s3⟩,⟨t0,t1,t2,t3⟩,⟨u0,u1⟩,s4,t4,u4⟩:=FX.out W3 hb3);go_wp2_with fail;go_ret;exact⟨rfl,BX.out.trans (hb3.mono BX.out.size)⟩
 have d20:decide ((20:Int)<(gn:Int))=false:=Aq A0;by_cases h40:40<m1
 ·have d40:decide ((40:Int)<(m1:Int))=true:=AR A0
  clear h20 h40;go_upto_region 5 with (go_at_call 11;refine HSX.out.mono ?_;rintro e W3 ⟨rfl,hb3⟩;obtain⟨⟨s0,s1,s2,s3⟩,⟨t0,t1,t2,t3⟩,⟨u0,u1⟩,s4,t4,u4⟩:=FX.out W3 hb3);go_wp2_with fail;go_ret;exact⟨rfl,BX.out.trans (hb3.mono BX.out.size)⟩
 have d40:decide ((40:Int)<(m1:Int))=false:=Aq A0;by_cases h41:40<m2
 ·have d41:decide ((40:Int)<(m2:Int))=true:=AR A0
  clear h20 h40 h41;go_upto_region 5 with (go_at_call 11;refine HSX.out.mono ?_;rintro e W3 ⟨rfl,hb3⟩;obtain⟨⟨s0,s1,s2,s3⟩,⟨t0,t1,t2,t3⟩,⟨u0,u1⟩,s4,t4,u4⟩:=FX.out W3 hb3);go_wp2_with fail;go_ret;exact⟨rfl,BX.out.trans (hb3.mono BX.out.size)⟩
 have d41:decide ((40:Int)<(m2:Int))=false:=Aq A0;obtain⟨e0,w0,⟨⟨tv,D,-,-,hT⟩,-⟩⟩:=aay (wL (.slice GA gn gc) (.slice PA pn pc) G P X HGX.out HPX.out HG.out.val KN);have HT:=A3 hT;clear hT;go_upto_region 6 with (go_at_call 11;refine HSX.out.mono ?_;rintro e W3 ⟨rfl,hb3⟩;obtain⟨⟨s0,s1,s2,s3⟩,⟨t0,t1,t2,t3⟩,⟨u0,u1⟩,s4,t4,u4⟩:=FX.out W3 hb3);clear x0 x1 x2 x3 y0 y1 y2 y3 g0 g1;have Tx:=A3 hb3;have ET:=A3 (show Calls Tryz.prog 14 #[.agg #[.slice GA gn gc,.slice PA pn pc],.agg #[.int .i64 hd,.slice A1 m1 cp1,.slice A2 m2 cp2,.int .i64 p]] W3 fun e w'=>(∃FA TA NA fc tc nc,e=.returned (.tuple #[.agg #[.slice FA gn fc,.slice TA gn tc,.slice NA gn nc],.agg #[.int .i64 hd,.slice A1 m1 cp1,.slice A2 m2 cp2]])∧Gs W3.heap.size X w' G gn (.slice FA gn fc) (.slice TA gn tc) (.slice NA gn nc))∧Below W3.heap.size W3 w' from by
  have h:=zz (.slice GA gn gc) (.slice PA pn pc) G P gn x p A1 A2 m1 cp1 m2 cp2 X W3 hb3 HGX.out HPX.out Cj.out A0;rw [HXX.out.1] at h
  exact h)
 clear hb3;go_upto_region 7 with (go_at_call 14;refine ET.out.mono ?_;rintro e W5 ⟨⟨FA,TA,NA,fc,tc,nc,rfl,Fz⟩,hb5⟩);obtain⟨Y,hY,kp,kq,bY,sY⟩:=Pm W5 #[.slice FA gn fc,.slice TA gn tc,.slice NA gn nc] #[.int .i64 hd,.slice A1 m1 cp1,.slice A2 m2 cp2] 40 42;rw [hY];obtain⟨bp,hbp⟩:∃q,W5.heap.size=q:=⟨_,rfl⟩;obtain⟨bq,hbq⟩:∃q,bp+1=q:=⟨_,rfl⟩;rw [hbp,hbq] at kq;rw [hbp] at kp;rw [hbp,hbq];have HBY:=A3 (Tx.out.trans ((hb5.trans (bY.mono hb5.size)).mono Tx.out.size));have KP:=A3 kp;have KQ:=A3 kq;obtain⟨iF,iT,iN⟩:=(Fz.below bY).out Cj.out A0 HBY.out;have IF:=A3 iF;have IT:=A3 iT;have IN:=A3 iN;clear hY kp kq bY sY Fz hb5 iF iT iN s0 s1 s2 s3 t0 t1 t2 t3 u0 u1 s4 t4 u4;have HLI:=A3 (show Ints X (.slice A1 m1 cp1) x.bl∧Ints X (.slice A2 m2 cp2) x.la from by rw [HXX.out.2.1,HXX.out.2.2];exact⟨H1X.out,H2X.out⟩);obtain⟨R,hR⟩:=AA (EJ n cd G P x A8);have P0:=A3 (show Calls Tryz.prog 15 #[.agg #[.slice CA n Cp,.slice EA m Cz,.int .i64 sh,.int .i64 lk],.agg #[.slice GA gn gc,.slice PA pn pc],.agg #[.int .i64 hd,.slice A1 m1 cp1,.slice A2 m2 cp2,.int .i64 p],.int .i64 A8] Y fun e w'=>e=.returned (.tuple #[.int .i64 R.1,.bool R.2])∧Below Y.heap.size Y w' from by
  have h:=wj (.slice CA n Cp) (.slice EA m Cz) (.slice GA gn gc) (.slice PA pn pc) sh lk n cd G P Y (HTX.out.below HBY.out) (HWX.out.below HBY.out) (HGX.out.below HBY.out) (HPX.out.below HBY.out) KN (fun y hy=>by have:=HG.out.nx2 y hy;omega) x p (.slice A1 m1 cp1) (.slice A2 m2 cp2) (HLI.out.1.below HBY.out) (HLI.out.2.below HBY.out) (by have:=Nu.out;rw [HXX.out.2.2];omega) (fun _=>HG.out.Zo KN) A8;rw [hR,HXX.out.1] at h
  exact h)
 have LZ:=A3 hR;obtain⟨vb,kb⟩:=R;clear hR;obtain⟨⟨s0,s1,s2,s3⟩,⟨t0,t1,t2,t3⟩,⟨u0,u1⟩,s4,t4,u4⟩:=FX.out Y HBY.out;go_upto_region 8 with (go_at_call 15;refine P0.out.mono ?_;rintro e W7 ⟨rfl,hb7⟩);have HB7:=A3 hb7;have aax:=A3 (HBY.out.trans (hb7.mono HBY.out.size));clear hb7 s0 s1 s2 s3 t0 t1 t2 t3 u0 u1 s4 t4 u4;obtain⟨⟨s0,s1,s2,s3⟩,-,-,s4,-,-⟩:=FX.out W7 aax.out;obtain⟨pa,pb,pc',-,-,-⟩:=Gb ((HB7.out.block bp (BR KP.out)).trans KP.out);obtain⟨qa,qb,Y0,-,-,-⟩:=Gb ((HB7.out.block bq (BR KQ.out)).trans KQ.out);have N2:=A3 (show Calls Tryz.prog 18 #[.slice CA n Cp,.agg #[.slice FA gn fc,.slice TA gn tc,.slice NA gn nc],.agg #[.int .i64 hd,.slice A1 m1 cp1,.slice A2 m2 cp2]] W7 fun e w'=>e=.returned (.bool (Kc gn x))∧Below W7.heap.size W7 w' from by
  have h:=aaB (.slice CA n Cp) FA TA NA A1 A2 gn fc tc nc m1 cp1 m2 cp2 n cd G x W7 (HWX.out.below aax.out) Cj.out A0 (IF.out.below HB7.out) (IT.out.below HB7.out) (IN.out.below HB7.out) (fun y hy=>by have:=HG.out.Zj y hy;have:=HG.out.range;omega) HG.out.Na (HLI.out.1.below aax.out) (HLI.out.2.below aax.out) A0 A0;rw [HXX.out.1] at h
  exact h)
 obtain⟨rf,hrf⟩:∃b,Kc gn x=b:=⟨_,rfl⟩;rw [hrf] at N2;cases rf with
 | false=>
  obtain⟨rfl,rfl⟩:vb=0∧kb=false:=by
   have h:=LZ.out;unfold EJ at h;rw [A9 (by rw [Cj.out,hrf];simp)] at h;exact⟨(congrArg (·.1) h).symm,(congrArg (·.2) h).symm⟩
  clear hrf;go_wp2_with (go_at_call 18;refine N2.out.mono ?_;rintro e W8 ⟨rfl,hb8⟩);go_ret;exact⟨rfl,BX.out.trans ((aax.out.trans (hb8.mono aax.out.size)).mono BX.out.size)⟩
 | true=>
  obtain⟨hag,⟨hn',Fg,hhg⟩,hlu⟩:=aaO HG.out HWX.out.wd KN HT.out (x:=x) (by rw [Cj.out];exact hrf) A8;rw [LZ.out] at hag;have HAG:=A3 hag;have HXH:=A3 Fg;have HHG:=A3 (show hn'<gn by rw [←Cj.out];exact hhg);have HLU:=A3 hlu;clear hrf hag Fg hhg hlu;go_upto_region 10 with (go_at_call 18;refine N2.out.mono ?_;rintro e W8 ⟨rfl,hb8⟩);have HB8:=A3 (HB7.out.trans (hb8.mono HB7.out.size));have aaE:=A3 (aax.out.trans (hb8.mono aax.out.size));clear hb8 s0 s1 s2 s3 s4 pa pb pc' qa qb Y0;obtain⟨⟨s0,s1,s2,s3⟩,-,-,s4,-,-⟩:=FX.out W8 aaE.out;obtain⟨pa,pb,pc',-,-,-⟩:=Gb ((HB8.out.block bp (BR KP.out)).trans KP.out);obtain⟨qa,qb,Y0,-,-,-⟩:=Gb ((HB8.out.block bq (BR KQ.out)).trans KQ.out);have PW:=A3 (show Calls Tryz.prog 16 #[.slice CA n Cp,.agg #[.slice FA gn fc,.slice TA gn tc,.slice NA gn nc],.agg #[.int .i64 hd,.slice A1 m1 cp1,.slice A2 m2 cp2],.int .i64 A8] W8 fun e w'=>(∃y:Int,(kb=true→y=vb)∧e=.returned (.tuple #[.int .i64 y,.bool kb]))∧Below W8.heap.size W8 w' from by
   have h:=am0 (.slice CA n Cp) FA TA NA A1 A2 gn fc tc nc m1 cp1 m2 cp2 n cd G hn' x.bl x.la A8 _ _ D W8 (HWX.out.below aaE.out) Cj.out A0 (IF.out.below HB8.out) (IT.out.below HB8.out) (IN.out.below HB8.out) (by rw [←Cj.out];exact HG.out.nl KN) (fun y hy=>by have:=HG.out.Zj y hy;have:=HG.out.range;omega) (HLI.out.1.below aaE.out) (HLI.out.2.below aaE.out) HHG.out (by rw [←Cj.out];exact HG.out.gr KN) (by rw [←Cj.out];exact HG.out.it HT.out) HLU.out;have ha:=HAG.out;rw [HXH.out,Cj.out,Dk] at ha;rw [←HXX.out.1,HXH.out]
   exact h.mono fun e w' ⟨he,hb⟩=>⟨⟨_,ha.2.1,by rw [he,ha.1]⟩,hb⟩)
  have HZ:=A3 (show kb=false→vb=0 from HAG.out.2.2);go_upto_region 11 with (go_at_call 16;refine PW.out.mono ?_;rintro e W9 ⟨⟨y,hy,rfl⟩,hb9⟩);have HY:=A3 hy;have HB9:=A3 (BX.out.trans ((aaE.out.trans (hb9.mono aaE.out.size)).mono BX.out.size));clear hy hb9 s0 s1 s2 s3 s4 pa pb pc' qa qb Y0;cases kb with
  | true=>
   have e1:(vb==y)=true:=by rw [HY.out rfl];simp
   go_wp2_with fail;go_ret;exact⟨rfl,HB9.out⟩
  | false=>
   have e1:(vb==0)=true:=by rw [HZ.out rfl];simp
   go_wp2_with fail;go_ret;exact⟨rfl,HB9.out⟩
end
end Go.Proofs.YtlmgkipmfgijiaaGreatDoor
