/-
  What is proved here: parts rCs.
-/
import Derived.Test.YtlmgkipmfgijiaaGreatDoorVa
import Derived.Test.YtlmgkipmfgijiaaGreatDoorVs
import Derived.Test.YtlmgkipmfgijiaaGreatDoorVv
import Derived.Test.YtlmgkipmfgijiaaGreatDoorVx
namespace Go.Proofs.YtlmgkipmfgijiaaGreatDoor
set_option linter.unusedVariables false
set_option linter.unusedSimpArgs false
set_option maxRecDepth 100000
set_option maxHeartbeats 8000000
open Go.RowKit
theorem aar {P:Program} {w:World} {ops:Array Oper} {o:Oper} {a:Act} {K:Act→World→Prop} {Q:Exit→Act→World→Prop} {E:Prop} (hgd:o.guard=none) (s x:Operand) (t:TypeId)
  (ho:o.op=.call { callee:=.builtin .append,args:=#[s,x],argTypes:=#[t,t] })
  (e:TypeId) (i:TypeInfo) (ht:P.underlying t=some (.slice e)) (hi:P.info? e=some i)
  (base:Option Addr) (m c:Nat) (hm:m≤c) (hs:a.eval s=.slice base m c) (A:Option Addr) (c':Nat) (hx:a.eval x=.slice A 0 c')
  (h:K (a.put o.dst (.slice base m c)) w):if Region.wanted o (yielded ops a.tmps)=true then Oper.wp P o a w K Q else E:=by
 have hw:Region.wanted o (yielded ops a.tmps)=true:=by simp [Region.wanted,hgd]
 rw [AE hw];have hsrc:Src P i.size t (.slice A 0 c') 0 [] w:=by
  cases A with
  | none=>exact Src.ofNil _ ht c'
  | some ad=>exact Src.ofSlice _ ht ad 0 c' [] AO (fun j u hu=>by simp at hu) (fun u hu=>by simp at hu)
 have hrun:=run_append_nothing (P:=P) w t t o.type e i ht hi base m c hm _ hsrc;unfold Oper.wp;simp [execOp,ho,resolve,invoke,builtin,hs,hx,hrun,Result.andThen];exact h
theorem aat {ops:Array Oper} {o:Oper} {a:Act} {w:World} {K:Act→World→Prop} {Q:Exit→Act→World→Prop} {E:Prop} (hgd:o.guard=none) (s x:Operand)
  (ho:o.op=.call { callee:=.builtin .append,args:=#[s,x],argTypes:=#[38,38] })
  (base:Nat) (v:Value) (n:Nat) (xs:List Value) (hs:a.eval s=v) (hown:w.ownsRow base 3 1 v n xs) (sv:Value) (l:List Int) (hx:a.eval x=sv) (hl:Ints w sv l) (hn:n+l.length≤1000000) (hbase:base≤w.heap.size)
  (h:∀v' w',w'.ownsRow base 3 1 v' (n+l.length) (xs++Av l)→w.grownBy w' v.ownBlock→K (a.put o.dst v') w') :
  if Region.wanted o (yielded ops a.tmps)=true then Oper.wp Tryz.prog o a w K Q else E:=by
 obtain⟨iI,E5,E7,DT,Dw⟩:=D5 NQ;obtain⟨A,cap,rfl,h1,h2,h3⟩:=hl;by_cases h0:l.length=0
 ·have hl0:l=[]:=Zs.1 h0
  subst hl0;obtain⟨bs,c,rfl,hc⟩:∃bs c,v=.slice bs n c∧n≤c:=by
   rcases hown.2 with⟨h3,h4⟩|⟨g,cap',cur,h3,_,_,h4,_⟩
   ·exact⟨none,0,by rw [h3,h4],by omega⟩
   ·exact⟨_,cap',h3,h4⟩
  refine aar hgd s x 38 ho 3 iI Ey E5 bs n c hc hs A cap hx ?_;exact h _ w (by simpa [Av] using hown) (World.grownBy.refl w _)
 ·obtain⟨b,off,rfl,hb,hcell⟩:=h3 A0
  refine M6 hgd s x 38 ho base 3 iI (.int .i64 0) 1 8 Ey E5 E7 DT Dw rfl AK v n xs hs hown ⟨b,off,none⟩ l.length cap (Av l) hx (by simp [Av]) (fun j u hu=>?_) (fun u hu=>?_) Bc A0 hbase (fun v' w' h4 h5 _=>h v' w' h4 h5)
  ·have hj:j<l.length:=by have:=(Bl.1 hu).1;simpa [Av] using this
   rw [adF,hcell j hj,← hu];simp [Av,List.getD,hj]
  ·obtain⟨y,_,rfl⟩:=Bx.1 hu
   rfl
theorem aaF (n:Nat) (x:Lp):Kc n x=([x.h]++x.bl++x.la).all fun y=>decide (0≤y) && decide (y<(n:Int)):=by
 simp [Kc,Hl,List.all_append,Bool.and_assoc]
theorem aaP {w:World} {B z:Nat} {h:Int} (hz:B≤z) (k:w.heap[z]?=some (.cells #[.int .i64 h] 3 (0,0))):w.ownsRow B 3 1 (.slice (some ⟨z,0,none⟩) 1 1) 1 [.int .i64 h]:=
 ⟨rfl,.inr ⟨z,1,_,rfl,hz,k,AH _,by unfold maxLen;omega,rfl,rfl⟩⟩
theorem aaB (cv:Value) (FA TA NA BA CA:Option Addr) (gn fc tc nc bn bc cn cc:Nat) (N:Nat) (cd:Nat→Int) (G:List AV) (x:Lp) (w:World) (HW:Words w cv N cd) (hG:G.length=gn) (hg5:gn≤5000)
  (HF:Ints w (.slice FA gn fc) (G.map (·.lo))) (HT:Ints w (.slice TA gn tc) (G.map (·.hi))) (HL:CO w (.slice NA gn nc) (G.map (·.nx))) (hin:∀x∈G,0≤x.lo∧x.lo≤x.hi∧x.hi≤(N:Int)) (hc:Lu N cd G) (HB:Ints w (.slice BA bn bc) x.bl) (H2:Ints w (.slice CA cn cc) x.la) (Cc:bn≤1000) (Ge:cn≤1000) :
  Calls Tryz.prog 18 #[cv,.agg #[.slice FA gn fc,.slice TA gn tc,.slice NA gn nc],.agg #[.int .i64 x.h,.slice BA bn bc,.slice CA cn cc]] w fun e w'=>e=.returned (.bool (Kc gn x))∧Below w.heap.size w w':=by
 obtain⟨KA,arY,rfl,hk1,hk2,hkc⟩:=HW.at_;have hN6:=HW.le;obtain⟨V,hV,k5,k6,bV,sV⟩:=Pm w #[.slice FA gn fc,.slice TA gn tc,.slice NA gn nc] #[.int .i64 x.h,.slice BA bn bc,.slice CA cn cc] 40 42;obtain⟨q5,hq5⟩:∃q,w.heap.size=q:=⟨_,rfl⟩;obtain⟨q6,hq6⟩:∃q,q5+1=q:=⟨_,rfl⟩;rw [hq5,hq6] at k6;rw [hq5] at k5;have BV:=A3 bV;have HFV:=A3 (HF.below bV);have HTV:=A3 (HT.below bV);have Ec:=A3 (HB.below bV);have Uc:=A3 (H2.below bV);have Qg:=A3 hG;have Ei:=A3 hin;have RI:=A3 hc;have Sl:=A3 HW.wd;have HKC:=A3 (show ∀p,p<N→∃cb NR,KA=some ⟨cb,NR,none⟩∧cb<V.heap.size∧V.cell? ⟨cb,NR+p,none⟩=some (.int .u32 (cd p)) from fun p hp=>by
  obtain⟨cb,NR,e1,e2,e3⟩:=hkc A0
  exact⟨cb,NR,e1,by have:=bV.size;omega,(bV.cell (p:=⟨cb,NR+p,none⟩) e2).trans (e3 p hp)⟩)
 have l5:q5<V.heap.size:=BR k5;have l6:q6<V.heap.size:=BR k6;have K5:=A3 k5;have K6:=A3 k6;have arQ:=Oo hk2;clear HW HF HT HL HB H2 hG hin hc hkc bV k5 k6 sV;go_enter Tryz.func18,Tryz.ntmps18;go_upto_region 2 with fail;clear hV hq5 hq6;go_loopw [7] (fun a7 wr=>∃b:Nat,b≤gn∧a7=.int .i64 (b:Int)∧Below V.heap.size V wr) (fun a7 _=>gn - (intOf a7).toNat);case atStart=>exact⟨0,by omega,rfl,AP _ _⟩
 case round=>
  obtain⟨b,hb,rfl,J8⟩:=hrel;obtain⟨w8,hw8⟩:∃w8:World,w8=wr:=⟨_,rfl⟩;subst hw8;have Bi:=A3 J8;have s8:=J8.size;obtain⟨d0,d1,d2,-,-,-⟩:=Gb ((J8.block q5 l5).trans K5.out);have k5w:q5<w8.heap.size:=by omega
  clear J8;by_cases hlt:b<gn
  ·have dl:decide ((b:Int)<(gn:Int))=true:=AR A0
   have db:(b:Int)<(gn:Int):=by omega
   obtain⟨y,hy⟩:∃y,G[b]?=some y:=⟨_,Aj (by rw [Qg.out];exact hlt)⟩;have hym:=Bf hy;obtain⟨i1,i2,i3⟩:=Ei.out y hym;obtain⟨f,hf⟩:∃f:Nat,y.lo=(f:Int):=⟨y.lo.toNat,by omega⟩;obtain⟨t,ht⟩:∃t:Nat,y.hi=(t:Int):=⟨y.hi.toNat,by omega⟩;have hft:f≤t:=by omega
   have htN:t≤N:=by omega
   have Su:=A3 (show ∀p:Nat,f≤p→p<t→(BB (cd p)).2=0 from fun p h1 h2=>(RI.out y hym p A0 A0).2);obtain⟨s1,fb,fo,hs1,rfl,hfb,c1⟩:=Ints.at_ (l:=G.map (·.lo)) (A:=FA) (cap:=fc) (by rw [ED,Qg.out];exact HFV.out) Bi.out (j:=b) (by rw [ED,Qg.out];exact hlt);obtain rfl:y.lo=s1:=by rw [Cr,hy] at hs1;simpa using hs1
   rw [hf] at c1;obtain⟨s2,tb,Rk,hs2,rfl,htb,c2⟩:=Ints.at_ (l:=G.map (·.hi)) (A:=TA) (cap:=tc) (by rw [ED,Qg.out];exact HTV.out) (AP _ _) (j:=b) (by rw [ED,Qg.out];exact hlt);obtain rfl:y.hi=s2:=by rw [Cr,hy] at hs2;simpa using hs2
   rw [ht] at c2;have C2:=A3 c2;have kfb:fb<w8.heap.size:=by omega
   clear hy hym hs1 hs2 i1 i2 i3 hf ht c2;go_upto_region 5 with fail;clear d0 d1 d2 c1 k5w kfb;go_loopw [8] (fun a8 wr=>∃p:Nat,f≤p∧p≤t∧a8=.int .i64 (p:Int)∧Below V.heap.size V wr) (fun a8 _=>t - (intOf a8).toNat);case atStart=>exact⟨f,AH _,hft,rfl,Bi.out⟩
   case round=>
    clear Bi s8;obtain⟨p,hfp,hpt,rfl,J8⟩:=hrel;obtain⟨w9,hw9⟩:∃w9:World,w9=wr:=⟨_,rfl⟩;subst hw9;have Bi:=A3 J8;have s9:=J8.size;obtain⟨d0,d1,d2,-,-,-⟩:=Gb ((J8.block q5 l5).trans K5.out);have k5w:q5<w9.heap.size:=by omega
    have c2:=(J8.cell (p:=⟨tb,Rk+b,none⟩) htb).trans C2.out;have ktb:tb<w9.heap.size:=by omega
    clear J8;by_cases ari:p<t
    ·have dp:decide ((p:Int)<(t:Int))=true:=AR A0
     have dpN:(p:Int)<(N:Int):=by omega
     have e1:decide ((p:Int)<0)=false:=Aq A0;have e2:decide ((N:Int)≤(p:Int))=false:=Aq A0;have e3:decide (N≤p)=false:=Aq A0;obtain⟨cb,NR,rfl,hcb,ce⟩:=HKC.out p A0;have c3:=(Bi.out.cell (p:=⟨cb,NR+p,none⟩) hcb).trans ce;have kcb:cb<w9.heap.size:=by omega
     have hwd:=Sl.out p A0;have I1:=A3 (anM (cd p) hwd.1 hwd.2 w9);rw [AR (Su.out p hfp ari)] at I1;obtain⟨I,hI⟩:=AA ((BB (cd p)).1);rw [hI] at I1;obtain⟨op,ia,ib,ic,im⟩:=I;simp only [Ins.val] at I1;clear hI ce hwd;go_upto_region 10 with (go_at_call 49;refine I1.out.mono ?_;rintro e eO ⟨rfl,Mz⟩);obtain⟨U,hU⟩:=AA (eO.alloc (.cells #[.int .u8 op,.int .i64 ia,.int .i64 ib,.int .i64 ic,.int .i64 im] 67));(try rw [hU]);have J7:=A3 (show Below V.heap.size V U from hU▸(Bi.out.trans (Mz.mono s9)).alloc (Bi.out.trans (Mz.mono s9)).size _);clear Mz hU c2 c3 d0 d1 d2;go_wp2_with fail;go_roundw;case rel=>exact⟨p+1,by omega,by omega,by go_num,J7.out⟩
     case measure=>exact Aa
    ·obtain rfl:p=t:=by omega
     have dp:decide ((p:Int)<(p:Int))=false:=by simp
     go_wp2_with fail;go_roundw;case rel=>exact⟨b+1,by omega,by go_num,Bi.out⟩
     case measure=>exact Aa
  ·obtain rfl:b=gn:=by omega
   have dl:decide ((b:Int)<(b:Int))=false:=by simp
   go_upto_region 12 with fail;clear d0 d1 d2 k5w;have l6w:q6<w8.heap.size:=by omega
   have KW6:=A3 ((Bi.out.block q6 l6).trans K6.out);have Fl:=A3 (Ec.out.below Bi.out);have Vd:=A3 (Uc.out.below Bi.out);have hbl:x.bl.length=bn:=by obtain⟨A,c,e,_⟩:=Ec.out;cases e;rfl
   have hcl:x.la.length=cn:=by obtain⟨A,c,e,_⟩:=Uc.out;cases e;rfl
   have Nu:=A3 (Dt hbl hcl);clear hbl hcl;refine YN (S:=fun w'=>Below w8.heap.size w8 w') A6 (AP _ _).drew (fun hHeld=>?_);have Es:Below w8.heap.size w8 w8.drew:=(AP _ _).drew;obtain⟨D0,Eo⟩:∃D,w8.drew=D:=⟨_,rfl⟩;rw [Eo] at hHeld Es ⊢;clear Eo;refine ht 0 (v:=?_) hHeld ?_ ?_;rotate_left
   ·intro w' hSw
    clear hSw;go_simp
    (try with_reducible rfl)
   (try simp only [AX,Ad,Ac,Act.put,AW,Ab,AY]);refine ht 1 (v:=?_) hHeld ?_ ?_;rotate_left
   ·intro w' hSw
    obtain⟨z0,z1,z2,-,-,-⟩:=Gb ((hSw.block q6 l6w).trans KW6.out);have u6:=Cq l6w hSw.size;clear hSw;go_simp
    (try with_reducible rfl)
   (try simp only [AX,Ad,Ac,Act.put,AW,Ab,AY]);refine ht 3 (v:=?_) hHeld ?_ ?_;rotate_left
   ·intro w' hSw
    clear hSw;go_simp
    (try with_reducible rfl)
   (try simp only [AX,Ad,Ac,Act.put,AW,Ab,AY]);refine ht 4 (v:=?_) hHeld ?_ ?_;rotate_left
   ·intro w' hSw
    obtain⟨z0,z1,z2,-,-,-⟩:=Gb ((hSw.block q6 l6w).trans KW6.out);have u6:=Cq l6w hSw.size;clear hSw;go_simp
    (try with_reducible rfl)
   (try simp only [AX,Ad,Ac,Act.put,AW,Ab,AY]);refine ht 6 (v:=?_) hHeld ?_ ?_;rotate_left
   ·intro w' hSw
    clear hSw;go_simp
    (try with_reducible rfl)
   (try simp only [AX,Ad,Ac,Act.put,AW,Ab,AY]);refine ht 7 (v:=?_) hHeld ?_ ?_;rotate_left
   ·intro w' hSw
    obtain⟨z0,z1,z2,-,-,-⟩:=Gb ((hSw.block q6 l6w).trans KW6.out);have u6:=Cq l6w hSw.size;clear hSw;go_simp
    (try with_reducible rfl)
   (try simp only [AX,Ad,Ac,Act.put,AW,Ab,AY]);refine GZ (rs:=[2]) A6 AO (Eg (o:=_) rfl (fun K hK=>?_) GV);go_simp
   obtain⟨z,D1,e1,e2,kA,wz,hS1,bA⟩:=VV Es (.cells #[.int .i64 x.h] 3);rw [e2,e1];have HO1:=A3 (aaP wz kA);clear kA e1 e2 bA;refine hK.out _ _ hS1 (fun hHeld=>?_);clear hK K;(try simp only [AX,Ad,Ac,Act.put,AW,Ab,AY]);refine GZ (rs:=[5]) A6 AO (Eg (o:=_) rfl (fun K hK=>?_) GV);refine aat rfl (.tmp 54) (.tmp 56) rfl w8.heap.size _ 1 [.int .i64 x.h] F8 HO1.out (.slice BA bn bc) x.bl F8 (Fl.out.below hS1) (by have:=Nu.out;omega) hS1.size ?_;intro v1 D2 hown1 aaI;have hS2:=hS1.grown aaI hS1.size (fun q hq=>(HO1.out.lt q hq).1);have cM:=A3 hown1;clear hown1 aaI;refine hK.out _ _ hS2 (fun hHeld=>?_);clear hK K;(try simp only [AX,Ad,Ac,Act.put,AW,Ab,AY]);refine GZ (rs:=[8]) A6 AO (Eg (o:=_) rfl (fun K hK=>?_) GV);refine aat rfl (.tmp 57) (.tmp 59) rfl w8.heap.size v1 _ _ F8 cM.out (.slice CA cn cc) x.la F8 (Vd.out.below hS2) (by have:=Nu.out;omega) hS2.size ?_;intro v2 D3 hown2 hgrow2;have hS3:=hS2.grown hgrow2 hS2.size (fun q hq=>(cM.out.lt q hq).1);have HO3:=A3 hown2;clear hown2 hgrow2;refine hK.out _ _ hS3 (fun hHeld=>?_);clear hK K;(try simp only [AX,Ad,Ac,Act.put,AW,Ab,AY]);refine ht 9 (v:=?_) hHeld ?_ ?_;rotate_left
   ·intro w' hSw
    clear hSw;go_simp
    (try with_reducible rfl)
   (try simp only [AX,Ad,Ac,Act.put,AW,Ab,AY]);refine VJ A6 ?_ _;obtain⟨an,UX⟩:∃k,1+x.bl.length+x.la.length=k:=⟨_,rfl⟩;obtain⟨all,hall⟩:∃l:List Int,[x.h]++x.bl++x.la=l:=⟨_,rfl⟩;have hal:all.length=an:=by rw [←hall,← UX];simp;omega
   have HAL:=A3 hal;have aku:an≤3000:=by have:=Nu.out;omega
   have HIA:=A3 (show Ints D3 v2 all from MF (l:=all) (by rw [hal,← UX,← hall];simpa [Av] using HO3.out));have EC:=A3 (show Kc G.length x=all.all fun y=>decide (0≤y) && decide (y<(G.length:Int)) by rw [aaF,hall]);obtain⟨vA,vc,rfl⟩:∃A c,v2=.slice A an c:=by obtain⟨A,c,e,_⟩:=HIA.out;exact⟨A,c,by rw [e,hal]⟩
   have HS3:=A3 (Bi.out.trans (hS3.mono s8));have alM:=A3 hS3;clear hal UX hall HO1 cM HO3 Es hS1 hS2 hS3 hHeld;go_upto_region 14 with fail;go_loopw [12] (fun a12 wr=>∃i:Nat,i≤an∧a12=.int .i64 (i:Int)∧(∀y∈all.take i,0≤y∧y<(b:Int))∧Below D3.heap.size D3 wr) (fun a12 _=>an - (intOf a12).toNat);case atStart=>exact⟨0,by omega,rfl,by simp,AP _ _⟩
   case round=>
    obtain⟨i,hi,rfl,hgd,hb3⟩:=hrel;obtain⟨w13,ady⟩:∃E:World,E=wr:=⟨_,rfl⟩;subst ady;have Tx:=A3 hb3;have HGD:=A3 hgd;have HBF:=A3 (BV.out.trans ((HS3.out.trans (hb3.mono HS3.out.size)).mono BV.out.size));clear hgd;by_cases hli:i<an
    ·have dl2:decide ((i:Int)<(an:Int))=true:=AR A0
     have di:(i:Int)<(an:Int):=by omega
     obtain⟨e,ab,ao,he,rfl,hab,ce⟩:=Ints.at_ (l:=all) (A:=vA) (cap:=vc) (by rw [HAL.out];exact HIA.out) hb3 (j:=i) (by rw [HAL.out];exact hli);obtain⟨-,-,d2,-,-,-⟩:=Gb (((HS3.out.trans (hb3.mono HS3.out.size)).block q5 l5).trans K5.out);have k5w:q5<w13.heap.size:=by have:=HS3.out.size;have:=hb3.size;omega
     have kab:ab<w13.heap.size:=by have:=hb3.size;omega
     have KJ:=A3 (Bf he);have CU:=A3 (show all.take (i+1)=all.take i++[e] by rw [G4,he];rfl);clear he hb3;by_cases h0:e<0
     ·have e1:decide (e<0)=true:=AR h0
      have DU:=A3 (show Kc b x=false by
       have h:=EC.out;rw [Qg.out] at h;rw [h,uw]
       exact⟨e,KJ.out,by simp;omega⟩)
      clear h0;go_upto_region 16 with fail;refine Cg A6 A6 ?_;repeat (go_big_quiet_step (fail))
      refine Ba ?_;rintro _ ⟨u,rfl⟩;go_wp2_with fail;go_ret;rw [DU.out];exact⟨rfl,HBF.out.trans (u.h.mono HBF.out.size)⟩
     ·have e1:decide (e<0)=false:=Aq h0
      by_cases h1:(b:Int)≤e
      ·have e2:decide ((b:Int)≤e)=true:=AR h1
       have DU:=A3 (show Kc b x=false by
        have h:=EC.out;rw [Qg.out] at h;rw [h,uw]
        exact⟨e,KJ.out,by simp;omega⟩)
       clear h0 h1;go_upto_region 16 with fail;refine Cg A6 A6 ?_;repeat (go_big_quiet_step (fail))
       refine Ba ?_;rintro _ ⟨u,rfl⟩;go_wp2_with fail;go_ret;rw [DU.out];exact⟨rfl,HBF.out.trans (u.h.mono HBF.out.size)⟩
      ·have e2:decide ((b:Int)≤e)=false:=Aq h1
       have H6:=A3 (show ∀y∈all.take (i+1),0≤y∧y<(b:Int) from fun y hy=>by
        rw [CU.out] at hy;rcases CG.1 hy with hy|hy
        ·exact HGD.out y hy
        ·obtain rfl:y=e:=by simpa using hy
         omega)
       clear h0 h1;go_upto_region 16 with fail;refine Cg A6 A6 ?_;repeat (go_big_quiet_step (fail))
       refine Ba ?_;rintro _ ⟨u,rfl⟩;go_wp2_with fail;go_roundw;case rel=>exact⟨i+1,by omega,by go_num,H6.out,Tx.out.trans (u.h.mono Tx.out.size)⟩
       case measure=>exact Aa
    ·obtain rfl:i=an:=by omega
     have dl2:decide ((i:Int)<(i:Int))=false:=by simp
     have HYE:=A3 (show Kc b x=true by
      have h:=EC.out;rw [Qg.out] at h;rw [h,Ma];intro y hy;have h2:=HGD.out y (by rw [Gq (by rw [HAL.out];exact AH _)];exact hy)
      simp [h2.1,h2.2])
     go_wp2_with fail;go_ret;rw [HYE.out];exact⟨rfl,HBF.out⟩
end Go.Proofs.YtlmgkipmfgijiaaGreatDoor
