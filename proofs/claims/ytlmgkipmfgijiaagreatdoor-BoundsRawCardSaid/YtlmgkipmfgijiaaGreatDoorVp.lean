/-
  What is proved here: parts dPr, dSp, dBd, dCt, dFd, dCode, dTrP, dSmp, lGr, dPt, dBl.
-/
import Derived.Test.YtlmgkipmfgijiaaGreatDoorVa
import Derived.Test.YtlmgkipmfgijiaaGreatDoorVo
import Derived.Test.YtlmgkipmfgijiaaGreatDoorVe
import Derived.Test.YtlmgkipmfgijiaaGreatDoorVb
import Derived.BigRegion
import Derived.Deep.RegionHeld3
import Derived.Deep.DeepCutAuto
import Derived.Test.YtlmgkipmfgijiaaGreatDoorVd
import Derived.Test.YtlmgkipmfgijiaaGreatDoorVl
namespace Go.Proofs.YtlmgkipmfgijiaaGreatDoor
set_option linter.unusedVariables false
set_option linter.unusedSimpArgs false
set_option maxRecDepth 100000
set_option maxHeartbeats 8000000
open Go.RowKit
def aou (n:Nat) (cd:Nat→Int) (G:List AV) (P:List (List Int)) (bv pv:Value) (e:Ending) (w':World):Prop:=
 (Ea G P∧Lu n cd G∧∃sp cv' rv' dv' D,e=.returned (.tuple #[.pointer (some ⟨sp,0,none⟩),.bool true])∧Lx w' sp bv pv cv' rv' dv' G (FC cd G) (FR cd G) D∧Ff G D)∨(¬(Ea G P∧Lu n cd G)∧e=.returned (.tuple #[.pointer none,.bool false]))
theorem wU (cv ev bv pv:Value) (sh lk:Int) (n:Nat) (cd:Nat→Int) (G:List AV) (P:List (List Int)) (w:World) (T:C8 w) (HW:Words w cv n cd) (HG:Dc w bv G) (HP:CO w pv P) (hn:G.length≤5000) (BJ:∀x∈G,x.nx.length≤5000) :
  Calls Tryz.prog 44 #[.agg #[cv,ev,.int .i64 sh,.int .i64 lk],.agg #[bv,pv]] w fun e w'=>aou n cd G P bv pv e w'∧Below w.heap.size w w':=by
 obtain⟨GA,B9,Du,g2,g3,g4⟩:=id HG;obtain⟨PA,B7,hpv,p2,p3,p4⟩:=id HP;obtain⟨CA,Cp,hcv,c2,c3,c4⟩:=HW.at_;have hn6:=HW.le;obtain⟨V,hV⟩:=AA ((w.alloc (.cells #[cv,ev,.int .i64 sh,.int .i64 lk] 25)).alloc (.cells #[bv,pv] 31));have k0:V.heap[w.heap.size]?=some (.cells #[cv,ev,.int .i64 sh,.int .i64 lk] 25 (0,0)):=by
  rw [←hV,Bb _ _ AO];exact Ai _ _
 have k1:V.heap[w.heap.size+1]?=some (.cells #[bv,pv] 31 (0,0)):=by rw [←hV];exact E4 _ _ AO
 have bV:Below w.heap.size w V:=hV▸((AP _ _).alloc (AH _) _).alloc AO _;have sV:V.heap.size=w.heap.size+1+1:=by rw [←hV];simp
 have b0:V.cell? ⟨w.heap.size+1,0,none⟩=some bv:=by simp [World.cell?,k1]
 have b1:V.cell? ⟨w.heap.size+1,1,none⟩=some pv:=by simp [World.cell?,k1]
 have l1:w.heap.size+1<V.heap.size:=by omega
 have DN:=A3 (Yd bv pv G P V (HG.below bV) (HP.below bV) hn BJ);obtain⟨gn,hgn⟩:∃m,G.length=m:=⟨_,rfl⟩;rw [hgn] at Du g2 hn;have⟨Cj,OO,Oy,TD,HT,BV,SV,K0⟩:=Ki hgn HW HG HP T bV sV k0;have⟨JZ,HC4⟩:=AL g4 c4;clear hgn HW HG HP T bV sV k0 k1 g3 g4 p4 p3 c4 c3 BJ;subst Du hpv hcv;go_enter Tryz.func44,Tryz.ntmps44;by_cases Vj:Ea G P;case neg=>
  go_wp2_with (go_at_call 35;refine DN.out.mono ?_;rintro e X ⟨⟨r,rfl,hr⟩,LI⟩;obtain rfl:r=false:=(by cases r with|false=>rfl|true=>exact absurd (hr.1 rfl) Vj);have BX:=A3 LI;clear hr LI);go_ret2;exact⟨.inr ⟨fun h=>Vj h.1,rfl⟩,BV.out.trans (BX.out.mono BV.out.size)⟩
 have Sv:=A3 Vj;clear Vj;go_upto_region 3 with (go_at_call 35;refine DN.out.mono ?_;rintro e X ⟨⟨r,rfl,hr⟩,LI⟩;obtain rfl:r=true:=hr.2 Sv.out);have c0:X.cell? ⟨w.heap.size+1,0,none⟩=_:=(LI.cell (p:=⟨w.heap.size+1,0,none⟩) l1).trans b0;have c1:X.cell? ⟨w.heap.size+1,1,none⟩=_:=(LI.cell (p:=⟨w.heap.size+1,1,none⟩) l1).trans b1;have lX:w.heap.size+1<X.heap.size:=by have:=LI.size;omega
 have BX:=A3 LI;clear b0 b1 hr LI DN hV;obtain⟨cS,Tf⟩:∃c,((List.range gn).map fun _=>Value.slice none 0 0).toArray=c:=⟨_,rfl⟩;obtain⟨cB,hcB⟩:∃c,((List.replicate gn false).map Value.bool).toArray=c:=⟨_,rfl⟩;obtain⟨iA,YP,LG,hA1,Oa⟩:=D5 sD;obtain⟨iB,Nh,hB0,hB1,hB2⟩:=D5 tG;have mk1:∀W,(Instr.makeSlice 157 (.int .i64 (gn:Int)) (.int .i64 (gn:Int))).run Tryz.prog W=.ok (.slice (some ⟨W.heap.size,0,none⟩) gn gn) (W.alloc (.cells cS 144)):=fun W=>by
  have hr:=V9 (P:=Tryz.prog) W 157 144 iA _ Tryz.underlying157 YP LG .i64 .i64 (gn:Int) (gn:Int) A0 (JE _) (by rw [Oa];omega) A0;rw [hA1,Dk] at hr;rw [hr,← Tf,← p9];rfl
 have mk2:∀W,(Instr.makeSlice 55 (.int .i64 (gn:Int)) (.int .i64 (gn:Int))).run Tryz.prog W=.ok (.slice (some ⟨W.heap.size,0,none⟩) gn gn) (W.alloc (.cells cB 4)):=fun W=>by
  have hr:=V9 (P:=Tryz.prog) W 55 4 iB _ U8 Nh hB0 .i64 .i64 (gn:Int) (gn:Int) A0 (JE _) (by rw [hB2];omega) A0;rw [hB1,Dk] at hr;rw [hr,← hcB,← rS];rfl
 have⟨TP,PC⟩:=AL Tf hcB;clear Tf hcB LG hA1 Oa hB0 hB1 hB2 YP Nh;go_cut [6] from 15 to 25 (fun a6 wx=>∃sp cb rb,a6=.pointer (some ⟨sp,0,none⟩)∧wx.heap[sp]?=some (.cells #[.slice GA gn B9,.slice PA P.length B7,.slice (some ⟨cb,0,none⟩) gn gn,.slice (some ⟨rb,0,none⟩) gn gn,.slice none 0 0] 159 (0,0))∧wx.heap[cb]?=some (.cells cS 144 (0,0))∧wx.heap[rb]?=some (.cells cB 4 (0,0))∧(X.heap.size≤sp∧X.heap.size≤cb∧X.heap.size≤rb)∧Below X.heap.size X wx)
 case first=>
  go_region_held3 (fun w'=>(∀b o,b<X.heap.size→w'.cell? ⟨b,o,none⟩=X.cell? ⟨b,o,none⟩)∧Below X.heap.size X w') ((exact oD (by (repeat (first|(with_reducible exact AP _ _)|(with_reducible refine Gg ?_)|(with_reducible refine QH ?_ eD _)))))) (fail)
  all_goals (go_wp2_with fail;go_meet)
  all_goals
   refine⟨_,_,_,rfl,E4 _ _ AO,?_,?_,by omega,?_⟩
   ·(show (World.alloc _ _).heap[_]?=_);(repeat (first|exact Ai _ _|exact E4 _ _ ZB|rw [Bb _ _ Z9]))
   ·(show (World.alloc _ _).heap[_]?=_);(repeat (first|exact Ai _ _|exact E4 _ _ ZB|rw [Bb _ _ Z9]))
   ·(repeat (first|(with_reducible exact AP _ _)|(with_reducible refine Gg ?_)|(with_reducible refine QH ?_ eD _)))
 obtain⟨sp,cb,rb,rfl,hd1,hd2,hd3,⟨ha,hc,hr⟩,bW⟩:=hcut;obtain⟨W1,hW1⟩:∃W1:World,W1=wc:=⟨_,rfl⟩;subst hW1;rw [←TP.out] at hd2;rw [←PC.out] at hd3;have HCM:=A3 (show Ed X W1 sp cb rb gn (.slice GA gn B9) (.slice PA P.length B7) (fun _=>.slice none 0 0) (fun _=>[]) (fun _=>false) from
  ⟨bW,ha,hr,hd1,⟨⟨by simp,.inr ⟨cb,gn,_,rfl,hc,hd2,AH _,by unfold maxLen;omega,by simp,by simp [Gq]⟩⟩,fun i hi=>JV _ _ _ _,fun i j hi hj _ q hq=>(by cases hq)⟩,by
   rw [hd3];congr 3
   apply MJ
   ·simp
   ·intro i h1 h2;simp⟩)
 have bW1:=bW.size;have d0:W1.cell? ⟨w.heap.size+1,0,none⟩=_:=(bW.cell (p:=⟨w.heap.size+1,0,none⟩) lX).trans c0;have lW1:w.heap.size+1<W1.heap.size:=by omega
 clear hd1 hd2 hd3 ha hc hr bW TP PC mk1 mk2;obtain⟨iI,E5,E7,DT,Dw⟩:=D5 ve;go_upto_region 5 with fail;have⟨C0,C1⟩:=AL c0 c1;clear d0 lW1 c0 c1;have LO:=A3 (show ∀x∈G,0≤x.lo∧x.lo<x.hi from fun x hx=>by
  obtain⟨z,hz⟩:=Sv.out.ok;obtain⟨e,he⟩:=hz.each x hx
  exact⟨hz.lo A0 x hx,he.hi⟩)
 go_loopw [29] (fun a29 wr=>∃(k:Nat) (val:Nat→Value),k≤gn∧a29=.int .i64 (k:Int)∧(∀i x,i<k→G[i]?=some x→jX n cd x)∧Ed X wr sp cb rb gn (.slice GA gn B9) (.slice PA P.length B7) val (D9 (DW cd G) k []) (fun i=>(D9 (DW cd G) k [] i).any Hg)) (fun a29 _=>gn - (intOf a29).toNat);case atStart=>exact⟨0,_,by omega,rfl,fun i x h=>by omega,by rw [vU];exact HCM.out⟩
 case round=>
  obtain⟨k,val,hk,rfl,hok,hM⟩:=hrel;have⟨HM,Em⟩:=AL hM hok;have hrX:=hM.A7.size;clear hM hok HCM;by_cases hlt:k<gn
  ·have dl:decide ((k:Int)<(gn:Int))=true:=AR A0
   have dk:(k:Int)<(gn:Int):=by omega
   obtain⟨x,hx⟩:∃x,G[k]?=some x:=⟨_,Aj (by rw [Cj.out];exact hlt)⟩;have hlo:=LO.out x (Bf hx);obtain⟨gq,Hv,rfl,NN,gc⟩:=JZ.out KN;obtain⟨e0,e1,nv,e2,QG⟩:=gc k x hx;obtain⟨nA,C6,rfl,n1,n2⟩:=ints_at QG;have bw:Below w.heap.size w wr:=BV.out.trans ((BX.out.trans (HM.out.A7.mono BX.out.size)).mono BV.out.size);have f0:wr.cell? ⟨gq,Hv+k*3,none⟩=_:=(bw.cell (p:=⟨gq,_,none⟩) NN).trans e0;have f1:wr.cell? ⟨gq,Hv+k*3+1,none⟩=_:=(bw.cell (p:=⟨gq,_,none⟩) NN).trans e1;have f2:wr.cell? ⟨gq,Hv+k*3+2,none⟩=_:=(bw.cell (p:=⟨gq,_,none⟩) NN).trans e2;have lg:gq<wr.heap.size:=by have:=bw.size;omega
   obtain⟨xlo,Rz⟩:∃v,x.lo=v:=⟨_,rfl⟩;obtain⟨xhi,Qq⟩:∃v,x.hi=v:=⟨_,rfl⟩;obtain⟨xu,OY⟩:∃v,x.nx.length=v:=⟨_,rfl⟩;rw [Rz] at f0 hlo;rw [Qq] at f1 hlo;rw [OY] at f2 n1;obtain⟨ln,rfl⟩:∃ln:Nat,xlo=(ln:Int):=⟨xlo.toNat,by omega⟩;obtain⟨hn',rfl⟩:∃hn':Nat,xhi=(hn':Int):=⟨xhi.toNat,by omega⟩;have⟨sS,pO,HX⟩:=B8 Rz Qq hx;have UJ:=A3 (show DW cd G k=codeFrom cd (ln:Int) (hn' - ln) by
    unfold DW;rw [show G.getD k ⟨0,0,[]⟩=x by simp [List.getD,hx],Rz,Qq];congr 1
    omega)
   have hlh:ln<hn':=by omega
   have La:=A3 hlh;clear e0 e1 e2 QG gc bw Rz Qq OY hx n2 hlo hlh;go_upto_region 8 with fail;obtain⟨b9,hb9⟩:=AA wr.heap.size;obtain⟨Y,hY⟩:=AA (wr.alloc (.cells #[.int .i64 (ln:Int),.int .i64 (hn':Int),.slice nA xu C6] 78));rw [hY];have bY:Below wr.heap.size wr Y:=hY▸(AP _ _).alloc (AH _) _;have kY:Y.heap[b9]?=some (.cells #[.int .i64 (ln:Int),.int .i64 (hn':Int),.slice nA xu C6] 78 (0,0)):=by rw [←hb9,← hY];exact Ai _ _
   rw [hb9];have⟨KY,HMY⟩:=AL kY (HM.out.below bY);clear hb9 hY bY kY f0 f1 f2;obtain⟨wo,NF⟩:∃wo:World,wo=wr:=⟨_,rfl⟩;subst NF;go_loopw [9] (fun a9 wz=>∃(pc:Nat) (Kb:Nat→Value),ln≤pc∧pc≤hn'∧a9=.int .i64 (pc:Int)∧(∀a,ln≤a→a<pc→a<n∧(BB (cd a)).2=0)∧Ed X wz sp cb rb gn (.slice (some ⟨gq,Hv,none⟩) gn B9) (.slice PA P.length B7) Kb (D9 (DW cd G) k (codeFrom cd (ln:Int) (pc - ln))) (fun i=>(D9 (DW cd G) k (codeFrom cd (ln:Int) (pc - ln)) i).any Hg)∧wz.heap[b9]?=some (.cells #[.int .i64 (ln:Int),.int .i64 (hn':Int),.slice nA xu C6] 78 (0,0))) (fun a9 _=>hn' - (intOf a9).toNat);case atStart=>exact⟨ln,val,AH _,by have:=La.out;omega,rfl,fun a h1 h2=>by omega,by rw [Nat.sub_self];exact HMY.out,KY.out⟩
   case round=>
    clear HMY KY;obtain⟨pc,Kb,hlp,hph,rfl,Ss,hM2,k9⟩:=hrel;have⟨OA,HJS,K9⟩:=B8 hM2 Ss k9;have hzX:=hM2.A7.size;have z1:wr.cell? ⟨b9,1,none⟩=some (.int .i64 (hn':Int)):=by simp [World.cell?,k9]
    have lz9:b9<wr.heap.size:=BR k9;clear hM2 k9 Ss;have VM:=A3 (((BX.out.trans (OA.out.A7.mono BX.out.size)).block _ YS).trans K0.out);by_cases hlt2:pc<hn'
    ·have dl2:decide (pc<hn')=true:=AR hlt2
     have arV:decide ((pc:Int)<(hn':Int))=true:=AR A0;have Qb:Below w.heap.size w wr:=BV.out.trans ((BX.out.trans (OA.out.A7.mono BX.out.size)).mono BV.out.size);have Tu:=A3 Qb;have t0:wr.cell? ⟨w.heap.size,0,none⟩=some (.slice CA n Cp):=by have:=VM.out;simp [World.cell?,this]
     have arI:decide ((pc:Int)<0)=false:=Aq A0;have ak:=A3 (show ¬(pc<n∧(BB (cd pc)).2=0)→¬(Ea G P∧Lu n cd G) from fun h1 h2=>
      h1 (h2.2 x (Bf HX.out) pc (by rw [sS.out];omega) (by rw [pO.out];omega)))
     by_cases hnn:pc<n;case neg=>
      have dn:decide (n≤pc)=true:=AR A0;have dn':decide ((n:Int)≤(pc:Int))=true:=AR A0;have HF:=A3 (ak.out (fun h=>hnn h.1));clear hnn hlt2 Qb;go_wp2_with fail;go_ret2;exact⟨.inr ⟨HF.out,rfl⟩,Tu.out⟩
     have dn:decide (n≤pc)=false:=Aq A0;have dn':decide ((n:Int)≤(pc:Int))=false:=Aq A0;obtain⟨cq,NR,hCA,Qv,cc⟩:=HC4.out A0;have cx:=(Qb.cell (p:=⟨cq,NR+pc,none⟩) Qv).trans (cc pc hnn);have hwd:=OO.out.wd pc hnn;have icn:(pc:Int)<(n:Int):=by omega
     have YT:=A3 (cN (cd pc) hwd.1 hwd.2 wr (HT.out.below Qb));have hdd:(BB (cd pc)).2=0∨BB (cd pc)=(⟨0,0,0,0,0⟩,3):=by
      unfold BB;split
      ·exact .inl rfl
      ·exact .inr rfl
     obtain⟨cw,hcw⟩:∃c,cd pc=c:=⟨_,rfl⟩;have HGE:=A3 (show (BB cw).2=0→0≤(BB cw).1.op from fun h=>by
      rw [←hcw] at h ⊢;obtain⟨k,hk,_⟩:=WJ hwd.1 h;have:=hk.op
      omega)
     have aqc:=A3 (show Ak cd (pc:Int)=(BB cw).1 by rw [←hcw];rfl);have YV:=A3 hcw;rw [hcw] at cx YT hdd ak;subst hCA;clear cc Qb hcw hwd;by_cases hd0:(BB cw).2=0;case neg=>
      have hd3:=hdd.resolve_left hd0;have HF:=A3 (ak.out (fun h=>hd0 h.2));have HD:=A3 (show Calls Tryz.prog 22 #[.int .u32 cw] wr fun e w'=>e=.returned (.tuple #[.agg #[.int .u8 0,.int .i64 0,.int .i64 0,.int .i64 0,.int .i64 0],.int .i64 3])∧Below wr.heap.size wr w' from by
       have:=YT.out;rw [hd3] at this
       exact this)
      clear hd0 hd3 hdd YT;go_wp2_with (go_at_call 22;refine HD.out.mono ?_;rintro e w2 ⟨rfl,hb2⟩;have B2:=A3 hb2;have l2:=hb2.size;clear hb2);go_ret2;refine⟨.inr ⟨HF.out,rfl⟩,?_⟩;have h:=Tu.out.trans (B2.out.mono Tu.out.size);first
       | exact h
       | exact h.alloc h.size _
     obtain⟨op,ia,ic,id,im,hi⟩:∃op ia ic id im,(BB cw).1=⟨op,ia,ic,id,im⟩:=⟨_,_,_,_,_,rfl⟩;have HD:=A3 (show Calls Tryz.prog 22 #[.int .u32 cw] wr fun e w'=>e=.returned (.tuple #[.agg #[.int .u8 op,.int .i64 ia,.int .i64 ic,.int .i64 id,.int .i64 im],.int .i64 0])∧Below wr.heap.size wr w' from by
      have:=YT.out;rw [hd0,hi] at this
      exact this)
     have HI:=A3 (show Ak cd (pc:Int)=⟨op,ia,ic,id,im⟩ by rw [aqc.out];exact hi);have adh:=A3 (show (BB (cd pc)).2=0 by rw [YV.out];exact hd0);clear YT hdd hd0 hi ak HGE;go_upto_region 15 with (go_at_call 22;refine HD.out.mono ?_;rintro e w2 ⟨rfl,hb2⟩;have B2:=A3 hb2;have l2:=hb2.size;clear hb2);obtain⟨U,hU⟩:=AA (w2.alloc (.cells #[.int .u8 op,.int .i64 ia,.int .i64 ic,.int .i64 id,.int .i64 im] 67));rw [hU];have bU:Below w2.heap.size w2 U:=hU▸(AP _ _).alloc (AH _) _;have kU:U.heap[w2.heap.size]?=some (.cells #[.int .u8 op,.int .i64 ia,.int .i64 ic,.int .i64 id,.int .i64 im] 67 (0,0)):=hU▸Ai _ _;obtain⟨y0,y1,y2,y3,y4,lU⟩:=Fy kU;obtain⟨b10,Mz⟩:∃b,w2.heap.size=b:=⟨_,rfl⟩;have Sg:Below wr.heap.size wr U:=B2.out.trans (bU.mono B2.out.size);rw [Mz] at y0 y1 y2 y3 y4 lU kU;rw [Mz];have⟨KU,GF,OQ⟩:=B8 kU (OA.out.below Sg) ((Sg.block b9 lz9).trans K9.out);have v0:=GF.out.cells.2.2.1;obtain⟨lsp,lcb,lrb⟩:=GF.out.lt;obtain⟨v1,v1f⟩:=GF.out.pm.cells hlt;have hop:=GF.out.pm.own k hlt;have ni:=OA.out.pm.own k hlt;rw [SL,Sq] at hop;obtain⟨vk,LC⟩:∃v,Kb k=v:=⟨_,rfl⟩;have VI:=A3 LC;have Wd:=A3 (show some cb≠vk.ownBlock from fun e'=>by
      rw [←LC] at e'
      exact (GF.out.Jd hlt cb e'.symm).2.2.1 rfl)
     have HNs:=A3 (show some sp≠vk.ownBlock from fun e'=>by
      rw [←LC] at e'
      exact (GF.out.Jd hlt sp e'.symm).2.1 rfl)
     have HN9:=A3 (show some b9≠vk.ownBlock from fun e'=>by
      rw [←LC] at e';obtain⟨cs,hcs⟩:=JK hop e'.symm
      exact Ct hcs OQ.out AK rfl)
     have qM:=A3 (show some b10≠vk.ownBlock from fun e'=>by
      rw [←LC] at e';have:=(ni.lt b10 e'.symm).2
      omega)
     rw [LC] at hop v1;have Fq:=A3 hop;obtain⟨vA,vn,CD,hvs⟩:∃vA vn CD,vk=.slice vA vn CD:=by
      rcases hop.2 with⟨e,_⟩|⟨g',cap',cur',e,_⟩
      ·exact⟨_,_,_,e⟩
      ·exact⟨_,_,_,e⟩
     subst hvs;have lU9:b9<U.heap.size:=BR OQ.out;have Tz:=A3 (show X.heap.size≤U.heap.size from GF.out.A7.size);obtain⟨m,hm⟩:=AA (pc - ln);have hm6:m≤1000000:=by omega
     have ape:=A3 (show pc+1 - ln=m+1 by omega);have r7:=A3 (show (ln:Int)+(m:Int)=(pc:Int) by omega);rw [hm] at Fq GF;have Ja:=A3 (show ∀(W2:World) (v2:Value),((U.alloc (.cells #[.int .u8 op,.int .i64 ia,.int .i64 ic,.int .i64 id,.int .i64 im] 67)).drew).grownBy W2 (Value.slice vA vn CD).ownBlock→W2.ownsRow X.heap.size 67 5 v2 (m+1) (IZ (codeFrom cd (ln:Int) m)++[.int .u8 op,.int .i64 ia,.int .i64 ic,.int .i64 id,.int .i64 im])→(v2.ownBlock=(Value.slice vA vn CD).ownBlock∨v2.ownBlock=some ((U.alloc (.cells #[.int .u8 op,.int .i64 ia,.int .i64 ic,.int .i64 id,.int .i64 im] 67)).drew).heap.size)→
       Ed X (W2.setCell ⟨cb,k,none⟩ v2) sp cb rb gn (.slice (some ⟨gq,Hv,none⟩) gn B9) (.slice PA P.length B7) (upd Kb k v2) (D9 (DW cd G) k (codeFrom cd (ln:Int) (m+1))) (fun i=>(D9 (DW cd G) k (codeFrom cd (ln:Int) m) i).any Hg)∧(W2.setCell ⟨cb,k,none⟩ v2).heap[b9]?=some (.cells #[.int .i64 (ln:Int),.int .i64 (hn':Int),.slice nA xu C6] 78 (0,0))∧(W2.setCell ⟨cb,k,none⟩ v2).heap[b10]?=some (.cells #[.int .u8 op,.int .i64 ia,.int .i64 ic,.int .i64 id,.int .i64 im] 67 (0,0)) from fun W2 v2 hg2 ho2 Q9=>by
      have bD:Below U.heap.size U ((U.alloc (.cells #[.int .u8 op,.int .i64 ia,.int .i64 ic,.int .i64 id,.int .i64 im] 67)).drew):=Gg ((AP _ _).alloc (AH _) _);have h3:=GF.out.app (y:=Ak cd (pc:Int)) hlt bD (by rw [VI.out];exact hg2) (by rw [SL,Sq,aqt,HI.out];exact ho2) (by rw [VI.out];exact Q9);rw [SL,rH,← r7.out,← gR] at h3;have hc9:b9≠cb:=fun e=>by
       obtain⟨cs,hcs⟩:=JK GF.out.pm.Bk (q:=cb) rfl;exact Ct OQ.out hcs AK e
      have xp:b10≠cb:=fun e=>by
       obtain⟨cs,hcs⟩:=JK GF.out.pm.Bk (q:=cb) rfl;exact Ct KU.out hcs AK e
      refine⟨h3,?_,?_⟩
      ·rw [BL _ _ _ _ (by show b9≠cb;exact hc9)]
       rw [(grown_of bD hg2).block b9 lU9 (fun e=>HN9.out e)];exact OQ.out
      ·rw [BL _ _ _ _ (by show b10≠cb;exact xp)]
       rw [(grown_of bD hg2).block b10 lU (fun e=>qM.out e)]
       exact KU.out)
     have icb:(k:Int)<(gn:Int):=dk;obtain⟨rk,hrk⟩:∃r,((D9 (DW cd G) k (codeFrom cd (ln:Int) m)) k).any Hg=r:=⟨_,rfl⟩;have HRK:=A3 hrk;clear hU bU Sg Mz hop ni LC t0 kU hm cx hrk OA;go_cut [9] from 62 to 77 (fun a9 wx=>∃v3,a9=.int .i64 (pc:Int)∧Ed X wx sp cb rb gn (.slice (some ⟨gq,Hv,none⟩) gn B9) (.slice PA P.length B7) v3 (D9 (DW cd G) k (codeFrom cd (ln:Int) (m+1))) (fun i=>(D9 (DW cd G) k (codeFrom cd (ln:Int) m) i).any Hg)∧wx.heap[b9]?=some (.cells #[.int .i64 (ln:Int),.int .i64 (hn':Int),.slice nA xu C6] 78 (0,0))∧wx.heap[b10]?=some (.cells #[.int .u8 op,.int .i64 ia,.int .i64 ic,.int .i64 id,.int .i64 im] 67 (0,0)))
     case first=>
      refine Yq ?_;go_region_law (refine M6 rfl (.tmp 73) (.tmp 75) 144 rfl X.heap.size 67 iI _ 5 40 Tryz.underlying144 E5 E7 DT Dw rfl AK (.slice vA vn CD) m (IZ (codeFrom cd (ln:Int) m)) F8 (ox (qK Fq.out) _) ⟨U.heap.size,0,none⟩ 1 1 [.int .u8 op,.int .i64 ia,.int .i64 ic,.int .i64 id,.int .i64 im] F8 rfl (qP _ _ _ _ _ _ _) BS Bc A0 abp ?_;intro v' W2 hown2 hgrow2 RU;obtain⟨g2,EI,rfl⟩:=GI hown2;have hc1:=hgrow2.cell (a:=⟨cb,k,none⟩) (v:=.slice vA vn CD) GK Wd.out;have hc2:=hgrow2.cell (a:=⟨sp,2,none⟩) (v:=.slice (some ⟨cb,0,none⟩) gn gn) GK HNs.out;have hf1:W2.frozen? ⟨cb,k,none⟩=false:=(Pb (hgrow2.block cb Cl Wd.out)).trans GK)
      all_goals
       have F1:=A3 (Ja.out W2 _ hgrow2 hown2 RU);clear hgrow2 hown2 RU hc1 hc2 hf1;refine Yn ?_;go_wp2_with fail;go_meet;exact⟨_,rfl,F1.out.1,F1.out.2.1,F1.out.2.2⟩
     obtain⟨v3,rfl,Ww,h9Z,wE⟩:=hcut;obtain⟨Z,hZ⟩:∃Z:World,Z=wc:=⟨_,rfl⟩;subst hZ;have⟨HPZ,H9Z⟩:=AL Ww h9Z;have hsr:=Ww.cells.2.2.2;obtain⟨xr,xrf⟩:=Ww.rat hlt;obtain⟨z0,z1,z2,z3,z4,lZ⟩:=Fy wE;obtain⟨lsp,-,lrb⟩:=Ww.lt;rw [HRK.out] at xr;obtain⟨ci,hci⟩:∃c,Hg ⟨op,ia,ic,id,im⟩=c:=⟨_,rfl⟩;have Kq:=A3 (show ∀W,Calls Tryz.prog 75 #[.agg #[.int .u8 op,.int .i64 ia,.int .i64 ic,.int .i64 id,.int .i64 im]] W fun e w'=>e=.returned (.bool ci)∧Below W.heap.size W w' from fun W=>by
      have:=anm ⟨op,ia,ic,id,im⟩ W;rw [hci] at this
      exact this)
     have R7:=A3 (show ∀x:Ext Z,Ed X (x.w.setCell ⟨rb,k,none⟩ (.bool (rk || ci))) sp cb rb gn (.slice (some ⟨gq,Hv,none⟩) gn B9) (.slice PA P.length B7) v3 (D9 (DW cd G) k (codeFrom cd (ln:Int) (pc+1 - ln))) (fun i=>(D9 (DW cd G) k (codeFrom cd (ln:Int) (pc+1 - ln)) i).any Hg)∧(x.w.setCell ⟨rb,k,none⟩ (.bool (rk || ci))).heap[b9]?=some (.cells #[.int .i64 (ln:Int),.int .i64 (hn':Int),.slice nA xu C6] 78 (0,0)) from fun x=>by
      have h1:=(HPZ.out.below x.h).mark k (rk || ci);rw [ape.out];have e1:upd (fun i=>(D9 (DW cd G) k (codeFrom cd (ln:Int) m) i).any Hg) k (rk || ci)=fun i=>(D9 (DW cd G) k (codeFrom cd (ln:Int) (m+1)) i).any Hg:=by
       funext i;unfold upd;by_cases e:i=k
       ·subst e
        rw [AE rfl,← HRK.out,SL,SL,gR,List.any_append,r7.out,HI.out,← hci];simp
       ·rw [A9 e]
        have e2:D9 (DW cd G) k (codeFrom cd (ln:Int) m) i=D9 (DW cd G) k (codeFrom cd (ln:Int) (m+1)) i:=by
         unfold D9;rw [A9 e,A9 e]
        show (D9 (DW cd G) k (codeFrom cd (ln:Int) m) i).any Hg=_;rw [e2]
      rw [e1] at h1;refine⟨h1,?_⟩;rw [BL _ _ _ _ (by show b9≠rb;exact Ct H9Z.out HPZ.out.Dn AK)]
      exact (x.h.block b9 (BR H9Z.out)).trans H9Z.out)
     have sP:=A3 (show ∀a,ln≤a→a<pc+1→a<n∧(BB (cd a)).2=0 from fun a h1 h2=>by
      by_cases e:a=pc
      ·subst e;exact⟨hnn,adh.out⟩
      ·exact HJS.out a h1 A0)
     clear Ww h9Z wE hci GF Fq KU OQ VI Wd HNs HN9 qM Ja;go_upto_region 16 with fail;cases rk with
     | true=>
      refine JW 17 A6 A6 ?_;simp only [Ew,List.take_zero,Er,List.drop_zero];repeat (go_big_quiet_step (fail))
      refine Ba ?_;rintro _ ⟨x1,rfl⟩;have F2:=A3 (R7.out x1);go_wp2_with fail;go_roundw;case rel=>exact⟨pc+1,_,by omega,by omega,by go_num,sP.out,F2.out.1,F2.out.2⟩
      case measure=>exact Aa
     | false=>
      refine JW 17 A6 A6 ?_;simp only [Ew,List.take_zero,Er,List.drop_zero];repeat (go_big_quiet_step ((go_at_call 75;exact Calls.AQ (Kq.out _))))
      refine Ba ?_;rintro _ ⟨x1,rfl⟩;have F2:=A3 (R7.out x1);go_wp2_with fail;go_roundw;case rel=>exact⟨pc+1,_,by omega,by omega,by go_num,sP.out,F2.out.1,F2.out.2⟩
      case measure=>exact Aa
    ·obtain rfl:hn'=pc:=by omega
     have dl2:decide ((hn':Int)<(hn':Int))=false:=by simp
     have Lm:=A3 (show Ed X wr sp cb rb gn (.slice (some ⟨gq,Hv,none⟩) gn B9) (.slice PA P.length B7) Kb (D9 (DW cd G) (k+1) []) (fun i=>(D9 (DW cd G) (k+1) [] i).any Hg) by rw [←wC,UJ.out];exact OA.out);have XW:=A3 (show ∀i y,i<k+1→G[i]?=some y→jX n cd y from fun i y hi hy=>by
      by_cases e:i=k
      ·subst e
       rw [HX.out] at hy;cases hy;intro a h1 h2;rw [sS.out] at h1;rw [pO.out] at h2;exact HJS.out a A0 A0
      ·exact Em.out i y A0 hy)
     go_wp2_with fail;go_roundw;case rel=>exact⟨k+1,Kb,by omega,by go_num,XW.out,Lm.out⟩
     case measure=>exact Aa
  ·obtain rfl:gn=k:=by omega
   have dl:decide ((gn:Int)<(gn:Int))=false:=by simp
   have RI:=A3 (show Lu n cd G from fun y hy=>by
    obtain⟨i,hi⟩:=LH.1 hy
    exact Em.out i y (by rw [←Cj.out];exact (Bl.1 hi).1) hi)
   have bw:Below w.heap.size w wr:=BV.out.trans ((BX.out.trans (HM.out.A7.mono BX.out.size)).mono BV.out.size);have BW:=A3 bw;have t0:wr.cell? ⟨w.heap.size+1,0,none⟩=_:=(HM.out.A7.cell (p:=⟨w.heap.size+1,0,none⟩) lX).trans C0.out;have t1:wr.cell? ⟨w.heap.size+1,1,none⟩=_:=(HM.out.A7.cell (p:=⟨w.heap.size+1,1,none⟩) lX).trans C1.out;obtain⟨h1,h2,h3⟩:=HM.out.lt;have Fh:=A3 (wL _ _ G P wr (Oy.out.below bw) (TD.out.below bw) Sv.out Rc);clear bw;go_wp2_with (go_at_call 37;refine Fh.out.mono ?_;rintro e W2 ⟨⟨dv,D,rfl,hI,hD⟩,hb2⟩;obtain⟨DA,Km,rfl,-,-⟩:=ints_at hI;have HIW:=A3 hI;have HDW:=A3 hD;have B2:=A3 hb2;have hd2:=(HM.out.below hb2).head;have l2:sp<W2.heap.size:=BR hd2;have q4:W2.cell? ⟨sp,4,none⟩=some (.slice none 0 0):=(by simp [World.cell?,hd2]);have qf:W2.frozen? ⟨sp,4,none⟩=false:=(by simp [World.frozen?,hd2]);clear hI hD hb2 hd2);go_ret2;have hl:D.length=gn:=by have:=HDW.out.ti.len;rw [Cj.out] at this;exact this
   have hF:=HM.out.done (G:=G) B2.out ((Oy.out.below BV.out).below BX.out) Cj.out HIW.out hl ⟨_,_,_,rfl⟩ ⟨_,_,_,rfl⟩;have e1:(List.range gn).map (D9 (DW cd G) gn [])=FC cd G:=by
    unfold FC;rw [Cj.out];apply Q4;intro i hi;unfold D9;rw [AE (J9.1 hi)]
   have e2:((List.range gn).map fun i=>(D9 (DW cd G) gn [] i).any Hg)=FR cd G:=by
    rw [FR,← e1,List.map_map];rfl
   rw [e1,e2] at hF;refine⟨.inl ⟨Sv.out,RI.out,⟨sp,_,_,_,D,rfl,hF,HDW.out⟩⟩,?_⟩
   ·refine CJ (BW.out.trans (B2.out.mono BW.out.size)) ?_ _
    have h9:=HM.out.sV;have:=BX.out.size;have:=BV.out.size;show w.heap.size≤sp;omega
section
open Classical in
noncomputable def M5 (G:List AV):List Int:=if h:∃D,Ff G D then Classical.choose h else []
theorem Ff.eq {G:List AV} {P:List (List Int)} {D:List Int} (hV:Ea G P) (hn:G.length≤5000) (h:Ff G D):M5 G=D:=by
 have he:∃D,Ff G D:=⟨D,h⟩;have h1:M5 G=Classical.choose he:=by unfold M5;rw [dif_pos he]
 have h2:Ff G (Classical.choose he):=Classical.choose_spec he;rw [←h1] at h2;obtain⟨gr,-⟩:=Q3 (Ic.2 hV.ne) (GB.of hV hn).lt;exact Exact.unique gr h2.ti h.ti h2.ex h.ex h2.all h.all
def ZN (G:List AV):Prop:=∀b,b<G.length→b∈CR G.length (Ar G)
noncomputable def Uj (cd:Nat→Int) (G:List AV) (x:Lp):List Bool:=Fb G (FR cd G) (M5 G) x.h.toNat x.bl (x.la.map Int.toNat) G.length
noncomputable def Dr (cd:Nat→Int) (G:List AV) (x:Lp) (A8:Int):Int×Bool:=Io A8 (F0 A8 (EH G.length x.bl) (Uj cd G x) (FC cd G) G.length)
open Classical in
noncomputable def EJ (n:Nat) (cd:Nat→Int) (G:List AV) (P:List (List Int)) (x:Lp) (A8:Int):Int×Bool:=
 if Ea G P∧Lu n cd G∧Kc G.length x=true then Dr cd G x A8 else (0,false)
noncomputable def FT (f:Int→Int×Bool):List Int→Int×Int×Bool
 | []=>(0,0,false)
 | r :: l=>if (f r).2=true then (r,(f r).1,true) else FT f l
def Fa:List Int:=[10,11,12,13]
def Ij (s:Int×Bool) (x:Int×Bool):Int×Bool:=if x.2=true∧(s.2=false∨x.1<s.1) then (x.1,true) else s
noncomputable def P8 (cd:Nat→Int) (G:List AV) (rl:List Bool) (x:Lp):Int×Bool:=
 if rl.getD x.h.toNat false=true then (Fa.map (Dr cd G x)).foldl Ij (0,false) else (0,true)
noncomputable def IL (cd:Nat→Int) (G:List AV) (rl:List Bool):List Lp→List Int→List Int ⊕ Int
 | [],acc=>.inl acc
 | x :: L,acc=>if (P8 cd G rl x).2=true then IL cd G rl L (acc++[(P8 cd G rl x).1]) else .inr x.h
theorem qR {cd:Nat→Int} {G:List AV} {rl:List Bool}:∀ {L:List Lp} {acc out:List Int},IL cd G rl L acc=.inl out→∀(x:Lp),IL cd G rl (L++[x]) acc=if (P8 cd G rl x).2=true then .inl (out++[(P8 cd G rl x).1]) else .inr x.h
 | [],acc,out,h,x=>by
  cases h;simp [IL]
 | y :: L,acc,out,h,x=>by
  simp only [IL,iX] at h ⊢;split at h
  ·rename_i h1
   rw [AE h1];exact qR h x
  ·cases h
theorem ud {cd:Nat→Int} {G:List AV} {rl:List Bool} {b:Int}:∀ {L:List Lp} {acc:List Int},IL cd G rl L acc=.inr b→∀(M:List Lp),IL cd G rl (L++M) acc=.inr b
 | [],acc,h,M=>by cases h
 | y :: L,acc,h,M=>by
  simp only [IL,iX] at h ⊢;split at h
  ·rename_i h1
   rw [AE h1];exact ud h M
  ·rename_i h1
   rw [A9 h1];exact h
theorem rE {n:Nat} {cd:Nat→Int} {G:List AV} (hw:∀i,i<n→0≤cd i∧cd i<4294967296) (hl:∀x∈G,0≤x.lo) (h:Lu n cd G):∀l∈FC cd G,∀i∈l,0≤i.op:=by
 intro l hl' i hi;obtain⟨k,hk,rfl⟩:=Bx.1 hl';have hk:=J9.1 hk;unfold DW codeFrom at hi;obtain⟨j,hj,rfl⟩:=Bx.1 hi;have hj:=J9.1 hj;have e:G.getD k ⟨0,0,[]⟩=G[k]:=by simp [List.getD,Aj hk]
 rw [e] at hj ⊢;have h0:=hl _ (Cn hk);obtain⟨a,ha⟩:∃a:Nat,(G[k]).lo+(j:Int)=(a:Int):=⟨((G[k]).lo+(j:Int)).toNat,by omega⟩;rw [ha];have h1:=h _ (Cn hk) a A0 A0;obtain⟨q,hq,_⟩:=WJ (hw a h1.1).1 h1.2;have h2:=hq.op;unfold Ak;rw [Dk];omega
theorem ao4 {n:Nat} {cd:Nat→Int} {G:List AV} (hl:∀x∈G,0≤x.lo) (h:Lu n cd G) (k:Nat):(DW cd G k).length≤n:=by
 unfold DW;rw [Sq];by_cases hk:k<G.length
 ·rw [show G.getD k ⟨0,0,[]⟩=G[k] by simp [List.getD,Aj hk]]
  have h0:=hl _ (Cn hk);by_cases hlt:(G[k]).lo<(G[k]).hi
  ·have:=h _ (Cn hk) ((G[k]).hi - 1).toNat A0 A0
   omega
  ·omega
 ·rw [show G.getD k ⟨0,0,[]⟩=⟨0,0,[]⟩ by simp [List.getD,E0 (by omega:G.length≤k)]]
  simp
theorem anb {C:List (List Ins)} {m:Nat} (h:∀l∈C,l.length≤m):C.flatten.length≤C.length*m:=by
 induction C with
 | nil=>simp
 | cons l C ih=>
  have h1:=h l AO;have h2:=ih (fun x hx=>h x (by simp [hx]));rw [mC,FO,GD,Nat.succ_mul];omega
theorem sr {n:Nat} {cd:Nat→Int} {G:List AV} (hn:n≤1000000) (hg:G.length≤5000) (hl:∀x∈G,0≤x.lo) (h:Lu n cd G):(FC cd G).flatten.length≤1000000000000000:=by
 have h1:=anb (C:=FC cd G) (m:=1000000) (fun l hl'=>by
  obtain⟨k,hk,rfl⟩:=Bx.1 hl';have:=ao4 hl h k
  omega)
 rw [XY] at h1;omega
end
theorem amK {W w':World} (h:Below W.heap.size W w'):(∀b o,b<W.heap.size→w'.cell? ⟨b,o,none⟩=W.cell? ⟨b,o,none⟩)∧Below W.heap.size W w':=⟨fun b o hb=>h.cell (p:=⟨b,o,none⟩) hb,h⟩
theorem oG {n:Nat} {l:List Int} (h:Hl n l=true):Bg (l.map Int.toNat)=l∧∀x∈l.map Int.toNat,x<n:=by
 have h1:=Ma.1 (show (l.all fun x=>decide (0≤x) && decide (x<(n:Int)))=true from h);constructor
 ·unfold Bg
  rw [List.map_map];conv=>rhs;rw [←List.map_id l]
  apply Q4;intro x hx;have:=h1 x hx;simp only [EY,DK] at this;show ((x.toNat:Nat):Int)=x;omega
 ·intro x hx
  obtain⟨y,hy,rfl⟩:=Bx.1 hx;have:=h1 y hy;simp only [EY,DK] at this;omega
theorem wj (cv ev bv pv:Value) (sh lk:Int) (n:Nat) (cd:Nat→Int) (G:List AV) (P:List (List Int)) (w:World) (T:C8 w) (HW:Words w cv n cd) (HG:Dc w bv G) (HP:CO w pv P) (hn:G.length≤5000) (BJ:∀x∈G,x.nx.length≤5000) (x:Lp) (p:Int) (v1 v2:Value) (H1:Ints w v1 x.bl) (H2:Ints w v2 x.la) (hla:x.la.length≤5000000) (HR:Ea G P→ZN G) (A8:Int) :
  Calls Tryz.prog 15 #[.agg #[cv,ev,.int .i64 sh,.int .i64 lk],.agg #[bv,pv],.agg #[.int .i64 x.h,v1,v2,.int .i64 p],.int .i64 A8] w fun e w'=>e=.returned (.tuple #[.int .i64 (EJ n cd G P x A8).1,.bool (EJ n cd G P x A8).2])∧Below w.heap.size w w':=by
 obtain⟨R,hR⟩:=AA (EJ n cd G P x A8);rw [hR];obtain⟨r1,r2⟩:=R;have LZ:=A3 hR;obtain⟨V,hV⟩:=AA (((w.alloc (.cells #[cv,ev,.int .i64 sh,.int .i64 lk] 25)).alloc (.cells #[bv,pv] 31)).alloc (.cells #[.int .i64 x.h,v1,v2,.int .i64 p] 46));have bV:Below w.heap.size w V:=hV▸(((AP _ _).alloc (AH _) _).alloc AO _).alloc Cl _;have sV:V.heap.size=w.heap.size+1+1+1:=by rw [←hV];simp
 have k0:V.heap[w.heap.size]?=some (.cells #[cv,ev,.int .i64 sh,.int .i64 lk] 25 (0,0)):=by
  rw [←hV,Bb _ _ Cl,Bb _ _ AO];exact Ai _ _
 have k1:V.heap[w.heap.size+1]?=some (.cells #[bv,pv] 31 (0,0)):=by
  rw [←hV,Bb _ _ AO];exact E4 _ _ AO
 have k2:V.heap[w.heap.size+1+1]?=some (.cells #[.int .i64 x.h,v1,v2,.int .i64 p] 46 (0,0)):=by rw [←hV];exact E4 _ _ AO
 obtain⟨a0,a1,a2,a3,a4⟩:=Ep k0;have b0:V.cell? ⟨w.heap.size+1,0,none⟩=some bv:=by simp [World.cell?,k1]
 have b1:V.cell? ⟨w.heap.size+1,1,none⟩=some pv:=by simp [World.cell?,k1]
 have b2:w.heap.size+1<V.heap.size:=by omega
 obtain⟨c0,c1,c2,c3,c4⟩:=Ep k2;have⟨C9,BV,I7,HAR,H1V,Uc,TV,Sl⟩:=Ki (wU cv ev bv pv sh lk n cd G P V (T.below bV) (HW.below bV) (HG.below bV) (HP.below bV) hn BJ) bV hla HR (H1.below bV) (H2.below bV) (T.below bV) HW.wd;have HN6:=A3 HW.le;clear k0 k1 k2 bV T HW HG HP BJ H1 H2 hla HR hR sV;go_enter Tryz.func15,Tryz.ntmps15;go_wp2_with fail;refine C9.out.mono ?_;rintro e W ⟨Fz,Hp⟩;have BW:=A3 (BV.out.trans (Hp.mono BV.out.size));rcases Fz with⟨hval,MH,sp,cv',rv',dv',D,rfl,hS,hT⟩|⟨hno,rfl⟩;case inr=>
  have HF:=A3 (show (r1,r2)=(0,false) by rw [←LZ.out];unfold EJ;rw [A9 (fun h=>hno ⟨h.1,h.2.1⟩)]);clear hno Hp;go_wp2_with fail;go_ret2;have h:=HF.out;injection h with h2 h3;exact⟨by rw [h2,h3];rfl,BW.out⟩
 have⟨Fw,QK,HS,HT⟩:=Bz hval MH hS hT;have XC:=A3 (show ∀y∈G,0≤y.lo from fun y hy=>by obtain⟨z,hz⟩:=hval.ok;exact hz.lo A0 y hy);have d0:=(Hp.cell (p:=⟨w.heap.size+1+1,0,none⟩) c4).trans c0;have d1:=(Hp.cell (p:=⟨w.heap.size+1+1,1,none⟩) c4).trans c1;have d2:=(Hp.cell (p:=⟨w.heap.size+1+1,2,none⟩) c4).trans c2;have d3:=(Hp.cell (p:=⟨w.heap.size+1+1,3,none⟩) c4).trans c3;have sW:=Hp.size;have d4:w.heap.size+1+1<W.heap.size:=by omega
 have⟨H1W,Vd,TW⟩:=B8 (H1V.out.below Hp) (Uc.out.below Hp) (TV.out.below Hp);clear hval MH hS hT Hp a0 a1 a2 a3 a4 b0 b1 b2 c0 c1 c2 c3 c4 H1V Uc TV;have EC:=A3 (gm HS.out hn x p v1 v2 H1W.out Vd.out);obtain⟨rf,hrf⟩:∃r,Kc G.length x=r:=⟨_,rfl⟩;rw [hrf] at EC;go_wp2_with fail;refine EC.out.mono ?_;rintro e W2 ⟨rfl,hb2⟩;have B2:=A3 (BW.out.trans (hb2.mono BW.out.size));cases rf with
 | false=>
  have HF:=A3 (show (r1,r2)=(0,false) by rw [←LZ.out];unfold EJ;rw [A9 (fun h=>by rw [hrf] at h;exact absurd h.2.2 AK)]);clear hrf hb2;go_wp2_with fail;go_ret2;have h:=HF.out;injection h with h2 h3;exact⟨by rw [h2,h3];rfl,B2.out⟩
 | true=>
  have jd:=hrf;unfold Kc at jd;simp only [EY] at jd;obtain⟨⟨hk1,hk2⟩,hk3⟩:=jd;have hx0:0≤x.h∧x.h<(G.length:Int):=by
   have h1:=Ma.1 (show (([x.h]:List Int).all fun x=>decide (0≤x) && decide (x<(G.length:Int)))=true from hk1) x.h AO;simpa only [EY,DK] using h1
  have HF:=A3 (show (r1,r2)=Dr cd G x A8 by rw [←LZ.out];unfold EJ;rw [AE ⟨Fw.out,QK.out,hrf⟩]);have IK:=A3 (HS.out.below hb2);have Q1:=A3 (rC IK.out hn x p v1 v2 (H1W.out.below hb2) (Vd.out.below hb2) hk2);obtain⟨YZ,hlt⟩:=oG hk3;have⟨lH,HLT⟩:=AL YZ hlt;obtain⟨hx,hhx⟩:∃h:Nat,x.h=(h:Int):=⟨x.h.toNat,by omega⟩;have HHX:=A3 hhx;clear hhx;have f0:=(hb2.cell (p:=⟨w.heap.size+1+1,0,none⟩) d4).trans d0;have f1:=(hb2.cell (p:=⟨w.heap.size+1+1,1,none⟩) d4).trans d1;have f2:=(hb2.cell (p:=⟨w.heap.size+1+1,2,none⟩) d4).trans d2;have f3:=(hb2.cell (p:=⟨w.heap.size+1+1,3,none⟩) d4).trans d3;have s2:=hb2.size;have f4:w.heap.size+1+1<W2.heap.size:=by omega
  have⟨H1X,H2X,TX⟩:=B8 (H1W.out.below hb2) (Vd.out.below hb2) (TW.out.below hb2);clear hrf hk1 hk2 hk3 hx0 YZ hlt hb2 d0 d1 d2 d3 d4 H1W Vd TW HS EC;go_wp2_with fail;refine Q1.out.mono ?_;rintro e W3 ⟨ig,rfl,hin,hb3⟩;have⟨B3,HS3⟩:=AL (B2.out.trans (hb3.mono B2.out.size)) (IK.out.below hb3);have h0:=(hb3.cell (p:=⟨w.heap.size+1+1,0,none⟩) f4).trans f0;have h1:=(hb3.cell (p:=⟨w.heap.size+1+1,1,none⟩) f4).trans f1;have h2:=(hb3.cell (p:=⟨w.heap.size+1+1,2,none⟩) f4).trans f2;have h3:=(hb3.cell (p:=⟨w.heap.size+1+1,3,none⟩) f4).trans f3;have s3:=hb3.size;have h4:w.heap.size+1+1<W3.heap.size:=by omega
  have Ei:=A3 (eZ (l:=EH G.length x.bl) (by rw [SX];exact hin));obtain⟨gr,-⟩:=Q3 (Ic.2 Fw.out.ne) (GB.of Fw.out hn).lt;have H2Y:Ints W3 v2 (Bg (x.la.map Int.toNat)):=by rw [lH.out];exact H2X.out.below hb3
  have Yx:=A3 (fun W (hW:Below W3.heap.size W3 W)=>(rX (HS3.out.below hW) (GB.of Fw.out hn) gr HT.out hx x.bl (x.la.map Int.toNat) ig G.length v1 v2 p (Ei.out.below hW) ((H1X.out.below hb3).below hW) (H2Y.below hW) (fun l hl=>HAR.out Fw.out l (HLT.out l hl)) (by rw [ED];exact I7.out)).mono fun e w' h=>(show ∃(g:Nat) (y:Ext W3),e=.returned (.slice (some ⟨g,0,none⟩) G.length G.length)∧Ho y.w (.slice (some ⟨g,0,none⟩) G.length G.length) (Fb G (FR cd G) D hx x.bl (x.la.map Int.toNat) G.length)∧y.w=w' from by
   obtain⟨g,h1,h2,h3⟩:=h
   exact⟨g,⟨w',hW.trans (h3.mono hW.size)⟩,h1,eZ (l:=Fb G (FR cd G) D hx x.bl (x.la.map Int.toNat) G.length) (by rw [Xn];exact h2),rfl⟩))
  rw [HHX.out] at h0;have N2:=A3 (show ∀(g:Nat) (y:Ext W3),Ho y.w (.slice (some ⟨g,0,none⟩) G.length G.length) (Fb G (FR cd G) D hx x.bl (x.la.map Int.toNat) G.length)→Calls Tryz.prog 47 #[.pointer (some ⟨sp,0,none⟩),.agg #[.int .i64 (hx:Int),v1,v2,.int .i64 p],.slice (some ⟨ig,0,none⟩) G.length G.length,.slice (some ⟨g,0,none⟩) G.length G.length,.int .i64 A8] y.w fun e w'=>e=.returned (.tuple #[.int .i64 r1,.bool r2])∧∃z:Ext W3,z.w=w' from fun g y hp=>
   (sG (HS3.out.below y.h) hn ((TX.out.below hb3).below y.h) (rE Sl.out XC.out QK.out) (sr HN6.out hn XC.out QK.out) hx p v1 v2 _ _ _ _ (Ei.out.below y.h) (SX _ _) hp (Xn _ _ _ _ _ _ _) A8).mono fun e w' h=>by
    have e1:Io A8 (F0 A8 (EH G.length x.bl) (Fb G (FR cd G) D hx x.bl (x.la.map Int.toNat) G.length) (FC cd G) G.length)=(r1,r2):=by
     rw [HF.out,Dr,Uj,Ff.eq Fw.out hn HT.out,HHX.out];rfl
    rw [e1] at h
    exact⟨h.1,⟨w',y.h.trans (h.2.mono y.h.size)⟩,rfl⟩)
  have B3Y:=A3 (fun y:Ext W3=>Ext.below B3.out B3.out.size y);clear hin hb3 H2Y gr f0 f1 f2 f3 f4 IK Q1 H1X H2X TX HHX;go_upto_region 5 with fail;go_region_held3 (fun w'=>(∀b o,b<W3.heap.size→w'.cell? ⟨b,o,none⟩=W3.cell? ⟨b,o,none⟩)∧Below W3.heap.size W3 w') ((refine amK ?_;first|exact Gg (AP _ _)|exact AP _ _|exact Ext.h _))
   (first|(go_at_call 48;refine (Yx.out _ (by first|exact Gg (AP _ _)|exact Ext.h _)).mono ?_;rintro e' w' ⟨g,y3,rfl,hp3,rfl⟩)|(go_at_call 47;refine (N2.out g y3 hp3).mono ?_;rintro e' w' ⟨rfl,y4,rfl⟩))
  all_goals
   have HLB:=A3 (B3Y.out y4);go_wp2_with fail;go_ret2;exact⟨rfl,HLB.out⟩
theorem amx (f:Int→Int×Bool) {l:List Int} {k:Nat} {r:Int} (h:l[k]?=some r):FT f (l.drop k)=if (f r).2=true then (r,(f r).1,true) else FT f (l.drop (k+1)):=by
 have hk:=(Bl.1 h).1;rw [iQ hk];rw [Aj hk] at h;cases h;rfl
def jz (c:Int×Int×Bool):Value:=.tuple #[.int .i64 c.1,.int .i64 c.2.1,.bool c.2.2]
theorem w6 (cv ev bv pv:Value) (sh lk:Int) (n:Nat) (cd:Nat→Int) (G:List AV) (P:List (List Int)) (w:World) (T:C8 w) (HW:Words w cv n cd) (HG:Dc w bv G) (HP:CO w pv P) (hn:G.length≤5000) (BJ:∀x∈G,x.nx.length≤5000) (x:Lp) (p:Int) (v1 v2:Value) (H1:Ints w v1 x.bl) (H2:Ints w v2 x.la) (hla:x.la.length≤5000000) (HR:Ea G P→ZN G) :
  Calls Tryz.prog 17 #[.agg #[cv,ev,.int .i64 sh,.int .i64 lk],.agg #[bv,pv],.agg #[.int .i64 x.h,v1,v2,.int .i64 p]] w fun e w'=>e=.returned (jz (FT (EJ n cd G P x) Fa))∧Below w.heap.size w w':=by
 obtain⟨R,hR⟩:=AA (FT (EJ n cd G P x) Fa);rw [hR];obtain⟨r1,r2,r3⟩:=R;have LZ:=A3 hR;show Calls _ _ _ w fun e w'=>e=.returned (.tuple #[.int .i64 r1,.int .i64 r2,.bool r3])∧_;obtain⟨V,hV⟩:=AA (((w.alloc (.cells #[cv,ev,.int .i64 sh,.int .i64 lk] 25)).alloc (.cells #[bv,pv] 31)).alloc (.cells #[.int .i64 x.h,v1,v2,.int .i64 p] 46));have bV:Below w.heap.size w V:=hV▸(((AP _ _).alloc (AH _) _).alloc AO _).alloc Cl _;have sV:V.heap.size=w.heap.size+1+1+1:=by rw [←hV];simp
 have k0:V.heap[w.heap.size]?=some (.cells #[cv,ev,.int .i64 sh,.int .i64 lk] 25 (0,0)):=by
  rw [←hV,Bb _ _ Cl,Bb _ _ AO];exact Ai _ _
 have k1:V.heap[w.heap.size+1]?=some (.cells #[bv,pv] 31 (0,0)):=by
  rw [←hV,Bb _ _ AO];exact E4 _ _ AO
 have k2:V.heap[w.heap.size+1+1]?=some (.cells #[.int .i64 x.h,v1,v2,.int .i64 p] 46 (0,0)):=by rw [←hV];exact E4 _ _ AO
 have P0:=A3 (show ∀W A8,Below V.heap.size V W→Calls Tryz.prog 15 #[.agg #[cv,ev,.int .i64 sh,.int .i64 lk],.agg #[bv,pv],.agg #[.int .i64 x.h,v1,v2,.int .i64 p],.int .i64 A8] W fun e w'=>e=.returned (.tuple #[.int .i64 (EJ n cd G P x A8).1,.bool (EJ n cd G P x A8).2])∧Below W.heap.size W w' from fun W A8 hb=>
  wj cv ev bv pv sh lk n cd G P W ((T.below bV).below hb) ((HW.below bV).below hb) ((HG.below bV).below hb) ((HP.below bV).below hb) hn BJ x p v1 v2 ((H1.below bV).below hb) ((H2.below bV).below hb) hla HR A8)
 have⟨BV,K0,K1,K2,SV⟩:=Fi bV k0 k1 k2 sV;obtain⟨xh,Fg⟩:∃h,x.h=h:=⟨_,rfl⟩;rw [Fg] at K2 P0;rw [Fg] at hV ⊢;clear T HW HG HP hn BJ H1 H2 hla HR hR k0 k1 k2 bV Fg sV;go_enter Tryz.func17,Tryz.ntmps17;go_upto_region 2 with fail;go_loopw [9] (fun a9 wr=>∃(k:Nat) (r:Int),k≤4∧r=10+(k:Int)∧a9=.int .i64 r∧FT (EJ n cd G P x) (Fa.drop k)=(r1,r2,r3)∧Below V.heap.size V wr) (fun a9 _=>14 - (intOf a9).toNat);case atStart=>exact⟨0,10,by omega,rfl,rfl,LZ.out,AP _ _⟩
 case round=>
  obtain⟨k,r,hk,hr,rfl,hc,hb⟩:=hrel;have JU:=A3 hr;have hr0:10≤r:=by omega
  have hr4:r≤14:=by omega
  clear hr;have⟨HC,HB⟩:=AL hc hb;have sb:=hb.size;have Tu:=A3 (BV.out.trans (hb.mono BV.out.size));by_cases hlt:r≤13
  ·have dk:decide (r≤13)=true:=AR hlt
   have hk4:k<4:=by have:=JU.out;omega
   have sV9:=SV.out;have h0:=(hb.block _ A0).trans K0.out;have h1:=(hb.block _ A0).trans K1.out;have h2:=(hb.block _ A0).trans K2.out;obtain⟨a0,a1,a2,a3,a4⟩:=Ep h0;have b0:wr.cell? ⟨w.heap.size+1,0,none⟩=some bv:=by simp [World.cell?,h1]
   have b1:wr.cell? ⟨w.heap.size+1,1,none⟩=some pv:=by simp [World.cell?,h1]
   clear sV9;obtain⟨c0,c1,c2,c3,c4⟩:=Ep h2;obtain⟨B,hB⟩:=AA (EJ n cd G P x r);obtain⟨B1,B2⟩:=B;have HX:=A3 (show Calls Tryz.prog 15 #[.agg #[cv,ev,.int .i64 sh,.int .i64 lk],.agg #[bv,pv],.agg #[.int .i64 xh,v1,v2,.int .i64 p],.int .i64 r] wr fun e w'=>e=.returned (.tuple #[.int .i64 B1,.bool B2])∧Below wr.heap.size wr w' from by
    have:=P0.out wr r hb;rw [hB] at this
    exact this)
   have hat:Fa[k]?=some r:=by
    rw [JU.out];match k,hk4 with
    | 0,_=>rfl
    | 1,_=>rfl
    | 2,_=>rfl
    | 3,_=>rfl
   have hst:=amx (EJ n cd G P x) hat;rw [hB,hc] at hst;have HST:=A3 hst;clear hc hb h0 h1 h2 hB hat hst;cases B2 with
   | true=>
    have HF:=A3 (show r1=r∧r2=B1∧r3=true from by
     have h:=HST.out;rw [AE rfl] at h;injection h with h1 h2;injection h2 with h2 h3
     exact⟨h1,h2,h3⟩)
    go_wp2_with (go_at_call 15;refine HX.out.mono ?_;rintro e w' ⟨rfl,hb2⟩;have B2:=A3 hb2;clear hb2);go_ret3;obtain⟨e1,e2,e3⟩:=HF.out;exact⟨by rw [e1,e2,e3];rfl,Tu.out.trans (B2.out.mono Tu.out.size)⟩
   | false=>
    have HF:=A3 (show FT (EJ n cd G P x) (Fa.drop (k+1))=(r1,r2,r3) from by
     have h:=HST.out;rw [A9 AO] at h
     exact h.symm)
    go_wp2_with (go_at_call 15;refine HX.out.mono ?_;rintro e w' ⟨rfl,hb2⟩;have B2:=A3 hb2;clear hb2);go_roundw;case rel=>exact⟨k+1,r+1,by omega,by have:=JU.out;omega,rfl,HF.out,HB.out.trans (B2.out.mono HB.out.size)⟩
    case measure=>exact Aa
  ·obtain rfl:k=4:=by have:=JU.out;omega
   have dk:decide (r≤13)=false:=Aq hlt;have HF:=A3 (show r1=0∧r2=0∧r3=false from by
    have h:FT (EJ n cd G P x) []=(r1,r2,r3):=HC.out;injection h with h1 h2;injection h2 with h2 h3
    exact⟨h1.symm,h2.symm,h3.symm⟩)
   clear hc hb;go_wp2_with fail;go_ret3;obtain⟨e1,e2,e3⟩:=HF.out;exact⟨by rw [e1,e2,e3];rfl,Tu.out⟩
def Rv (n:Nat) (cd:Nat→Int) (G:List AV) (P:List (List Int)) (L:List Lp) (rl:List Bool) (il:Nat):Prop:=Ea G P∧Lu n cd G∧rl.length=G.length∧il=G.length∧∀x∈L,Kc G.length x=true
def wF (w':World) (r:List Int ⊕ Int) (e:Ending):Prop:=match r with
 | .inl out=>∃ov,e=.returned (.tuple #[ov,.int .i64 (-1),.int .i64 0])∧Ints w' ov out
 | .inr h=>e=.returned (.tuple #[.slice none 0 0,.int .i64 h,.int .i64 16])
structure zS (n:Nat) (cd:Nat→Int) (G:List AV) (P:List (List Int)) (L:List Lp) (rl:List Bool) (il:Nat) (w':World) (e:Ending):Prop where
 yes:Rv n cd G P L rl il→wF w' (IL cd G rl L []) e
 no:¬Rv n cd G P L rl il→e=.returned (.tuple #[.slice none 0 0,.int .i64 (-1),.int .i64 3])
theorem Ih.at_ {w wr:World} {A:Option Addr} {m cap:Nat} {L:List Lp} (h:Ih w (.slice A m cap) L) (hb:Below w.heap.size w wr) {k:Nat} (hk:k<L.length):∃b off x A1 m1 cp1 A2 m2 cp2,∃p:Int,A=some ⟨b,off,none⟩∧b<w.heap.size∧L[k]?=some x∧wr.cell? ⟨b,off+k*4,none⟩=some (.int .i64 x.h)∧wr.cell? ⟨b,off+k*4+1,none⟩=some (.slice A1 m1 cp1)∧wr.cell? ⟨b,off+k*4+2,none⟩=some (.slice A2 m2 cp2)∧wr.cell? ⟨b,off+k*4+3,none⟩=some (.int .i64 p)∧Ints w (.slice A1 m1 cp1) x.bl∧Ints w (.slice A2 m2 cp2) x.la:=by
 obtain⟨A',cap',e1,_,_,h4⟩:=h;cases e1;obtain⟨b,off,rfl,hlt,hc⟩:=h4 A0;obtain⟨h1,⟨v,h2,h3⟩,⟨u,h5,h6⟩,p,h7⟩:=hc k _ (Aj hk);obtain⟨A1,c1,rfl,-,-⟩:=h3.slice;obtain⟨A2,c2,rfl,-,-⟩:=h6.slice;exact⟨b,off,_,A1,_,c1,A2,_,c2,p,rfl,hlt,Aj hk,(hb.cell (p:=⟨b,_,none⟩) hlt).trans h1,(hb.cell (p:=⟨b,_,none⟩) hlt).trans h2,(hb.cell (p:=⟨b,_,none⟩) hlt).trans h5,(hb.cell (p:=⟨b,_,none⟩) hlt).trans h7,h3,h6⟩
theorem Ih.slice {w:World} {v:Value} {L:List Lp} (h:Ih w v L):∃A cap,v=.slice A L.length cap∧L.length≤cap∧cap≤2 ^ 63 - 1:=by
 obtain⟨A,cap,h1,h2,h3,_⟩:=h;unfold maxLen at h3;exact⟨A,cap,h1,h2,h3⟩
theorem nQ {n:Nat} {x:Lp} (h:Kc n x=true):(∃hx:Nat,x.h=(hx:Int)∧hx<n)∧Hl n x.bl=true∧Hl n x.la=true:=by
 unfold Kc at h;simp only [EY] at h;have h1:=Ma.1 (show (([x.h]:List Int).all fun x=>decide (0≤x) && decide (x<(n:Int)))=true from h.1.1) x.h AO;simp only [EY,DK] at h1;exact⟨⟨x.h.toNat,by omega,by omega⟩,h.1.2,h.2⟩
theorem aoD (f:Int→Int×Bool) {l:List Int} {k:Nat} {r:Int} (h:l[k]?=some r) (s:Int×Bool):((l.take (k+1)).map f).foldl Ij s=Ij (((l.take k).map f).foldl Ij s) (f r):=by
 rw [G4,h];simp
theorem oC (cv ev bv pv:Value) (sh lk:Int) (n:Nat) (cd:Nat→Int) (G:List AV) (P:List (List Int)) (w:World) (T:C8 w) (HW:Words w cv n cd) (HG:Dc w bv G) (HP:CO w pv P) (hn:G.length≤5000) (BJ:∀x∈G,x.nx.length≤5000) (L:List Lp) (lv:Value) (HL:Ih w lv L) (hL:L.length≤1000000) (hla:∀x∈L,x.la.length≤5000000) (rl:List Bool) (rv iv dv:Value) (HRL:Ho w rv rl) (il:Nat) (hiv:∃A cap,iv=.slice A il cap∧il≤cap∧cap≤maxLen) (HR:Ea G P→ZN G) :
  Calls Tryz.prog 20 #[.agg #[cv,ev,.int .i64 sh,.int .i64 lk],.agg #[bv,pv],lv,.agg #[rv,iv,dv]] w fun e w'=>zS n cd G P L rl il w' e∧Below w.heap.size w w':=by
 obtain⟨LA,SR,rfl,hl1,hl2⟩:=HL.slice;obtain⟨JM,Gp,MK,hr1,hr2,hr4⟩:=id HRL;obtain⟨IA,Dx,rfl,hi1,hi2⟩:=hiv;have TR:=Oo hi2;obtain⟨GA,B9,Du,hg1,hg2⟩:=HG.slice;obtain⟨ln,M0⟩:∃m,L.length=m:=⟨_,rfl⟩;obtain⟨gn,hgn⟩:∃m,G.length=m:=⟨_,rfl⟩;obtain⟨rn,YC⟩:∃m,rl.length=m:=⟨_,rfl⟩;rw [M0] at hl1 hL;rw [hgn] at Du hg1 hn;rw [YC] at MK hr1;subst MK;obtain⟨V,hV⟩:=AA (((w.alloc (.cells #[cv,ev,.int .i64 sh,.int .i64 lk] 25)).alloc (.cells #[bv,pv] 31)).alloc (.cells #[.slice JM rn Gp,.slice IA il Dx,dv] 59));have bV:Below w.heap.size w V:=hV▸(((AP _ _).alloc (AH _) _).alloc AO _).alloc Cl _;have sV:V.heap.size=w.heap.size+1+1+1:=by rw [←hV];simp
 have k0:V.heap[w.heap.size]?=some (.cells #[cv,ev,.int .i64 sh,.int .i64 lk] 25 (0,0)):=by
  rw [←hV,Bb _ _ Cl,Bb _ _ AO];exact Ai _ _
 have k1:V.heap[w.heap.size+1]?=some (.cells #[bv,pv] 31 (0,0)):=by
  rw [←hV,Bb _ _ AO];exact E4 _ _ AO
 have k2:V.heap[w.heap.size+1+1]?=some (.cells #[.slice JM rn Gp,.slice IA il Dx,dv] 59 (0,0)):=by rw [←hV];exact E4 _ _ AO
 obtain⟨a0,a1,a2,a3,a4⟩:=Ep k0;have b0:V.cell? ⟨w.heap.size+1,0,none⟩=some bv:=by simp [World.cell?,k1]
 have b1:V.cell? ⟨w.heap.size+1,1,none⟩=some pv:=by simp [World.cell?,k1]
 have b2:w.heap.size+1<V.heap.size:=by omega
 have c0:V.cell? ⟨w.heap.size+1+1,0,none⟩=some (.slice JM rn Gp):=by simp [World.cell?,k2]
 have c1:V.cell? ⟨w.heap.size+1+1,1,none⟩=some (.slice IA il Dx):=by simp [World.cell?,k2]
 have c4:w.heap.size+1+1<V.heap.size:=by omega
 have C9:=A3 (wU cv ev bv pv sh lk n cd G P V (T.below bV) (HW.below bV) (HG.below bV) (HP.below bV) (by rw [hgn];exact hn) BJ);have⟨BV,I7,HAR,TV,Sl,HN6,Nu,Cj⟩:=Ki bV hla HR (T.below bV) HW.wd HW.le M0 hgn;have Oc:=A3 YC;rw [M0] at HL ⊢;have⟨Ik,OJ⟩:=AL HL hr4;clear k0 k1 k2 bV T HW HG HP BJ HL hla HR hr4 HRL M0 hgn YC hr2 hi2 sV;subst Du;go_enter Tryz.func20,Tryz.ntmps20;go_wp2_with fail;refine C9.out.mono ?_;rintro e W ⟨Fz,Hp⟩;have BW:=A3 (BV.out.trans (Hp.mono BV.out.size));have d0:=(Hp.cell (p:=⟨w.heap.size+1,0,none⟩) b2).trans b0;have d1:=(Hp.cell (p:=⟨w.heap.size+1+1,0,none⟩) c4).trans c0;have d2:=(Hp.cell (p:=⟨w.heap.size+1+1,1,none⟩) c4).trans c1;have sW:=Hp.size;have d3:w.heap.size+1<W.heap.size:=by omega
 have d4:w.heap.size+1+1<W.heap.size:=by omega
 have TW:=A3 (TV.out.below Hp);clear a0 a1 a2 a3 a4 b0 b1 b2 c0 c1 c4 TV Hp hV;rcases Fz with⟨hval,MH,sp,cv',rv',dv',D,rfl,hS,hT⟩|⟨hno,rfl⟩;case inr=>
  have DU:=A3 (show ¬Rv n cd G P L rl il from fun h=>hno ⟨h.1,h.2.1⟩);clear hno;go_wp2_with fail;go_ret3;exact⟨⟨fun h=>absurd h DU.out,fun _=>rfl⟩,BW.out⟩
 have⟨Fw,QK,HS,HT⟩:=Bz hval MH hS hT;have XC:=A3 (show ∀y∈G,0≤y.lo from fun y hy=>by obtain⟨z,hz⟩:=hval.ok;exact hz.lo A0 y hy);clear hval MH hS hT;by_cases hrg:rn=gn;case neg=>
  have e1:((rn:Int) != (gn:Int))=true:=by simp;omega
  have DU:=A3 (show ¬Rv n cd G P L rl il from fun h=>hrg (by have:=h.2.2.1;rw [Oc.out,Cj.out] at this;exact this));clear hrg;go_wp2_with fail;go_ret3;exact⟨⟨fun h=>absurd h DU.out,fun _=>rfl⟩,BW.out⟩
 have e1:((rn:Int) != (gn:Int))=false:=by simp [hrg]
 by_cases Zb:il=gn;case neg=>
  have e2:((il:Int) != (gn:Int))=true:=by simp;omega
  have DU:=A3 (show ¬Rv n cd G P L rl il from fun h=>Zb (by have:=h.2.2.2.1;rw [Cj.out] at this;exact this));clear Zb hrg;go_wp2_with fail;go_ret3;exact⟨⟨fun h=>absurd h DU.out,fun _=>rfl⟩,BW.out⟩
 have e2:((il:Int) != (gn:Int))=false:=by simp [Zb]
 have⟨DD,Sh⟩:=AL hrg Zb;clear hrg Zb;go_upto_region 5 with fail;have D1:=A3 d1;clear d0 d1 d2 e1 e2 d3;go_loopw [53] (fun a53 wr=>∃k:Nat,k≤ln∧a53=.int .i64 (k:Int)∧(∀i x,i<k→L[i]?=some x→Kc gn x=true)∧Below W.heap.size W wr) (fun a53 _=>ln - (intOf a53).toNat);case atStart=>exact⟨0,by omega,rfl,fun i x h=>by omega,AP _ _⟩
 case round=>
  obtain⟨k,hk,rfl,hrf,hb⟩:=hrel;have⟨EC,HB,LR⟩:=B8 hrf hb (BW.out.trans (hb.mono BW.out.size));have sb:=hb.size;clear hrf;by_cases hlt:k<ln
  ·have dk:decide ((k:Int)<(ln:Int))=true:=AR A0
   have ikl:(k:Int)<(ln:Int):=by omega
   obtain⟨lb,lo,x,A1,m1,cp1,A2,m2,cp2,p,rfl,hlb,hx,q0,q1,q2,q3,Vt,TR⟩:=Ik.out.at_ LR.out (k:=k) (by rw [Nu.out];exact hlt);have Y9:lb<wr.heap.size:=by have:=LR.out.size;omega
   have anZ:=A3 (gm (HS.out.below hb) Rc x p (.slice A1 m1 cp1) (.slice A2 m2 cp2) (Vt.below LR.out) (TR.below LR.out));obtain⟨Y,hY⟩:=AA (wr.alloc (.cells #[.int .i64 x.h,(.slice A1 m1 cp1),(.slice A2 m2 cp2),.int .i64 p] 46));have bY:Below wr.heap.size wr Y:=hY▸(AP _ _).alloc (AH _) _;obtain⟨b14,DX⟩:∃b,wr.heap.size=b:=⟨_,rfl⟩;have kY:Y.heap[b14]?=some (.cells #[.int .i64 x.h,(.slice A1 m1 cp1),(.slice A2 m2 cp2),.int .i64 p] 46 (0,0)):=by rw [←DX,← hY];exact Ai _ _
   obtain⟨y0,y1,y2,y3,y4⟩:=Ep kY;have l8:=gm (HS.out.below (hb.trans (bY.mono hb.size))) Rc x p (.slice A1 m1 cp1) (.slice A2 m2 cp2) ((Vt.below LR.out).below bY) ((TR.below LR.out).below bY);obtain⟨rf,hrf⟩:∃r,Kc gn x=r:=⟨_,rfl⟩;rw [Cj.out,hrf] at l8;have⟨PK,wT,HX,BYH⟩:=Bz l8 hrf hx bY;obtain⟨xh,Fg⟩:∃h,x.h=h:=⟨_,rfl⟩;rw [Fg] at q0 PK hY y0;clear kY hb hx Vt TR hrf l8 bY anZ Fg;cases rf with
   | false=>
    have DU:=A3 (show ¬Rv n cd G P L rl il from fun h=>by
     have h1:=h.2.2.2.2 x (Bf HX.out);rw [Cj.out,wT.out] at h1
     cases h1)
    go_wp2_with (go_at_call 45;refine PK.out.mono ?_;rintro e w' ⟨rfl,hb2⟩;have B2:=A3 (LR.out.trans ((BYH.out.trans (hb2.mono BYH.out.size)).mono LR.out.size));clear hb2);go_ret3;exact⟨⟨fun h=>absurd h DU.out,fun _=>rfl⟩,B2.out⟩
   | true=>
    have Dz:=A3 (show ∀i y,i<k+1→L[i]?=some y→Kc gn y=true from fun i y hi hy=>by
     by_cases e:i=k
     ·subst e
      rw [HX.out] at hy;cases hy;exact wT.out
     ·exact EC.out i y A0 hy)
    go_wp2_with (go_at_call 45;refine PK.out.mono ?_;rintro e w' ⟨rfl,hb2⟩;have B2:=A3 (HB.out.trans ((BYH.out.trans (hb2.mono BYH.out.size)).mono HB.out.size));clear hb2);go_roundw;case rel=>exact⟨k+1,by omega,by go_num,Dz.out,B2.out⟩
    case measure=>exact Aa
  ·obtain rfl:ln=k:=by omega
   have dk:decide ((ln:Int)<(ln:Int))=false:=by simp
   have Yu:=A3 (show ∀x∈L,Kc gn x=true from fun x hx=>by
    obtain⟨i,hi⟩:=LH.1 hx
    exact EC.out i x (by rw [←Nu.out];exact (Bl.1 hi).1) hi)
   have Ng:=A3 (show Rv n cd G P L rl il from⟨Fw.out,QK.out,by rw [Oc.out,Cj.out];exact DD.out,by rw [Cj.out];exact Sh.out,by rw [Cj.out];exact Yu.out⟩);obtain⟨iI,E5,E7,DT,Dw⟩:=D5 NQ;obtain⟨cI,U4⟩:∃c,madeCells (Value.int .i64 0).cells (ln*1)=c:=⟨_,rfl⟩;have hcs:cI.size=ln:=by rw [←U4];simp [madeCells]
   have mkI:∀W,(Instr.makeSlice 38 (.int .i64 0) (.int .i64 (ln:Int))).run Tryz.prog W=.ok (.slice (some ⟨W.heap.size,0,none⟩) 0 ln) (W.alloc (.cells cI 3)):=fun W=>by
    have hr:=V9 (P:=Tryz.prog) W 38 3 iI _ Ey E5 E7 .i64 .i64 0 (ln:Int) A0 A0 dH A0;rw [DT,Dk] at hr;rw [hr,← U4];rfl
   obtain⟨Y,hY⟩:=AA (wr.alloc (.cells cI 3));have bY:Below wr.heap.size wr Y:=hY▸(AP _ _).alloc (AH _) _;have Rp:=A3 (show Y.ownsRow W.heap.size 3 1 (.slice (some ⟨wr.heap.size,0,none⟩) 0 ln) 0 (Av []) from
    ⟨by simp,.inr ⟨wr.heap.size,ln,cI,rfl,sb,hY▸Ai _ _,by omega,by unfold maxLen;omega,by rw [hcs];omega,by simp⟩⟩)
   have BY:=A3 (hb.trans (bY.mono hb.size));clear hb bY U4 hcs EC Sh HB LR;go_upto_region 12 with fail;clear mkI hY;go_loopw [15,18,19,20,21,22,23,24,67] (fun a15 a18 a19 a20 a21 a22 a23 a24 a67 wx=>∃(k:Nat) (out:List Int),k≤ln∧a67=.int .i64 (k:Int)∧(IL cd G rl (L.take k) []=.inl out∧out.length=k)∧wx.ownsRow W.heap.size 3 1 a15 k (Av out)∧Below W.heap.size W wx) (fun _ _ _ _ _ _ _ _ a67 _=>ln - (intOf a67).toNat);case atStart=>exact⟨0,[],by omega,rfl,⟨rfl,rfl⟩,Rp.out,BY.out⟩
   case round=>
    clear Rp BY;obtain⟨k,out,hk,rfl,⟨hfn,hol⟩,hown,hb⟩:=hrel;have⟨TY,HOL,WU,HB,LR⟩:=Fi hfn hol hown hb (BW.out.trans (hb.mono BW.out.size));have sb':=hb.size;obtain⟨oA,Ot,hoa⟩:∃oA Ot,u15=Value.slice oA k Ot:=by
     rcases hown.2 with⟨h,h'⟩|⟨g,cap',cur,h,_⟩
     ·exact⟨_,_,by rw [h,h']⟩
     ·exact⟨_,_,h⟩
    subst hoa;clear hfn hol hown;by_cases hlt:k<ln
    ·have dk:decide ((k:Int)<(ln:Int))=true:=AR A0
     have ikl:(k:Int)<(ln:Int):=by omega
     obtain⟨lb,lo,x,A1,m1,cp1,A2,m2,cp2,p,rfl,hlb,hx,q0,q1,q2,q3,Vt,TR⟩:=Ik.out.at_ LR.out (k:=k) (by rw [Nu.out];exact hlt);have Y9:lb<wr.heap.size:=by have:=LR.out.size;omega
     obtain⟨⟨hx',E9,hxn⟩,hkb,hkl⟩:=nQ (Yu.out x (Bf hx));have⟨HX,Wv,HKB,HKL⟩:=Bz hx E9 hkb hkl;obtain⟨Y,hY⟩:=AA (wr.alloc (.cells #[.int .i64 (hx':Int),(.slice A1 m1 cp1),(.slice A2 m2 cp2),.int .i64 p] 46));obtain⟨b17,YI⟩:∃b,wr.heap.size=b:=⟨_,rfl⟩;have bY:Below wr.heap.size wr Y:=hY▸(AP _ _).alloc (AH _) _;have kY:Y.heap[b17]?=some (.cells #[.int .i64 (hx':Int),(.slice A1 m1 cp1),(.slice A2 m2 cp2),.int .i64 p] 46 (0,0)):=by rw [←YI,← hY];exact Ai _ _
     obtain⟨y0,y1,y2,y3,y4⟩:=Ep kY;have⟨BY,BYR⟩:=AL (hb.trans (bY.mono hb.size)) bY;have Z7:Below w.heap.size w Y:=LR.out.trans (bY.mono LR.out.size);have⟨H1Y,H2Y⟩:=AL (Vt.below Z7) (TR.below Z7);obtain⟨rb,ro,YD,hrb,hrc⟩:=OJ.out (by rw [Oc.out,DD.out];omega);have xr:Y.cell? ⟨rb,ro+hx',none⟩=some (.bool (rl.getD hx' false)):=(Z7.cell (p:=⟨rb,_,none⟩) hrb).trans (hrc hx' (by rw [Oc.out,DD.out];exact hxn));have srb:rb<Y.heap.size:=by have:=Z7.size;omega
     have y5:Y.cell? ⟨w.heap.size+1+1,0,none⟩=some (.slice JM rn Gp):=(BY.out.cell (p:=⟨w.heap.size+1+1,0,none⟩) d4).trans D1.out;have y6:w.heap.size+1+1<Y.heap.size:=by omega
     have ixr:(hx':Int)<(rn:Int):=by rw [DD.out];omega
     have HOY:=A3 (CH WU.out bY);have vD:=A3 (show ∀(W2:World) (f:Int) (W':World) (v':Value) row,Below W.heap.size W W2→(W2.alloc (.cells #[.int .i64 f] 3)).grownBy W' row→row=(Value.slice oA k Ot).ownBlock→W2.ownsRow W.heap.size 3 1 (.slice oA k Ot) k (Av out)→W'.ownsRow W.heap.size 3 1 v' (k+1) (Av out++[.int .i64 f])→W'.ownsRow W.heap.size 3 1 v' (k+1) (Av (out++[f]))∧Below W.heap.size W W' from fun W2 f W' v' row hb2 h1 h2 ho h3=>by
      subst h2
      refine⟨by simpa [Av] using h3,(hb2.alloc hb2.size _).grown h1 (by rw [El];have:=hb2.size;omega) (fun k hk=>(ho.lt k hk).1)⟩)
     have tN:=A3 (show ∀s,P8 cd G rl x=s→IL cd G rl (L.take (k+1)) []=if s.2=true then .inl (out++[s.1]) else .inr (hx':Int) from fun s hs=>by
      rw [H8 HX.out,qR TY.out,hs,Wv.out])
     have uY:=A3 (show ∀f:Int,(out++[f]).length=k+1 from fun f=>by rw [FO,HOL.out];rfl);obtain⟨r0,hr0⟩:∃r,rl.getD hx' false=r:=⟨_,rfl⟩;rw [hr0] at xr;have ZW:=A3 hr0;rw [E9] at q0;subst YD;go_upto_region 14 with fail;clear q0 q1 q2 q3 hx E9 hkb hkl bY kY Z7 hr0 hb Vt TR hY;refine Cg A6 A6 ?_;repeat (go_big_quiet_step (fail))
     refine Ba ?_;rintro _ ⟨x1,rfl⟩;obtain⟨Z,hZ⟩:=AA x1.w;have bZ:Below Y.heap.size Y Z:=hZ▸x1.h;rw [hZ];have z0:=(bZ.cell (p:=⟨b17,0,none⟩) y4).trans y0;have z1:=(bZ.cell (p:=⟨b17,1,none⟩) y4).trans y1;have z2:=(bZ.cell (p:=⟨b17,2,none⟩) y4).trans y2;have z3:=(bZ.cell (p:=⟨b17,3,none⟩) y4).trans y3;have sz:=bZ.size;have z4:b17<Z.heap.size:=by omega
     have⟨BZ,HOZ,H1Z,H2Z⟩:=Bz (BY.out.trans (bZ.mono BY.out.size)) (CH HOY.out bZ) (H1Y.out.below bZ) (H2Y.out.below bZ);have szW:=BZ.out.size;clear hZ bZ y0 y1 y2 y3 y4 y5 y6 xr srb ixr x1;cases r0 with
     | false=>
      have Vi:=A3 (tN.out (0,true) (by unfold P8;rw [Wv.out,Dk,ZW.out];rfl));go_wp2_with (at_builtin;refine Kf _ rfl (.tmp 115) (.tmp 117) 38 rfl W.heap.size 3 iI (.int .i64 0) 1 8 Ey E5 E7 DT Dw rfl AK (.slice oA k Ot) k (Av out) rfl (HOZ.out.alloc _) ⟨Z.heap.size,0,none⟩ 1 1 [.int .i64 0] rfl rfl (DV _ _ _) BS Bc A0 Hz ?_;intro v' W' hown' hgrow _ Ce;have F1:=A3 (vD.out Z 0 W' v' _ BZ.out hgrow rfl HOZ.out hown');clear hown' hgrow Ce);go_roundw;case rel=>exact⟨k+1,_,by omega,by go_num,⟨Vi.out,uY.out 0⟩,F1.out.1,F1.out.2⟩
      case measure=>exact Aa
     | true=>
      obtain⟨gr,-⟩:=Q3 (Ic.2 Fw.out.ne) (GB.of Fw.out Rc).lt;have fT:=A3 (HS.out.below BZ.out);have Q1:=A3 (rC fT.out Rc x p (.slice A1 m1 cp1) (.slice A2 m2 cp2) H1Z.out H2Z.out (by rw [Cj.out];exact HKB.out));rw [Wv.out,Cj.out] at Q1;obtain⟨YZ,nY⟩:=oG HKL.out;have⟨lH,aot⟩:=AL YZ nY;clear YZ nY;go_wp2_with fail;refine Q1.out.mono ?_;rintro e W3 ⟨ig,rfl,hin,hb3⟩;have t0:=(hb3.cell (p:=⟨b17,0,none⟩) z4).trans z0;have t1:=(hb3.cell (p:=⟨b17,1,none⟩) z4).trans z1;have t2:=(hb3.cell (p:=⟨b17,2,none⟩) z4).trans z2;have t3:=(hb3.cell (p:=⟨b17,3,none⟩) z4).trans z3;have s3:=hb3.size;have t4:b17<W3.heap.size:=by omega
      have Ei:=A3 (eZ (l:=EH gn x.bl) (by rw [SX];exact hin));have Yx:=A3 (rX (fT.out.below hb3) (GB.of Fw.out Rc) gr HT.out hx' x.bl (x.la.map Int.toNat) ig gn (.slice A1 m1 cp1) (.slice A2 m2 cp2) p (by have:=Ei.out;rw [Cj.out];exact this) (H1Z.out.below hb3) (by rw [lH.out];exact H2Z.out.below hb3) (fun l hl=>HAR.out Fw.out l (by rw [Cj.out];exact aot.out l hl)) (by rw [ED];exact I7.out x (Bf HX.out)));rw [Cj.out] at Yx;have⟨B3,BZ3⟩:=AL (BZ.out.trans (hb3.mono BZ.out.size)) hb3;clear hin hb3 z0 z1 z2 z3 z4 Q1;go_wp2_with fail;refine Yx.out.mono ?_;rintro e W4 ⟨pg,rfl,hpw,hb4⟩;have⟨T0,T1,T2,T3⟩:=Bz ((hb4.cell (p:=⟨b17,0,none⟩) t4).trans t0) ((hb4.cell (p:=⟨b17,1,none⟩) t4).trans t1) ((hb4.cell (p:=⟨b17,2,none⟩) t4).trans t2) ((hb4.cell (p:=⟨b17,3,none⟩) t4).trans t3);have s4:=hb4.size;have X0:b17<W4.heap.size:=by omega
      have B4:=A3 (B3.out.trans (hb4.mono B3.out.size));have HPW:=A3 (eZ (l:=Fb G (FR cd G) D hx' x.bl (x.la.map Int.toNat) gn) (by rw [Xn,Cj.out];exact hpw));have⟨qJ,BZ4⟩:=AL (Ei.out.below hb4) (BZ3.out.trans (hb4.mono BZ3.out.size));have N2:=A3 (show ∀(r:Int) (W5:World),Below W4.heap.size W4 W5→Calls Tryz.prog 47 #[.pointer (some ⟨sp,0,none⟩),.agg #[.int .i64 (hx':Int),(.slice A1 m1 cp1),(.slice A2 m2 cp2),.int .i64 p],.slice (some ⟨ig,0,none⟩) gn gn,.slice (some ⟨pg,0,none⟩) gn gn,.int .i64 r] W5 fun e w'=>e=.returned (.tuple #[.int .i64 (Dr cd G x r).1,.bool (Dr cd G x r).2])∧Below W5.heap.size W5 w' from fun r W5 hb5=>by
       have h:=sG ((HS.out.below B4.out).below hb5) Rc ((TW.out.below B4.out).below hb5) (rE Sl.out XC.out QK.out) (sr HN6.out Rc XC.out QK.out) hx' p (.slice A1 m1 cp1) (.slice A2 m2 cp2) _ _ _ _ (qJ.out.below hb5) (by rw [SX,Cj.out]) (HPW.out.below hb5) (by rw [Xn]) r;have e1:Io r (F0 r (EH gn x.bl) (Fb G (FR cd G) D hx' x.bl (x.la.map Int.toNat) gn) (FC cd G) gn)=Dr cd G x r:=by
        rw [Dr,Uj,Ff.eq Fw.out Rc HT.out,Wv.out,Cj.out];rfl
       rw [Cj.out,e1] at h
       exact h)
      have HL4:=A3 (show P8 cd G rl x=(Fa.map (Dr cd G x)).foldl Ij (0,false) from by unfold P8;rw [Wv.out,Dk,ZW.out];rfl);clear hpw hb4 t0 t1 t2 t3 t4 Yx Ei qJ HPW;go_upto_region 19 with fail;obtain⟨wo,NF⟩:∃wo:World,wo=wr:=⟨_,rfl⟩;subst NF;go_loopw [18,19,22,23,24] (fun a18 a19 a22 a23 a24 wz=>∃(j:Nat) (r:Int) (s:Int×Bool),j≤4∧r=10+(j:Int)∧a22=.int .i64 r∧((Fa.take j).map (Dr cd G x)).foldl Ij (0,false)=s∧a18=.int .i64 s.1∧a19=.bool s.2∧Below W4.heap.size W4 wz) (fun _ _ a22 _ _ _=>14 - (intOf a22).toNat);case atStart=>exact⟨0,10,(0,false),by omega,rfl,rfl,rfl,rfl,rfl,AP _ _⟩
      case round=>
       obtain⟨j,r,s,hj,hr,rfl,hs,rfl,rfl,hb5⟩:=hrel;have JU:=A3 hr;have hr0:10≤r:=by omega
       have hr9:r≤14:=by omega
       clear hr;obtain⟨s1,s2⟩:=s;have⟨HS5,Kr⟩:=AL hs hb5;have s5:=hb5.size;simp only;clear hs;by_cases Tg:r≤13
       ·have dj:decide (r≤13)=true:=AR Tg
        have hj4:j<4:=by have:=JU.out;omega
        have p0:=(hb5.cell (p:=⟨b17,0,none⟩) X0).trans T0.out;have p1:=(hb5.cell (p:=⟨b17,1,none⟩) X0).trans T1.out;have p2:=(hb5.cell (p:=⟨b17,2,none⟩) X0).trans T2.out;have p3:=(hb5.cell (p:=⟨b17,3,none⟩) X0).trans T3.out;have p4:b17<wr.heap.size:=by omega
        obtain⟨C,hC⟩:=AA (Dr cd G x r);obtain⟨c1,c2⟩:=C;have Zw:=A3 (show Calls Tryz.prog 47 #[.pointer (some ⟨sp,0,none⟩),.agg #[.int .i64 (hx':Int),(.slice A1 m1 cp1),(.slice A2 m2 cp2),.int .i64 p],.slice (some ⟨ig,0,none⟩) gn gn,.slice (some ⟨pg,0,none⟩) gn gn,.int .i64 r] wr fun e w'=>e=.returned (.tuple #[.int .i64 c1,.bool c2])∧Below wr.heap.size wr w' from by
         have:=N2.out r wr hb5;rw [hC] at this
         exact this)
        have hat:Fa[j]?=some r:=by
         rw [JU.out];match j,hj4 with
         | 0,_=>rfl
         | 1,_=>rfl
         | 2,_=>rfl
         | 3,_=>rfl
        have hst:=aoD (Dr cd G x) hat (0,false);rw [HS5.out,hC] at hst;have HST:=A3 hst;obtain⟨ql,hql⟩:∃q,decide (c1<s1)=q:=⟨_,rfl⟩;have bK:=A3 (show (ql=true↔c1<s1) by rw [←hql];exact decide_eq_true_iff);clear hb5 hC hat hst HS5;rcases c2 with _|_
        ·have HN:=A3 (show ((Fa.take (j+1)).map (Dr cd G x)).foldl Ij (0,false)=(s1,s2) from by rw [HST.out];rfl)
         go_wp2_with (go_at_call 47;refine Zw.out.mono ?_;rintro e w' ⟨rfl,hb6⟩;have B6:=A3 hb6;clear hb6);go_roundw;case rel=>exact⟨j+1,r+1,(s1,s2),by have:=JU.out;omega,by have:=JU.out;omega,rfl,HN.out,rfl,rfl,Kr.out.trans (B6.out.mono Kr.out.size)⟩
         case measure=>exact Aa
        ·rcases s2 with _|_
         ·have HN:=A3 (show ((Fa.take (j+1)).map (Dr cd G x)).foldl Ij (0,false)=(c1,true) from by rw [HST.out];simp [Ij])
          go_wp2_with (go_at_call 47;refine Zw.out.mono ?_;rintro e w' ⟨rfl,hb6⟩;have B6:=A3 hb6;clear hb6);go_roundw;case rel=>exact⟨j+1,r+1,(c1,true),by have:=JU.out;omega,by have:=JU.out;omega,rfl,HN.out,rfl,rfl,Kr.out.trans (B6.out.mono Kr.out.size)⟩
          case measure=>exact Aa
         ·rcases ql with _|_
          ·have HN:=A3 (show ((Fa.take (j+1)).map (Dr cd G x)).foldl Ij (0,false)=(s1,true) from by
            rw [HST.out];unfold Ij;rw [A9];rintro⟨_,h⟩;rcases h with h|h
            ·cases h
            ·have:=bK.out.2 h;cases this)
           go_wp2_with (go_at_call 47;refine Zw.out.mono ?_;rintro e w' ⟨rfl,hb6⟩;have B6:=A3 hb6;clear hb6);go_roundw;case rel=>exact⟨j+1,r+1,(s1,true),by have:=JU.out;omega,by have:=JU.out;omega,rfl,HN.out,rfl,rfl,Kr.out.trans (B6.out.mono Kr.out.size)⟩
           case measure=>exact Aa
          ·have HN:=A3 (show ((Fa.take (j+1)).map (Dr cd G x)).foldl Ij (0,false)=(c1,true) from by
            rw [HST.out];unfold Ij;rw [AE ⟨rfl,.inr (bK.out.1 rfl)⟩])
           go_wp2_with (go_at_call 47;refine Zw.out.mono ?_;rintro e w' ⟨rfl,hb6⟩;have B6:=A3 hb6;clear hb6);go_roundw;case rel=>exact⟨j+1,r+1,(c1,true),by have:=JU.out;omega,by have:=JU.out;omega,rfl,HN.out,rfl,rfl,Kr.out.trans (B6.out.mono Kr.out.size)⟩
           case measure=>exact Aa
       ·obtain rfl:j=4:=by have:=JU.out;omega
        have dj:decide (r≤13)=false:=Aq Tg;have Vi:=A3 (tN.out (s1,s2) (by rw [HL4.out];exact HS5.out));have B5:=A3 (B4.out.trans (hb5.mono B4.out.size));have p0:=(hb5.cell (p:=⟨b17,0,none⟩) X0).trans T0.out;have p4:b17<wr.heap.size:=by omega
        have HO5:=A3 (CH (CH HOZ.out BZ4.out) hb5);have s5W:=B5.out.size;clear hb5;cases s2 with
        | false=>
         have Lm:=A3 (show IL cd G rl L []=.inr (hx':Int) from by
          have h1:IL cd G rl (L.take (k+1)) []=.inr (hx':Int):=by rw [Vi.out,A9 AO]
          have h2:=ud h1 (L.drop (k+1))
          rwa [ZM] at h2)
         go_upto_region 25 with fail;refine Cg A6 A6 ?_;repeat (go_big_quiet_step (fail))
         refine Ba ?_;rintro _ ⟨x2,rfl⟩;have SC:=A3 (BW.out.trans ((B5.out.trans (x2.h.mono B5.out.size)).mono BW.out.size));go_wp2_with fail;go_ret3;exact⟨⟨fun _=>by rw [Lm.out];rfl,fun h=>absurd Ng.out h⟩,SC.out⟩
        | true=>
         have acZ:=A3 (show IL cd G rl (L.take (k+1)) []=.inl (out++[s1]) from by rw [Vi.out,AE rfl]);go_wp2_with (at_builtin;refine Kf _ rfl (.tmp 115) (.tmp 117) 38 rfl W.heap.size 3 iI (.int .i64 0) 1 8 Ey E5 E7 DT Dw rfl AK (.slice oA k Ot) k (Av out) rfl (HO5.out.alloc _) ⟨wr.heap.size,0,none⟩ 1 1 [.int .i64 s1] rfl rfl (DV _ _ _) BS Bc A0 Hz ?_;intro v' W' hown' hgrow _ Ce;have F1:=A3 (vD.out wr s1 W' v' _ B5.out hgrow rfl HO5.out hown');clear hown' hgrow Ce);go_roundw;case rel=>exact⟨k+1,_,by omega,by go_num,⟨acZ.out,uY.out s1⟩,F1.out.1,F1.out.2⟩
         case measure=>exact Aa
    ·obtain rfl:ln=k:=by omega
     have dk:decide ((ln:Int)<(ln:Int))=false:=by simp
     have Lm:=A3 (show IL cd G rl L []=.inl out from by rw [←TY.out,Gq (by rw [Nu.out];exact AH _)]);have SD:=A3 (MF (l:=out) (by rw [HOL.out];exact WU.out));have BE:=A3 (BW.out.trans (hb.mono BW.out.size));clear hb;go_wp2_with fail;go_ret3;exact⟨⟨fun _=>by rw [Lm.out];exact⟨_,rfl,SD.out⟩,fun h=>absurd Ng.out h⟩,BE.out⟩
def L9:ByteArray:={ data:=#[116] }
theorem apP (v:Value) (l:List Ins) (w:World) (T:C8 w) (H:nk w v l) (hl:l.length≤1000) (hop:∀x∈l,0≤x.op) :
  Calls Tryz.prog 29 #[v] w fun e w'=>(∃cv ev A cap,e=.returned (.agg #[cv,ev,.int .i64 0,.int .i64 0])∧cv=.slice A l.length cap∧w'.ownsRow w.heap.size 70 1 cv l.length (Jl (l.map fun i=>(encI i).1))∧Il w' ev [⟨L9,0,l.length,0⟩])∧Below w.heap.size w w':=by
 obtain⟨A,cap,rfl,h1,h2,h3⟩:=H.at_;have⟨HC,HT,Fq⟩:=B8 h3 T hop;unfold maxLen at h2;clear h3 T hop H;obtain⟨iW,hiW,hW0,hW1,hW2⟩:=D5 tX;go_enter Tryz.func29,Tryz.ntmps29;go_upto_region 3 with fail;obtain⟨V,hV⟩:=AA (((w.alloc (.cells #[.slice none 0 0,.slice none 0 0,.int .i64 0,.int .i64 0] 25)).alloc (.cells #[.string { data:=#[116] },.int .i64 0,.int .i64 (l.length:Int),.int .i64 0] 75)).alloc (.cells #[.slice none 0 0,.slice (some ⟨w.heap.size+1,0,none⟩) 1 1,.int .i64 0,.int .i64 0] 25));have sV:V.heap.size=w.heap.size+3:=by rw [←hV];simp
 have bV:Below w.heap.size w V:=hV▸(((AP _ _).alloc (AH _) _).alloc AO _).alloc Cl _;have kr:V.heap[w.heap.size]?=some (.cells #[.slice none 0 0,.slice none 0 0,.int .i64 0,.int .i64 0] 25):=by rw [←hV,Bb _ _ (by simp;try omega),Bb _ _ AO];exact Ai _ _
 have ke:V.heap[w.heap.size+1]?=some (.cells #[.string { data:=#[116] },.int .i64 0,.int .i64 (l.length:Int),.int .i64 0] 75):=by rw [←hV,Bb _ _ AO];exact E4 _ _ AO
 have ki:V.heap[w.heap.size+1+1]?=some (.cells #[.slice none 0 0,.slice (some ⟨w.heap.size+1,0,none⟩) 1 1,.int .i64 0,.int .i64 0] 25):=by rw [←hV];exact E4 _ _ AO
 have Sh:=A3 (show IG V V (w.heap.size+1+1) (.slice none 0 0) (.slice (some ⟨w.heap.size+1,0,none⟩) 1 1) [] from⟨by omega,rfl,rfl,rfl,AH _,fun _ _ _=>rfl,ki,JV _ _ _ _⟩);rw [hV];obtain⟨ib,hib⟩:=AA (w.heap.size+1+1);rw [hib] at Sh ⊢;obtain⟨eb,heb⟩:=AA (w.heap.size+1);rw [heb] at Sh ke ⊢;have⟨BV,KR,KE⟩:=B8 bV kr ke;clear hV ki kr ke bV;go_loopw [4,5,6] (fun a4 a5 a6 wr=>∃(j:Nat) (cv:Value),j≤l.length∧a4=.int .i64 (j:Int)∧IG V wr ib cv (.slice (some ⟨eb,0,none⟩) 1 1) ((l.take j).map fun i=>(encI i).1)) (fun a4 _ _ _=>l.length - (intOf a4).toNat);case atStart=>exact⟨0,_,Ck _,rfl,Sh.out⟩
 case round=>
  obtain⟨j,cv,hj,rfl,hG⟩:=hrel;clear Sh;have HG:=A3 hG;have BW:=A3 (hG.base BV.out A0);have sB2:=hG.sz;clear hG;by_cases hlt:j<l.length
  ·obtain⟨b,off,rfl,hb,hc⟩:=HC.out A0
   obtain⟨i,hi⟩:=AA (l[j]);have hx:l[j]?=some i:=by rw [Aj hlt,hi]
   obtain⟨c0,c1,c2,c3,c4⟩:=hc j i hx;have x0:wr.cell? ⟨b,off+j*5,none⟩=some (.int .u8 i.op):=by rw [BW.out.cell (p:=⟨b,_,none⟩) hb];exact c0
   have x1:wr.cell? ⟨b,off+j*5+1,none⟩=some (.int .i64 i.a):=by rw [BW.out.cell (p:=⟨b,_,none⟩) hb];exact c1
   have x2:wr.cell? ⟨b,off+j*5+2,none⟩=some (.int .i64 i.b):=by rw [BW.out.cell (p:=⟨b,_,none⟩) hb];exact c2
   have x3:wr.cell? ⟨b,off+j*5+3,none⟩=some (.int .i64 i.c):=by rw [BW.out.cell (p:=⟨b,_,none⟩) hb];exact c3
   have x4:wr.cell? ⟨b,off+j*5+4,none⟩=some (.int .i64 i.AG):=by rw [BW.out.cell (p:=⟨b,_,none⟩) hb];exact c4
   have WA:=A3 (show (l.take (j+1)).map (fun i=>(encI i).1)=(l.take j).map (fun i=>(encI i).1)++[(encI i).1] by rw [H8 hx];simp);have hop:=Fq.out i (Bf hx);have dl:decide ((j:Int)<(l.length:Int))=true:=by simpa using hlt
   have P7:=A3 (oz i hop wr (HT.out.below BW.out));obtain⟨ec,er,hec⟩:∃ec er,encI i=(ec,er):=⟨_,_,rfl⟩;rw [hec] at P7 WA;simp only at P7 WA;obtain⟨ws,bO⟩:=AA ((l.take j).map (fun i=>(encI i).1));have hwl:ws.length=j:=by rw [←bO];simp;omega
   rw [bO] at HG WA;have HWL:=A3 hwl;clear hc c0 c1 c2 c3 c4 hx hi hec bO hwl hop;go_upto_region 6 with (go_at_call 23;refine P7.out.mono ?_;rintro e Y ⟨rfl,hbY⟩);have Q6:=HG.out.below hbY;obtain⟨cA,Cp,rfl⟩:∃cA Cp,cv=.slice cA ws.length Cp:=by
    rcases Q6.row.2 with⟨h,h'⟩|⟨g,cap',cur,h,_⟩
    ·exact⟨_,_,by rw [h,h']⟩
    ·exact⟨_,_,h⟩
   have i0:Y.cell? ⟨ib,0,none⟩=some (.slice cA ws.length Cp):=by simp [World.cell?,Q6.im]
   have f0:Y.frozen? ⟨ib,0,none⟩=false:=by simp [World.frozen?,Q6.im]
   have HGY:=A3 Q6;have ZY:=A3 (show some ib≠Value.ownBlock (.slice cA ws.length Cp) from fun e'=>by have:=(Q6.row.lt ib e'.symm).1;have:=Q6.ib1;omega);have hiY:ib<Y.heap.size:=by have:=Q6.sz;have:=Q6.ib1;omega
   have hw5:ws.length≤1000:=by have:=HWL.out;omega
   clear Q6 hbY P7 x0 x1 x2 x3 x4;go_upto_region 4 with (at_builtin;refine Kf _ rfl (.tmp 27) (.tmp 29) 22 rfl V.heap.size 70 iW (.int .u32 0) 1 4 lf hiW hW0 hW1 hW2 rfl AK (.slice cA ws.length Cp) _ _ rfl (HGY.out.row.alloc _) ⟨Y.heap.size,0,none⟩ 1 1 [.int .u32 ec] rfl rfl (DV _ _ _) BS Bc A0 Hz ?_;intro v' W' hown' hgrow _ Ce;obtain⟨g',cap',rfl⟩:=GI hown';have hc1:=hgrow.cell (a:=⟨ib,0,none⟩) (v:=.slice cA ws.length Cp) GK ZY.out;have hf1:W'.frozen? ⟨ib,0,none⟩=false:=(Pb (hgrow.block ib Cl ZY.out)).trans GK);have HA:=A3 (HGY.out.app (x:=ec) ((AP Y.heap.size Y).alloc (AH _) _) hgrow (by simpa [Jl] using hown'));clear hc1 hf1 Ce hgrow hown' i0 f0 HGY ZY;go_wp2_with fail;go_roundw;case rel=>
    refine⟨j+1,.slice (some ⟨g',0,none⟩) (ws.length+1) cap',by omega,by go_num,?_⟩;rw [WA.out];exact HA.out
   case measure=>exact Aa
  ·obtain rfl:j=l.length:=by omega
   have dl:decide ((l.length:Int)<(l.length:Int))=false:=by simp
   rw [Hx] at HG;have hwl:(l.map fun i=>(encI i).1).length=l.length:=by simp
   have hrw:=HG.out.row;rw [hwl] at hrw;obtain⟨cA,Cp,rfl⟩:∃cA Cp,cv=.slice cA l.length Cp:=by
    rcases hrw.2 with⟨h,h'⟩|⟨g,cap',cur,h,_⟩
    ·exact⟨_,_,by rw [h,h']⟩
    ·exact⟨_,_,h⟩
   have i0:wr.cell? ⟨ib,0,none⟩=some (.slice cA l.length Cp):=by simp [World.cell?,HG.out.im]
   have i1:wr.cell? ⟨ib,1,none⟩=some (.slice (some ⟨eb,0,none⟩) 1 1):=by simp [World.cell?,HG.out.im]
   have i2:wr.cell? ⟨ib,2,none⟩=some (.int .i64 0):=by simp [World.cell?,HG.out.im]
   have i3:wr.cell? ⟨ib,3,none⟩=some (.int .i64 0):=by simp [World.cell?,HG.out.im]
   have kr:=(HG.out.blk w.heap.size A0 A0).trans KR.out;have ke:=(HG.out.blk eb A0 A0).trans KE.out;have r0:wr.cell? ⟨w.heap.size,0,none⟩=some (.slice none 0 0):=by simp [World.cell?,kr]
   have r1:wr.cell? ⟨w.heap.size,1,none⟩=some (.slice none 0 0):=by simp [World.cell?,kr]
   have r2:wr.cell? ⟨w.heap.size,2,none⟩=some (.int .i64 0):=by simp [World.cell?,kr]
   have r3:wr.cell? ⟨w.heap.size,3,none⟩=some (.int .i64 0):=by simp [World.cell?,kr]
   have f0:wr.frozen? ⟨w.heap.size,0,none⟩=false:=by simp [World.frozen?,kr]
   have f1:wr.frozen? ⟨w.heap.size,1,none⟩=false:=by simp [World.frozen?,kr]
   have f2:wr.frozen? ⟨w.heap.size,2,none⟩=false:=by simp [World.frozen?,kr]
   have f3:wr.frozen? ⟨w.heap.size,3,none⟩=false:=by simp [World.frozen?,kr]
   have⟨Wy,KE2⟩:=AL hrw ke;clear hrw kr ke hwl;go_wp2_with fail;refine Al (v:=.agg #[.slice cA l.length Cp,.slice (some ⟨eb,0,none⟩) 1 1,.int .i64 0,.int .i64 0]) (by simp [results,Tryz.results29,go_sem, *]) rfl ⟨⟨_,_,_,_,rfl,rfl,?_,?_⟩,?_⟩
   ·refine ownsRow_base (base:=V.heap.size) ?_ A0
    have hne:∀q,(Value.slice cA l.length Cp).ownBlock=some q→q≠w.heap.size:=fun q hq=>by have:=(Wy.out.lt q hq).1;omega
    refine OU (OU (OU (OU Wy.out ?_ _) ?_ _) ?_ _) ?_ _<;>exact fun e=>hne _ e rfl
   ·refine⟨fun e he=>by simp at he;subst he;show L9.size≤maxLen;unfold maxLen;decide,_,1,rfl,AH _,by unfold maxLen;omega,fun _=>⟨eb,0,rfl,by simp;omega,fun i x hx=>?_⟩⟩
    obtain⟨rfl,rfl⟩:i=0∧x=⟨L9,0,l.length,0⟩:=by
     cases i with
     | zero=>simp at hx;exact⟨rfl,hx.symm⟩
     | succ i=>simp at hx
    have hb:((((wr.setCell ⟨w.heap.size,0,none⟩ (.slice cA l.length Cp)).setCell ⟨w.heap.size,1,none⟩ (.slice (some ⟨eb,0,none⟩) 1 1)).setCell ⟨w.heap.size,2,none⟩ (.int .i64 0)).setCell ⟨w.heap.size,3,none⟩ (.int .i64 0)).heap[eb]?=wr.heap[eb]?:=by
     have:eb≠w.heap.size:=by omega
     rw [BL _ _ _ _ this,BL _ _ _ _ this,BL _ _ _ _ this,BL _ _ _ _ this]
    have hb2:=hb.trans KE2.out;refine⟨?_,?_,?_,?_⟩<;>simp [World.cell?,hb2,L9]
   ·refine CJ (CJ (CJ (CJ BW.out ?_ _) ?_ _) ?_ _) ?_ _<;>exact AH _
section
def Tt (nx:Nat→List Nat) (ord:List Nat) (a b:Nat):Prop:=a=b∨a∈ord∧Dom nx a b
structure RH (n:Nat) (nx:Nat→List Nat) (ord:List Nat) (b a:Nat):Prop where
  b0:0<b
  hb:b∈ord
  ne:a≠b
  ha:a∈ord
  dom:Tt nx ord a b
  all:∀c,c<n→c≠b→c≠a→c∈ord→Tt nx ord c b→Tt nx ord c a
section
variable {n:Nat} {nx:Nat→List Nat} {ord:List Nat} {pos:Nat→Nat} {D:List Int}
theorem IM.AG (g:Gr n nx ord pos) (t:IM n nx ord pos D) {b a:Nat} (e:D.getD b (-1)=(a:Int)) (x:Nat):RH n nx ord b x↔x=a:=by
  have hu:=t.ti.up b a e;have hab:a≠b:=fun h=>by have:=hu.2.2.1;rw [h] at this;omega
  have hA:Ah D b a:=.up e (.self a);have hD:Dom nx a b:=(t.ex b hu.1 a).1 hA;constructor
  · intro h
    have hx:Ah D b x:=(t.ex b hu.1 x).2 (by
      rcases h.dom with h1|h1
      · exact absurd h1 h.ne
      · exact h1.2)
    rcases (Ah.step e).1 hx with h1|h1
    · exact absurd h1 h.ne
    · by_cases Gt:x=a
      · exact Gt
      · rcases h.all a (g.lt a hu.2.1) hab (Ds Gt) hu.2.1 (.inr ⟨hu.2.1,hD⟩) with h2|h2
        · exact h2.symm
        · have h3:=(t.ex x h.ha a).2 h2.2
          have h4:=t.ti.le h3;have h5:=(t.ti.Ob h1).2.2.2 (Ds Gt);omega
  · rintro rfl
    refine⟨?_,hu.1,hab,hu.2.1,.inr ⟨hu.2.1,hD⟩,fun c hc h1 h2 h3 h4=>?_⟩
    · rcases TC b with h|h
      · subst h
        rw [t.ti.z] at e;omega
      · exact h
    · rcases h4 with h4|h4
      · exact absurd h4 h1
      · have h5:=(t.ex b hu.1 c).2 h4.2
        rcases (Ah.step e).1 h5 with h6|h6
        · exact absurd h6 h1
        · exact .inr ⟨h3,(t.ex x hu.2.1 c).1 h6⟩
theorem IM.none (t:IM n nx ord pos D) {b:Nat} (e:D.getD b (-1) = -1) (x:Nat):¬RH n nx ord b x:=by
  intro h;rcases t.all b h.hb with h1|h1
  · have:=h.b0;omega
  · omega
theorem IM.case (t:IM n nx ord pos D) (b:Nat):D.getD b (-1) = -1∨∃a:Nat,D.getD b (-1)=(a:Int):=by
  have:=t.ti.ge b;by_cases h:D.getD b (-1) = -1
  · exact .inl h
  · exact .inr ⟨(D.getD b (-1)).toNat,by omega⟩
end
def RA (nx:Nat→List Nat) (s:Int) (x:Nat):Prop:=∃l,Path nx x l∧∀z∈l,(z:Int)≠s
theorem RA.zero {nx:Nat→List Nat} {s:Int} (h:s≠0):RA nx s 0:=⟨[0],.nil,fun z hz=>by
  obtain rfl:z=0:=by simpa using hz
  exact Ds h⟩
theorem RA.step {nx:Nat→List Nat} {s:Int} {x y:Nat} (h:RA nx s x) (hy:y∈nx x) (hs:(y:Int)≠s):RA nx s y:=by
  obtain⟨l,h1,h2⟩:=h;exact⟨y :: l,.step h1 hy,fun z hz=>by
    rcases Di.1 hz with rfl|hz
    · exact hs
    · exact h2 z hz⟩
theorem RA.no {nx:Nat→List Nat} {x:Nat}:¬RA nx 0 x:=fun ⟨l,h1,h2⟩=>h2 0 h1.zero rfl
theorem RA.all {n:Nat} {nx:Nat→List Nat} {ord:List Nat} {pos:Nat→Nat} (g:Gr n nx ord pos) {x:Nat}:RA nx (-1) x↔x∈ord:=
  ⟨fun ⟨l,h1,_⟩=>(g.mem h1).1,fun h=>by
    obtain⟨l,hl⟩:=g.path h
    exact⟨l,hl,fun z _=>by omega⟩⟩
theorem RA.dom {nx:Nat→List Nat} {a b:Nat}:¬RA nx (a:Int) b↔Dom nx a b:=by
  constructor
  · intro h l hl
    by_cases ha:a∈l
    · exact ha
    · refine absurd (⟨l,hl,fun z hz e=>ha ?_⟩:RA nx (a:Int) b) h
      have:z=a:=by omega
      rwa [this] at hz
  · rintro h ⟨l,hl,hs⟩
    exact hs a (h l hl) rfl
structure Mo (nx:Nat→List Nat) (s:Int) (r:Nat) (S:Nat→Prop):Prop where
  only:∀x,S x→RA nx s x
  has:∀x l,Path nx x l→(∀z∈l,(z:Int)≠s)→l.length≤r+1→S x
theorem Mo.done {n:Nat} {nx:Nat→List Nat} {s:Int} {S:Nat→Prop} (h:Mo nx s n S) (hlt:∀x l,Path nx x l→∀z∈l,z<n) (x:Nat):S x↔RA nx s x:=by
  refine⟨h.only x,?_⟩;rintro⟨l,h1,h2⟩;obtain⟨l',h3,h4,h5⟩:=h1.simple;have:=OS h4 (hlt x l' h3);exact h.has x l' h3 (fun z hz=>h2 z (h5 z hz)) A0
structure KH (nx:Nat→List Nat) (s:Int) (r:Nat) (Pr:Nat→Prop) (S:Nat→Prop):Prop where
  Ov:Mo nx s r S
  cl:∀x l,Path nx x l→(∀z∈l,(z:Int)≠s)→l.length≤r+1→Pr x→∀y∈nx x,(y:Int)≠s→S y
theorem KH.start {nx:Nat→List Nat} {s:Int} {r:Nat} {S:Nat→Prop} (h:Mo nx s r S):KH nx s r (fun _=>False) S:=⟨h,fun _ _ _ _ _ h=>h.elim⟩
theorem KH.done {nx:Nat→List Nat} {s:Int} {r:Nat} {S Pr:Nat→Prop} (h:KH nx s r Pr S) (hp:∀x l,Path nx x l→Pr x):Mo nx s (r+1) S:=by
  refine⟨h.Ov.only,fun x l hl hs hn=>?_⟩;cases hl with
  | nil=>exact h.Ov.has 0 [0] .nil hs AO
  | @step p _ l h1 h2=>
    have h3:∀z∈l,(z:Int)≠s:=fun z hz=>hs z (F9 _ hz);exact h.cl p l h1 h3 (by simpa using hn) (hp p l h1) x h2 (hs x Jo)
theorem KH.next {nx:Nat→List Nat} {s:Int} {r:Nat} {S S' Pr Pr':Nat→Prop} (h:KH nx s r Pr S) (hg:∀x,S x→S' x) (ho:∀x,S' x→RA nx s x) (hi:∀x,Pr' x→Pr x∨(S x→∀y∈nx x,(y:Int)≠s→S' y)):KH nx s r Pr' S':=by
  refine⟨⟨ho,fun x l h1 h2 h3=>hg x (h.Ov.has x l h1 h2 h3)⟩,fun x l h1 h2 h3 h4 y hy h5=>?_⟩;rcases hi x h4 with h6|h6
  · exact hg y (h.cl x l h1 h2 h3 h6 y hy h5)
  · exact h6 (h.Ov.has x l h1 h2 h3) y hy h5
def L6 (nx:Nat→List Nat) (CY:Nat→Bool) (hd y:Nat):List Nat:=if y≠hd∧CY y=true then (nx y).filter (fun t=>decide (t≠hd) && CY t) else []
def J6 (nx:Nat→List Nat) (CY:Nat→Bool) (hd b:Nat):Nat→List Nat
  | 0=>(L6 nx CY hd b).map (· + 1)
  | y+1=>(L6 nx CY hd y).map (· + 1)
def JY (S:Nat→Prop) (z:Nat):Prop:=z=0∨∃y,z=y+1∧S y
section
variable {nx:Nat→List Nat} {CY:Nat→Bool} {hd b:Nat}
theorem N4 {x y:Nat}:y∈L6 nx CY hd x↔x≠hd∧CY x=true∧y∈nx x∧y≠hd∧CY y=true:=by
  unfold L6;split
  · rename_i h
    rw [Sz];simp [h.1,h.2]
  · rename_i h
    simp only [Xb,false_iff];rintro⟨h1,h2,_⟩;exact h ⟨h1,h2⟩
theorem ank:Mo (J6 nx CY hd b) (-1) 0 (JY fun _=>False):=by
  refine⟨fun x hx=>?_,fun x l h1 h2 h3=>?_⟩
  · rcases hx with rfl|⟨_,_,h⟩
    · exact RA.zero A0
    · exact h.elim
  · cases h1 with
    | nil=>exact .inl rfl
    | @step p _ l h4 h5=>
      have:0<l.length:=List.length_pos_of_mem h4.head;rw [GD] at h3;omega
theorem aiO {n:Nat} (hlt:∀x,∀t∈nx x,t<n):∀x l,Path (J6 nx CY hd b) x l→∀z∈l,z<n+1:=by
  intro x l h;induction h with
  | nil => intro z hz;obtain rfl:z=0:=by simpa using hz
           omega
  | @step p y l h1 h2 ih=>
    intro z hz;rcases Di.1 hz with rfl|hz
    · cases p with
      | zero=>
        obtain⟨t,h3,rfl⟩:=Bx.1 h2;have:=hlt _ t (N4.1 h3).2.2.1;omega
      | succ p=>
        obtain⟨t,h3,rfl⟩:=Bx.1 h2;have:=hlt _ t (N4.1 h3).2.2.1;omega
    · exact ih z hz
theorem rK (hb:b≠hd) (hi:CY b=true):RA (J6 nx CY hd b) (-1) (b+1)↔MG nx (fun x=>CY x=true) hd b:=by
  constructor
  · rintro⟨l,hl,-⟩
    have key:∀z l,Path (J6 nx CY hd b) z l→z=0∨∃y,z=y+1∧∃x,Rb nx (fun x=>CY x=true) hd b x∧y∈nx x∧y≠hd∧CY y=true:=by
      intro z l h;induction h with
      | nil=>exact .inl rfl
      | @step p y l h1 h2 ih=>
        refine .inr ?_;rcases ih with rfl|⟨x,rfl,x',h3,h4,h5,h6⟩
        · obtain⟨t,h7,rfl⟩:=Bx.1 h2
          have h8:=N4.1 h7;exact⟨t,rfl,b,.self,h8.2.2⟩
        · obtain⟨t,h7,rfl⟩:=Bx.1 h2
          have h8:=N4.1 h7;exact⟨t,rfl,x,.step h3 h4 h5 h6,h8.2.2⟩
    rcases key _ l hl with h|⟨y,h1,x,h2,h3,_⟩
    · omega
    · obtain rfl:b=y:=by omega
      exact⟨x,h2,h3⟩
  · rintro⟨x,hx,JC⟩
    have key:∀z,Rb nx (fun x=>CY x=true) hd b z→z≠hd∧CY z=true∧(z=b∨∃l,Path (J6 nx CY hd b) (z+1) l):=fun z hz=>by
      induction hz with
      | self=>exact⟨hb,hi,.inl rfl⟩
      | @step x y _ h1 h2 h3 ih=>
        refine⟨h2,h3,.inr ?_⟩;have h4:y∈L6 nx CY hd x:=N4.2 ⟨ih.1,ih.2.1,h1,h2,h3⟩;rcases ih.2.2 with rfl|⟨l,hl⟩
        · exact⟨_,.step .nil (Bx.2 ⟨y,h4,rfl⟩)⟩
        · exact⟨_,.step hl (Bx.2 ⟨y,h4,rfl⟩)⟩
    have h1:=key x hx;have h4:b∈L6 nx CY hd x:=N4.2 ⟨h1.1,h1.2.1,JC,hb,hi⟩;rcases h1.2.2 with rfl|⟨l,hl⟩
    · exact⟨_,.step .nil (Bx.2 ⟨x,h4,rfl⟩),fun z _=>by omega⟩
    · exact⟨_,.step hl (Bx.2 ⟨b,h4,rfl⟩),fun z _=>by omega⟩
end
end
def SJ:List Ins:=[⟨14,10,0,0,0⟩,⟨25,10,0,0,4⟩,⟨15,10,10,0,1⟩,⟨15,5,10,0,-4⟩,⟨23,5,0,0,-4⟩,⟨1,0,0,0,0⟩]
def bsC:List Int:=SJ.map fun i=>(encI i).1
def Ap (i:Nat):Int:=bsC.getD i 0
theorem anQ:∀x∈bsC,0≤x∧x<4294967296:=by decide +kernel
theorem bs0:BB (Ap 0)=(⟨14,10,0,0,0⟩,0):=by decide +kernel
theorem bs1:BB (Ap 1)=(⟨25,10,0,0,4⟩,0):=by decide +kernel
theorem bs2:BB (Ap 2)=(⟨15,10,10,0,1⟩,0):=by decide +kernel
theorem bs3:BB (Ap 3)=(⟨15,5,10,0,-4⟩,0):=by decide +kernel
theorem bs4:BB (Ap 4)=(⟨23,5,0,0,-4⟩,0):=by decide +kernel
theorem bs5:BB (Ap 5)=(⟨1,0,0,0,0⟩,0):=by decide +kernel
theorem aX:Ak Ap 0=⟨14,10,0,0,0⟩:=by show (BB (Ap 0)).1=_;rw [bs0]
theorem bP:Ak Ap 1=⟨25,10,0,0,4⟩:=by show (BB (Ap 1)).1=_;rw [bs1]
theorem Zu:Ak Ap 2=⟨15,10,10,0,1⟩:=by show (BB (Ap 2)).1=_;rw [bs2]
theorem az:Ak Ap 3=⟨15,5,10,0,-4⟩:=by show (BB (Ap 3)).1=_;rw [bs3]
theorem bk:Ak Ap 4=⟨23,5,0,0,-4⟩:=by show (BB (Ap 4)).1=_;rw [bs4]
theorem eM:Ak Ap 5=⟨1,0,0,0,0⟩:=by show (BB (Ap 5)).1=_;rw [bs5]
theorem anj:Ru 6 Ap [⟨L9,0,6,0⟩] 0 0:=by
 refine⟨by omega,by simp,by omega,by omega,by simp,fun e he=>?_,⟨rfl,by simp,rfl⟩,fun e he k h1 h2=>?_⟩
 ·simp at he;subst he
  show 1≤L9.size∧L9.size≤12;decide
 ·simp at he;subst he
  simp only at h1 h2;obtain rfl|rfl|rfl|rfl|rfl|rfl:k=0∨k=1∨k=2∨k=3∨k=4∨k=5:=by omega
  ·refine⟨by show (BB (Ap 0)).2=0;rw [bs0],fun h=>?_,fun h=>?_⟩
   ·have:DF (Ak Ap 0).op=true:=h
    rw [aX] at this;simp [DF] at this
   ·have:(Ak Ap 0).op=28∨(Ak Ap 0).op=29:=h
    rw [aX] at this;simp at this
  ·refine⟨by show (BB (Ap 1)).2=0;rw [bs1],fun h=>?_,fun h=>?_⟩
   ·have:DF (Ak Ap 1).op=true:=h
    rw [bP] at this;simp [DF] at this
   ·have:(Ak Ap 1).op=28∨(Ak Ap 1).op=29:=h
    rw [bP] at this;simp at this
  ·refine⟨by show (BB (Ap 2)).2=0;rw [bs2],fun h=>?_,fun h=>?_⟩
   ·have:DF (Ak Ap 2).op=true:=h
    rw [Zu] at this;simp [DF] at this
   ·have:(Ak Ap 2).op=28∨(Ak Ap 2).op=29:=h
    rw [Zu] at this;simp at this
  ·refine⟨by show (BB (Ap 3)).2=0;rw [bs3],fun h=>?_,fun h=>?_⟩
   ·have:DF (Ak Ap 3).op=true:=h
    rw [az] at this;simp [DF] at this
   ·have:(Ak Ap 3).op=28∨(Ak Ap 3).op=29:=h
    rw [az] at this;simp at this
  ·refine⟨by show (BB (Ap 4)).2=0;rw [bs4],fun h=>?_,fun h=>?_⟩
   ·show (0:Int)≤4+1+(Ak Ap 4).AG∧4+1+(Ak Ap 4).AG<6
    rw [bk];decide
   ·have:(Ak Ap 4).op=28∨(Ak Ap 4).op=29:=h
    rw [bk] at this;simp at this
  ·refine⟨by show (BB (Ap 5)).2=0;rw [bs5],fun h=>?_,fun h=>?_⟩
   ·have:DF (Ak Ap 5).op=true:=h
    rw [eM] at this;simp [DF] at this
   ·have:(Ak Ap 5).op=28∨(Ak Ap 5).op=29:=h
    rw [eM] at this;simp at this
theorem pI:Ch (Ak Ap 0) 0=[1]:=by rw [aX];decide
theorem o6:Ch (Ak Ap 1) 1=[2]:=by rw [bP];decide
theorem uN:Ch (Ak Ap 2) 2=[3]:=by rw [Zu];decide
theorem pY:Ch (Ak Ap 3) 3=[4]:=by rw [az];decide
theorem oB:Ch (Ak Ap 4) 4=[5,1]:=by rw [bk];decide
theorem zf:Ch (Ak Ap 5) 5=[]:=by rw [eM];decide
theorem mE (x:Int):EO (Ak Ap) 0 6 x↔x∈[(0:Int),1,2,3,4,5]:=by
 constructor
 ·intro h
  have:=h.range _ _ _ A0;simp;omega
 ·intro h
  have r0:EO (Ak Ap) 0 6 0:=EO.start;have r1:EO (Ak Ap) 0 6 1:=EO.step r0 (by rw [pI];simp) A0 A0;have r2:EO (Ak Ap) 0 6 2:=EO.step r1 (by rw [o6];simp) A0 A0;have r3:EO (Ak Ap) 0 6 3:=EO.step r2 (by rw [uN];simp) A0 A0;have r4:EO (Ak Ap) 0 6 4:=EO.step r3 (by rw [pY];simp) A0 A0;have r5:EO (Ak Ap) 0 6 5:=EO.step r4 (by rw [oB];simp) A0 A0;simp at h;rcases h with rfl|rfl|rfl|rfl|rfl|rfl
  ·exact r0
  ·exact r1
  ·exact r2
  ·exact r3
  ·exact r4
  ·exact r5
theorem x8 (x:Int) (h:x∈[(0:Int),1,2,3,4,5]):¬MV (Ak Ap) 0 6 x:=by
 rintro⟨t,ht,hn⟩;simp at h;rcases h with rfl|rfl|rfl|rfl|rfl|rfl
 ·rw [pI] at ht;simp at ht;omega
 ·rw [o6] at ht;simp at ht;omega
 ·rw [uN] at ht;simp at ht;omega
 ·rw [pY] at ht;simp at ht;omega
 ·rw [oB] at ht;simp at ht;omega
 ·rw [zf] at ht;simp at ht
def bsB:List (Int×Int):=[(0,1),(1,5),(5,6)]
theorem vP:blk (Ak Ap) 0 [0,1,2,3,4,5] 6=bsB:=by decide +kernel
def Au:List AV:=[⟨0,1,[1]⟩,⟨1,5,[2,1]⟩,⟨5,6,[]⟩]
def J0:List (List Int):=[[],[0,1],[1]]
theorem nR:EF (Ak Ap) bsB=Au:=by decide +kernel
theorem qN:Je (Ak Ap) bsB=J0:=by decide +kernel
theorem tK:Ea Au J0:=by
 refine⟨by simp [Au],rfl,⟨6,⟨by simp,by simp,by simp,by simp [Au],by simp [Au]⟩,⟨by simp,by simp,by simp,by simp [Au],by simp [Au]⟩,⟨by simp,by simp,by simp,by simp [Au],by simp [Au]⟩,rfl⟩,by decide⟩
theorem am8 {r:Res} (h:Out (Ak Ap) 0 6 r):r=⟨Au,J0,-1,0⟩:=by
 cases h with
 | bad D bad hb hR=>
  rcases hR.b with h|h
  ·omega
  ·exact absurd h.2.1 (x8 _ ((mE _).1 (hR.dr _ h.1)))
 | ok D hR=>
  have hm:∀x,x∈D↔x∈[(0:Int),1,2,3,4,5]:=fun x=>(hR.mem AO x).trans (mE x);rw [show ((6:Int) - 0).toNat=6 from rfl,mG _ _ hm,vP,nR,qN]
def Kz:List AB:=[⟨[⟨14,10,0,0,0⟩],[1]⟩,⟨[⟨25,10,0,0,4⟩,⟨15,10,10,0,1⟩,⟨15,5,10,0,-4⟩,⟨23,5,0,0,-4⟩],[2,1]⟩,⟨[⟨1,0,0,0,0⟩],[]⟩]
def O9 (h:Int):RG:=(Ao.set 5 (-3,0)).set 10 (0,h)
def bsQ:RG:=Ao.set 10 (1,4)
theorem wH:DG Kz (EW 3) 3=(⟨[true,true,false],[Ao,O9 1,Ao],[0,1,0]⟩,true):=by kernel_rfl
theorem qE:DG Kz (⟨[true,true,false],[Ao,O9 1,Ao],[0,1,0]⟩) 3=(⟨[true,true,false],[Ao,O9 2,Ao],[0,2,0]⟩,true):=by kernel_rfl
theorem rU:DG Kz (⟨[true,true,false],[Ao,O9 2,Ao],[0,2,0]⟩) 3=(⟨[true,true,false],[Ao,O9 2147483647,Ao],[0,3,0]⟩,true):=by kernel_rfl
theorem tE:DG Kz (⟨[true,true,false],[Ao,O9 2147483647,Ao],[0,3,0]⟩) 3=(⟨[true,true,true],[Ao,O9 2147483647,bsQ],[0,3,0]⟩,true):=by kernel_rfl
def PJ:AS:=⟨[true,true,true],[Ao,O9 2147483647,bsQ],[0,3,0]⟩
theorem ux:DG Kz PJ 3=(PJ,false):=by kernel_rfl
theorem apB:Ends Kz (EW 3) PJ:=by
 have hl:Kz.length=3:=rfl;have e4:Ends Kz PJ PJ:=by
  have:=Ends.done (B:=Kz) (s:=PJ) (by rw [hl,ux])
  rwa [hl,ux] at this
 have e3:Ends Kz (⟨[true,true,false],[Ao,O9 2147483647,Ao],[0,3,0]⟩) PJ:=Ends.more (by rw [hl,tE]) (by rw [hl,tE];exact e4);have e2:Ends Kz (⟨[true,true,false],[Ao,O9 2,Ao],[0,2,0]⟩) PJ:=Ends.more (by rw [hl,rU]) (by rw [hl,rU];exact e3);have e1:Ends Kz (⟨[true,true,false],[Ao,O9 1,Ao],[0,1,0]⟩) PJ:=Ends.more (by rw [hl,qE]) (by rw [hl,qE];exact e2);exact Ends.more (by rw [hl,wH]) (by rw [hl,wH];exact e1)
theorem uS:Bh Ap Au=Kz:=by
 have h0:codeFrom Ap 0 1=[⟨14,10,0,0,0⟩]:=by
  show [Ak Ap (0+0)]=_;rw [show ((0:Int)+0)=0 by omega,aX]
 have h1:codeFrom Ap 1 4=[⟨25,10,0,0,4⟩,⟨15,10,10,0,1⟩,⟨15,5,10,0,-4⟩,⟨23,5,0,0,-4⟩]:=by
  show [Ak Ap (1+0),Ak Ap (1+1),Ak Ap (1+2),Ak Ap (1+3)]=_;rw [show ((1:Int)+0)=1 by omega,show ((1:Int)+1)=2 by omega,show ((1:Int)+2)=3 by omega,show ((1:Int)+3)=4 by omega,bP,Zu,az,bk]
 have h2:codeFrom Ap 5 1=[⟨1,0,0,0,0⟩]:=by
  show [Ak Ap (5+0)]=_;rw [show ((5:Int)+0)=5 by omega,eM]
 show [AB.mk (codeFrom Ap 0 1) [1],AB.mk (codeFrom Ap 1 4) [2,1],AB.mk (codeFrom Ap 5 1) []]=Kz;rw [h0,h1,h2];rfl
theorem aoG {s:AS} (h:Ends (Bh Ap Au) (EW Au.length) s):s=PJ:=by
 rw [uS] at h;exact Ends.Sd h apB
theorem aqd:CR 3 (Ar Au)=[0,1,2]:=by decide +kernel
theorem o8:Dq 3 (Ar Au) 0=0:=by decide +kernel
theorem bI:Dq 3 (Ar Au) 1=1:=by decide +kernel
theorem uI:Dq 3 (Ar Au) 2=2:=by decide +kernel
theorem qL:Cf Au 3 []=[(0,1),(1,2),(1,1)]:=by decide +kernel
theorem nP:ZN Au:=by
 intro b hb;have hb:b<3:=hb;show b∈CR 3 (Ar Au);rw [aqd];simp;omega
theorem apT (D:List Int):Le (CR Au.length (Ar Au)) (Dq Au.length (Ar Au)) D (Cf Au Au.length []):=by
 show Le (CR 3 (Ar Au)) (Dq 3 (Ar Au)) D (Cf Au 3 []);rw [qL];intro e he;simp only [Di,Xb,VQ] at he;rcases he with rfl|rfl|rfl
 ·intro _ h
  have h:Dq 3 (Ar Au) 1≤Dq 3 (Ar Au) 0:=h;rw [o8,bI] at h;omega
 ·intro _ h
  have h:Dq 3 (Ar Au) 2≤Dq 3 (Ar Au) 1:=h;rw [bI,uI] at h;omega
 ·intro _ _
  exact .self 1
theorem mN:EP (CR 3 (Ar Au)) (Dq 3 (Ar Au)) (Cf Au 3 []) 1=[1]:=by decide +kernel
theorem aps (x:Nat) (h:EP (CR 3 (Ar Au)) (Dq 3 (Ar Au)) (Cf Au 3 []) x≠[]):x=1:=by
 rw [qL] at h;by_cases e:x=1
 ·exact e
 ·refine absurd ?_ h
  unfold EP;rw [List.map_eq_nil_iff,List.filter_eq_nil_iff];intro p hp;simp only [Di,Xb,VQ] at hp;rcases hp with rfl|rfl|rfl
  ·have:=o8;have:=bI
   simp;omega
  ·have:=bI;have:=uI
   simp;omega
  ·simp;omega
theorem p8 {l:List Int} (h:l.Pairwise (· < ·)) (hm:∀x,x∈l↔x=1):l=[1]:=by
 cases l with
 | nil=>exact absurd ((hm 1).2 rfl) AO
 | cons a l=>
  obtain rfl:=(hm a).1 AO;cases l with
  | nil=>rfl
  | cons b l=>
   obtain rfl:=(hm b).1 AO;simp at h
theorem ac5 {D:List Int} {L:List Lp} (h:LB J0 (CR Au.length (Ar Au)) (Dq Au.length (Ar Au)) (Cf Au Au.length []) D L):L=[⟨1,[1],[1]⟩]:=by
 have h1:L.map (·.h)=[1]:=p8 h.Rf fun x=>by
  rw [h.mem];show 0≤x∧EP (CR 3 (Ar Au)) (Dq 3 (Ar Au)) (Cf Au 3 []) x.toNat≠[]↔x=1;constructor
  ·rintro⟨a,b⟩
   have:=aps _ b;omega
  ·rintro rfl
   refine⟨by omega,?_⟩;rw [show (1:Int).toNat=1 from rfl,mN];simp
 obtain⟨x,rfl⟩:∃x,L=[x]:=by
  cases L with
  | nil=>simp at h1
  | cons x M=>
   cases M with
   | nil=>exact⟨x,rfl⟩
   | cons y M=>simp at h1
 ·obtain⟨xh,xb,xl⟩:=x
  obtain rfl:xh=1:=by simpa using h1
  obtain⟨h2,h3⟩:=h.each ⟨1,xb,xl⟩ AO;have h2:xl=Bg (EP (CR 3 (Ar Au)) (Dq 3 (Ar Au)) (Cf Au 3 []) 1):=h2;rw [mN] at h2;have h4:X6 (Dj J0) (·∈CR 3 (Ar Au)) 1 (EP (CR 3 (Ar Au)) (Dq 3 (Ar Au)) (Cf Au 3 []) 1) xb:=h3;rw [mN] at h4;have h5:xb=[1]:=p8 h4.Rf fun x=>by
   rw [h4.mem];constructor
   ·rintro⟨a,b⟩
    have key:∀y,S8 (Dj J0) (·∈CR 3 (Ar Au)) 1 [1] y→y=1:=fun y hy=>by
     induction hy with
     | hd=>rfl
     | lt h _=>simpa using h
     | up _ h1 _ _ ih=>exact absurd ih h1
    have:=key _ b;omega
   ·rintro rfl
    exact⟨by omega,.hd⟩
  rw [h2,h5];rfl
def FK:Lp:=⟨1,[1],[1]⟩
theorem sk:FC Ap Au=[[⟨14,10,0,0,0⟩],[⟨25,10,0,0,4⟩,⟨15,10,10,0,1⟩,⟨15,5,10,0,-4⟩,⟨23,5,0,0,-4⟩],[⟨1,0,0,0,0⟩]]:=by
 have h:=congrArg (List.map AB.code) uS;exact h
theorem anS:FR Ap Au=[true,true,false]∨FR Ap Au=[false,true,false]:=by
 unfold FR;rw [sk];decide
theorem am7:Uj Ap Au FK=[false,true,false]:=by
 have hr:(FR Ap Au).getD 1 false=true:=by
  rcases anS with h|h<;>rw [h]<;>rfl
 have h1:pB Au (FR Ap Au) (M5 Au) 1 [1] [1] 3 1=true:=UM.2 ⟨by omega,⟨by simp,hr,fun l hl=>by
  obtain rfl:l=1:=by simpa using hl
  exact .self 1,fun h=>h.1 rfl⟩⟩
 have h0:∀b,b≠1→pB Au (FR Ap Au) (M5 Au) 1 [1] [1] 3 b=false:=fun b hb=>by
  cases e:pB Au (FR Ap Au) (M5 Au) 1 [1] [1] 3 b with
  | false=>rfl
  | true=>
   have:=(UM.1 e).2.1;simp at this;omega
 show (List.range 3).map (pB Au (FR Ap Au) (M5 Au) 1 [1] [1] 3)=_;show [pB Au (FR Ap Au) (M5 Au) 1 [1] [1] 3 0,pB Au (FR Ap Au) (M5 Au) 1 [1] [1] 3 1,pB Au (FR Ap Au) (M5 Au) 1 [1] [1] 3 2]=_;rw [h1,h0 0 A0,h0 2 A0]
theorem eP (r:Int):Dr Ap Au FK r=Io r (F0 r [false,true,false] [false,true,false] [[⟨14,10,0,0,0⟩],[⟨25,10,0,0,4⟩,⟨15,10,10,0,1⟩,⟨15,5,10,0,-4⟩,⟨23,5,0,0,-4⟩],[⟨1,0,0,0,0⟩]] 3):=by
 unfold Dr;rw [am7,sk];rfl
theorem vR:Dr Ap Au FK 10=(4,true):=by rw [eP];decide +kernel
theorem aoo:Dr Ap Au FK 11=(0,false):=by rw [eP];decide +kernel
theorem yG:Dr Ap Au FK 12=(0,false):=by rw [eP];decide +kernel
theorem amA:Dr Ap Au FK 13=(0,false):=by rw [eP];decide +kernel
theorem amC:IL Ap Au [true,true,true] [FK] []=.inl [4]:=by
 have h:P8 Ap Au [true,true,true] FK=(4,true):=by
  unfold P8;rw [AE (by rfl)];show Ij (Ij (Ij (Ij (0,false) (Dr Ap Au FK 10)) (Dr Ap Au FK 11)) (Dr Ap Au FK 12)) (Dr Ap Au FK 13)=_;rw [vR,aoo,yG,amA];decide
 unfold IL;rw [h];rfl
theorem vM:Lu 6 Ap Au:=by
 have key:∀a:Nat,a<6→a<6∧(BB (Ap a)).2=0:=fun a ha=>by
  obtain rfl|rfl|rfl|rfl|rfl|rfl:a=0∨a=1∨a=2∨a=3∨a=4∨a=5:=by omega
  ·exact⟨by omega,by rw [bs0]⟩
  ·exact⟨by omega,by rw [bs1]⟩
  ·exact⟨by omega,by rw [bs2]⟩
  ·exact⟨by omega,by rw [bs3]⟩
  ·exact⟨by omega,by rw [bs4]⟩
  ·exact⟨by omega,by rw [bs5]⟩
 intro x hx a h1 h2;simp only [Au,Di,Xb,VQ] at hx;rcases hx with rfl|rfl|rfl
 ·exact key a (by simp only at h2;omega)
 ·exact key a (by simp only at h2;omega)
 ·exact key a (by simp only at h2;omega)
theorem tU:Kc Au.length FK=true:=by decide
theorem aoP:FT (EJ 6 Ap Au J0 FK) Fa=(10,4,true):=by
 have h:EJ 6 Ap Au J0 FK 10=(4,true):=by
  unfold EJ;rw [AE ⟨tK,vM,tU⟩,vR]
 show (if (EJ 6 Ap Au J0 FK 10).2=true then (10,(EJ 6 Ap Au J0 FK 10).1,true) else FT (EJ 6 Ap Au J0 FK) [11,12,13])=_;rw [h];rfl
section
theorem Mr.lF {w w':World} {v:Value} {n:Nat} {cd:Nat→Int} (h:Mr w v n cd) (hb:Below w.heap.size w w'):Mr w' v n cd:=by
 obtain⟨A,cap,h1,h2,h3,h4⟩:=h.at_;refine⟨h.wd,A,cap,h1,h2,h3,fun h0=>?_⟩;obtain⟨b,off,ha,hlt,hc⟩:=h4 h0;exact⟨b,off,ha,by have:=hb.size;omega,fun i hi=>(hb.cell (p:=⟨b,off+i,none⟩) hlt).trans (hc i hi)⟩
section
variable {w w':World} {q B:Nat} {T:TypeId} (hk:w.heap[q]?=some (.cells #[.slice none 0 0,.slice none 0 0] T (0,0))) (hw:∀p,p≠q→w'.heap[p]?=w.heap[p]?) (hs:w.heap.size≤w'.heap.size) (hqB:q<B)
include hk hw hs
include hqB
end
theorem De.mem {n:Nat}:∀ {l:List AV} {a z:Int},De n a l z→∀x∈l,∃e,SG n e x
 | [],a,z,_,x,hx=>by cases hx
 | y :: l,a,z,h,x,hx=>by
  rcases Di.1 hx with rfl|hx
  ·exact⟨a,h.1⟩
  ·exact De.mem h.2 x hx
end
section
structure Pt (w w':World) (S:Nat→Prop):Prop where
 hk:∀q,S q→∀o v,w.cell? ⟨q,o,none⟩=some v→∃A n c,v=.slice A n c
 hw:∀p,¬S p→w'.heap[p]?=w.heap[p]?
 hs:w.heap.size≤w'.heap.size
section
variable {w w':World} {S:Nat→Prop}
theorem Pt.cell (h:Pt w w' S) {b o:Nat} {v:Value} (hc:w.cell? ⟨b,o,none⟩=some v) (hv:∀A n c,v≠.slice A n c):w'.cell? ⟨b,o,none⟩=some v∧¬S b:=by
 have hne:¬S b:=fun hs=>by
  obtain⟨A,n,c,e⟩:=h.hk b hs o v hc;exact hv A n c e
 exact⟨(Df (h.hw b hne)).trans hc,hne⟩
theorem Pt.at_ (h:Pt w w' S) {b o:Nat} (hb:¬S b):w'.cell? ⟨b,o,none⟩=w.cell? ⟨b,o,none⟩:=Df (h.hw b hb)
theorem Ints.pt (k:Pt w w' S) {v:Value} {l:List Int} (h:Ints w v l):Ints w' v l:=by
 obtain⟨A,cap,h1,h2,h3,h4⟩:=h;refine⟨A,cap,h1,h2,h3,fun h0=>?_⟩;obtain⟨b,off,ha,hlt,hc⟩:=h4 h0;have hne:=(k.cell (hc 0 h0) AO).2;exact⟨b,off,ha,by have:=k.hs;omega,fun i hi=>(k.at_ hne).trans (hc i hi)⟩
theorem Dc.pt (k:Pt w w' S) {v:Value} {G:List AV} (h:Dc w v G):Dc w' v G:=by
 obtain⟨A,cap,h1,h2,h3,h4⟩:=h;refine⟨A,cap,h1,h2,h3,fun h0=>?_⟩;obtain⟨b,off,ha,hlt,hc⟩:=h4 h0;have hne:=(k.cell (hc 0 _ (Aj h0)).1 AO).2;refine⟨b,off,ha,by have:=k.hs;omega,fun i x hx=>?_⟩;obtain⟨c0,c1,nv,c2,c3⟩:=hc i x hx;exact⟨(k.at_ hne).trans c0,(k.at_ hne).trans c1,nv,(k.at_ hne).trans c2,c3.pt k⟩
theorem CO.pt (k:Pt w w' S) {v:Value} {P:List (List Int)} (h:CO w v P) (hn:∀p,v.ownBlock=some p→¬S p):CO w' v P:=by
 obtain⟨A,cap,h1,h2,h3,h4⟩:=h;refine⟨A,cap,h1,h2,h3,fun h0=>?_⟩;obtain⟨b,off,ha,hlt,hc⟩:=h4 h0;have hne:¬S b:=hn b (by rw [h1,ha];rfl);refine⟨b,off,ha,by have:=k.hs;omega,fun i x hx=>?_⟩;obtain⟨nv,c2,c3⟩:=hc i x hx;exact⟨nv,(k.at_ hne).trans c2,c3.pt k⟩
theorem Ih.pt (k:Pt w w' S) {v:Value} {L:List Lp} (h:Ih w v L):Ih w' v L:=by
 obtain⟨A,cap,h1,h2,h3,h4⟩:=h;refine⟨A,cap,h1,h2,h3,fun h0=>?_⟩;obtain⟨b,off,ha,hlt,hc⟩:=h4 h0;have hne:=(k.cell (hc 0 _ (Aj h0)).1 AO).2;refine⟨b,off,ha,by have:=k.hs;omega,fun i x hx=>?_⟩;obtain⟨c0,⟨u,c1,c2⟩,⟨u',c3,c4⟩,p,c5⟩:=hc i x hx;exact⟨(k.at_ hne).trans c0,⟨u,(k.at_ hne).trans c1,c2.pt k⟩,⟨u',(k.at_ hne).trans c3,c4.pt k⟩,p,(k.at_ hne).trans c5⟩
theorem Ho.pt (k:Pt w w' S) {v:Value} {l:List Bool} (h:Ho w v l):Ho w' v l:=by
 obtain⟨A,cap,h1,h2,h3,h4⟩:=h;refine⟨A,cap,h1,h2,h3,fun h0=>?_⟩;obtain⟨b,off,ha,hlt,hc⟩:=h4 h0;have hne:=(k.cell (hc 0 h0) AO).2;exact⟨b,off,ha,by have:=k.hs;omega,fun i hi=>(k.at_ hne).trans (hc i hi)⟩
end
theorem aiP {cd:Nat→Int} {G:List AV} {b:AB} (h:b∈Bh cd G):∃x∈G,b=⟨codeFrom cd x.lo (x.hi - x.lo).toNat,x.nx⟩:=by
 unfold Bh at h;obtain⟨x,hx,e⟩:=Bx.1 h;exact⟨x,hx,e.symm⟩
theorem aiT {n:Nat} {cd:Nat→Int} {G:List AV} {s:AS} (h0:0<G.length) (hok:∀x∈G,Uy n cd G x) (hE:Ends (Bh cd G) (EW G.length) s):Fx G.length s:=by
 have hl:=kN cd G;have h:=Ends.fx (B:=Bh cd G) (fun b hb=>by
  obtain⟨x,hx,rfl⟩:=aiP hb;rw [hl]
  exact⟨(hok x hx).abw.f,(hok x hx).abw.nx⟩) hE
 rw [hl] at h;exact h (apb h0)
theorem Tn.bls {w:World} {rv iv:Value} {rl:List Bool} {il:List RG} (h:Tn w rv iv rl il):Ho w rv rl∧∃A cap,iv=.slice A il.length cap∧il.length≤cap∧cap≤maxLen:=by
 obtain⟨h1,A,cap,h2,h3,h4,_⟩:=h;exact⟨h1,A,cap,h2,h3,h4⟩
structure Cv (n:Nat) (cd:Nat→Int) (AU:List CP) (sh lk:Int) (k:Nat) (en:CP) (G:List AV) (P:List (List Int)):Prop where
 he:AU[k]?=some en
 gd:Ru n cd AU sh lk
 out:Out (Ak cd) en.st en.en ⟨G,P,-1,0⟩
section
variable {n:Nat} {cd:Nat→Int} {AU:List CP} {sh lk:Int} {k:Nat} {en:CP} {G:List AV} {P:List (List Int)}
theorem Cv.range (h:Cv n cd AU sh lk k en G P):0≤en.st∧en.st<en.en∧en.en≤(n:Int):=E3.bounds h.gd.ch en (Bf h.he)
theorem Cv.inv (h:Cv n cd AU sh lk k en G P):∃(D:List Int) (L:List (Int×Int)),Eb (Ak cd) en.st en.en D [] (-1)∧L=blk (Ak cd) en.st D (en.en - en.st).toNat∧ES (Ak cd) en.st en.en D L∧en.st∈D∧G=EF (Ak cd) L∧P=Je (Ak cd) L:=by
 have hr:=h.range;cases h.out with
 | ok D hR=>
  refine⟨D,_,hR,rfl,ES.of hr.1 hr.2.1 hR,?_,rfl,rfl⟩;rcases hR.s with h|h
  ·exact h
  ·cases h
theorem Cv.val (h:Cv n cd AU sh lk k en G P):Ea G P:=by
 obtain⟨D,L,hR,hL,hG,hst,rfl,rfl⟩:=h.inv;exact hG.valid hst
theorem Cv.Zo (h:Cv n cd AU sh lk k en G P) (hn:G.length≤5000):ZN G:=by
 have hv:=h.val;obtain⟨D,L,hR,hL,hG,hst,rfl,rfl⟩:=h.inv;obtain⟨gr,-⟩:=Q3 (Ic.2 hv.ne) (GB.of hv hn).lt;intro b hb;have key:∀i,GR (EF (Ak cd) L) i→i∈CR (EF (Ak cd) L).length (Ar (EF (Ak cd) L)):=fun i hi=>by
  induction hi with
  | start=>exact gr.zero
  | @step b t x _ hx ht ih=>
   refine gr.closed b ih t ?_;rw [fF hx];exact Bx.2 ⟨(t:Int),ht,by simp⟩
 exact key b (ES.reached hL.symm hG hst b hb)
theorem Cv.len (h:Cv n cd AU sh lk k en G P):G.length≤n:=by
 have hr:=h.range;obtain⟨D,L,hR,hL,hG,hst,rfl,rfl⟩:=h.inv;rw [RQ,hL];have:=iu (Ak cd) en.st D (en.en - en.st).toNat;omega
theorem Cv.Zj (h:Cv n cd AU sh lk k en G P):∀x∈G,en.st≤x.lo∧x.lo<x.hi∧x.hi≤en.en:=by
 have hv:=h.val;obtain⟨D,L,hR,hL,hG,hst,rfl,rfl⟩:=h.inv;intro x hx;obtain⟨z,hz⟩:=hv.ok;obtain⟨e,he⟩:=hz.each x hx;unfold EF at hx;obtain⟨j,hj,E9⟩:=Bx.1 hx;have hj:=J9.1 hj;have hLj:L.getD j (0,0)∈L:=by
  rw [List.getD_eq_getElem?_getD,Aj hj];exact Cn hj
 have hlo:=hG.b.lo _ hLj;have e1:x.lo=(L.getD j (0,0)).1:=by rw [←E9]
 have e2:x.hi=(L.getD j (0,0)).2:=by rw [←E9]
 exact⟨by omega,by omega,by omega⟩
theorem Cv.Na (h:Cv n cd AU sh lk k en G P):Lu n cd G:=by
 intro x hx a h1 h2;have hi:=h.Zj x hx;have hr:=h.range;refine⟨by omega,?_⟩;have:=(h.gd.ins en (Bf h.he) a A0 A0).dec
 rwa [Dk] at this
theorem Cv.nx2 (h:Cv n cd AU sh lk k en G P):∀x∈G,x.nx.length≤2:=by
 obtain⟨z,hz⟩:=h.val.ok;intro x hx;obtain⟨e,he⟩:=hz.each x hx;exact he.two
theorem Cv.gok (h:Cv n cd AU sh lk k en G P) (hwd:∀i,i<n→0≤cd i∧cd i<4294967296):∀x∈G,Uy n cd G x:=by
 intro x hx;have hi:=h.Zj x hx;have hr:=h.range;obtain⟨z,hz⟩:=h.val.ok;obtain⟨e,he⟩:=hz.each x hx;have h2:=he.two;refine⟨by omega,by omega,by omega,he.nx,fun a h3 h4=>?_⟩;have hc:=h.Na x hx a h3 h4;refine⟨hc.1,hc.2,?_⟩;obtain⟨q,hq,_⟩:=WJ (hwd a hc.1).1 hc.2;have h5:=hq.op;unfold Ak;rw [Dk];omega
theorem Cv.same {P':List (List Int)} {G':List AV} (h:Cv n cd AU sh lk k en G P) (h':Out (Ak cd) en.st en.en ⟨G',P',-1,0⟩):G'=G∧P'=P:=by
 have hr:=h.range;have e:=Out.same hr.1 hr.2.1 (fun _ _ _=>rfl) h' h.out;cases e;exact⟨rfl,rfl⟩
end
end
def vF (n:Nat) (cd:Nat→Int) (AU:List CP) (sh lk task:Int):Prop:=∃(k:Nat) (en:CP) (G:List AV) (P:List (List Int)),task=(k:Int)∧Cv n cd AU sh lk k en G P
def zJ (w:World) (B:Nat) (n:Nat) (cd:Nat→Int) (AU:List CP) (sh lk task:Int) (e:Ending):Prop:=∃(k:Nat) (en:CP) (G:List AV) (P:List (List Int)) (A A':Option Addr) (c c':Nat),task=(k:Int)∧Cv n cd AU sh lk k en G P∧e=.returned (.tuple #[.agg #[.slice A G.length c,.slice A' P.length c'],.int .i64 (-1),.int .i64 0])∧Dc w (.slice A G.length c) G∧CO w (.slice A' P.length c') P∧gy B (.slice A G.length c) (.slice A' P.length c')
def ait (e:Ending):Prop:=∃at_ er:Int,er≠0∧e=.returned (.tuple #[.agg #[.slice none 0 0,.slice none 0 0],.int .i64 at_,.int .i64 er])
theorem oM (cv ev:Value) (sh lk:Int) (n:Nat) (cd:Nat→Int) (AU:List CP) (task:Int) (w:World) (T:C8 w) (HW:Words w cv n cd) (HE:Il w ev AU) :
  Calls Tryz.prog 12 #[.agg #[cv,ev,.int .i64 sh,.int .i64 lk],.int .i64 task] w fun e w'=>((vF n cd AU sh lk task∧zJ w' w.heap.size n cd AU sh lk task e)∨(¬vF n cd AU sh lk task∧ait e))∧Below w.heap.size w w':=by
 refine (aq9 cv ev sh lk n cd AU task w T HW HE).mono ?_;intro e w' h;rcases h with⟨hng,rfl,hb1⟩|⟨dw,hrg,rfl,hb1⟩|⟨dw,k,en,D,bad,hk,hen,hbd,hR,rfl,hb1⟩|⟨dw,k,en,D,L,bv,pv,rfl,hen,hR,hL,rfl,hG,hP,hb1,aY⟩
 ·exact⟨.inr ⟨fun ⟨_,_,_,_,_,g⟩=>hng g.gd,_,_,by decide,rfl⟩,hb1⟩
 ·refine⟨.inr ⟨fun ⟨k,_,_,_,e1,g⟩=>?_,_,_,by decide,rfl⟩,hb1⟩
  have:=(Bl.1 g.he).1;omega
 ·refine⟨.inr ⟨fun ⟨k',en',G,P,e1,g⟩=>?_,_,_,by decide,rfl⟩,hb1⟩
  obtain rfl:k=k':=by omega
  have h1:=g.he;rw [hen] at h1;cases h1;have hr:=g.range;have e:=Out.same hr.1 hr.2.1 (fun _ _ _=>rfl) (Out.bad D bad hbd hR) g.out;cases e
 ·have hbe:=E3.bounds dw.ch en (Bf hen)
  subst hL;have g:Cv n cd AU sh lk k en (EF (Ak cd) (blk (Ak cd) en.st D (en.en - en.st).toNat)) (Je (Ak cd) (blk (Ak cd) en.st D (en.en - en.st).toNat)):=⟨hen,dw,.ok D hR⟩;obtain⟨GA,B9,rfl,-,-⟩:=hG.slice;obtain⟨PA,B7,rfl,-,-⟩:=hP.slice;exact⟨.inl ⟨⟨k,en,_,_,rfl,g⟩,⟨k,en,_,_,GA,PA,B9,B7,rfl,g,rfl,hG,hP,aY⟩⟩,hb1⟩
end Go.Proofs.YtlmgkipmfgijiaaGreatDoor
