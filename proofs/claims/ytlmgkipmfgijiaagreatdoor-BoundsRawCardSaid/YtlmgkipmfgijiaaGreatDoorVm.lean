/-
  What is proved here: parts aAz.
-/
import Derived.Test.YtlmgkipmfgijiaaGreatDoorVa
import Derived.Test.YtlmgkipmfgijiaaGreatDoorVl
namespace Go.Proofs.YtlmgkipmfgijiaaGreatDoor
set_option linter.unusedVariables false
set_option linter.unusedSimpArgs false
set_option maxRecDepth 100000
set_option maxHeartbeats 8000000
open Go.RowKit
theorem arC (cv ev bv pv:Value) (sh lk:Int) (n:Nat) (cd:Nat→Int) (G:List AV) (P:List (List Int)) (w:World) (T:C8 w) (HW:Words w cv n cd) (HG:Dc w bv G) (HP:CO w pv P)
  (hv:Ea G P) (hg0:0<G.length) (hg1:G.length≤1000) (hok:∀x∈G,Uy n cd G x) :
  Calls Tryz.prog 52 #[.agg #[cv,ev,.int .i64 sh,.int .i64 lk],.agg #[bv,pv]] w fun e w'=>(∃s rv iv dv,Ends (Bh cd G) (EW G.length) s∧e=.returned (.tuple #[.agg #[rv,iv,dv],.int .i64 0])∧Tn w' rv iv s.reach s.Af∧U6 w' dv (GY (Bh cd G) s G.length)∧sH w.heap.size rv iv dv)∧Below w.heap.size w w':=by
 obtain⟨GA,B9,Du,g2,g3,g4⟩:=id HG;obtain⟨PA,B7,hpv,p2,p3,p4⟩:=id HP;obtain⟨V,hV,k0,k1,k2,bV,sV⟩:=Nf w #[cv,ev,.int .i64 sh,.int .i64 lk] #[bv,pv] #[.slice none 0 0,.slice none 0 0,.slice none 0 0] 25 31 59;have YQ:V.heap.size=w.heap.size+1+1+1:=by rw [←hV];simp
 have b0:V.cell? ⟨w.heap.size+1,0,none⟩=some bv:=by simp [World.cell?,k1]
 have b1:V.cell? ⟨w.heap.size+1,1,none⟩=some pv:=by simp [World.cell?,k1]
 have l1:w.heap.size+1<V.heap.size:=by omega
 have DN:=A3 (Yd bv pv G P V (HG.below bV) (HP.below bV) A0 (fun x hx=>by have:=(hok x hx).Hf;omega));obtain⟨gn,hgn⟩:∃m,G.length=m:=⟨_,rfl⟩;rw [hgn] at Du g2 hg0 hg1;rw [hgn];subst Du hpv;have⟨Cj,Em,OO,Oy,HT,BV,SV,K0⟩:=Ki hgn hok HW HG T bV YQ k0;have⟨K2,Sv,JZ⟩:=B8 k2 hv g4;clear hgn hok HW HG HP T bV sV YQ k0 k1 k2 hv g3 g4 p4 p3;go_enter Tryz.func52,Tryz.ntmps52;go_upto_region 3 with (go_at_call 35;refine DN.out.mono ?_;rintro e X ⟨⟨r,rfl,hr⟩,LI⟩;obtain rfl:r=true:=hr.2 Sv.out);have c0:X.cell? ⟨w.heap.size+1,0,none⟩=_:=(LI.cell (p:=⟨w.heap.size+1,0,none⟩) l1).trans b0;have c1:X.cell? ⟨w.heap.size+1,1,none⟩=_:=(LI.cell (p:=⟨w.heap.size+1,1,none⟩) l1).trans b1;have lX:w.heap.size+1<X.heap.size:=by have:=LI.size;omega
 have BX:=A3 LI;clear b0 b1 hr LI DN Sv hV;go_upto_region 4 with fail;obtain⟨cS,Tf⟩:∃c,((List.range gn).map fun _=>Value.slice none 0 0).toArray=c:=⟨_,rfl⟩;obtain⟨cB,hcB⟩:∃c,((List.replicate gn false).map Value.bool).toArray=c:=⟨_,rfl⟩;obtain⟨cR,hcR⟩:∃c,(JQ (List.replicate gn Ao)).toArray=c:=⟨_,rfl⟩;obtain⟨cI,U4⟩:∃c,((List.replicate gn (0:Int)).map (Value.int .i64)).toArray=c:=⟨_,rfl⟩;obtain⟨iA,YP,LG,hA1,Oa⟩:=D5 sD;obtain⟨iB,Nh,hB0,hB1,hB2⟩:=D5 tG;obtain⟨iC,hiC,Ub,hC1,hC2⟩:=D5 amT;obtain⟨iD,hiD,Eo,hD1,hD2⟩:=D5 amY;have mk1:∀W,(Instr.makeSlice 157 (.int .i64 (gn:Int)) (.int .i64 (gn:Int))).run Tryz.prog W=.ok (.slice (some ⟨W.heap.size,0,none⟩) gn gn) (W.alloc (.cells cS 144)):=fun W=>by
  have hr:=V9 (P:=Tryz.prog) W 157 144 iA _ Tryz.underlying157 YP LG .i64 .i64 (gn:Int) (gn:Int) A0 (JE _) (by rw [Oa];omega) A0;rw [hA1,Dk] at hr;rw [hr,← Tf,← p9];rfl
 have mk2:∀W,(Instr.makeSlice 55 (.int .i64 (gn:Int)) (.int .i64 (gn:Int))).run Tryz.prog W=.ok (.slice (some ⟨W.heap.size,0,none⟩) gn gn) (W.alloc (.cells cB 4)):=fun W=>by
  have hr:=V9 (P:=Tryz.prog) W 55 4 iB _ U8 Nh hB0 .i64 .i64 (gn:Int) (gn:Int) A0 (JE _) (by rw [hB2];omega) A0;rw [hB1,Dk] at hr;rw [hr,← hcB,← rS];rfl
 have mk3:∀W,(Instr.makeSlice 56 (.int .i64 (gn:Int)) (.int .i64 (gn:Int))).run Tryz.prog W=.ok (.slice (some ⟨W.heap.size,0,none⟩) gn gn) (W.alloc (.cells cR 174)):=fun W=>by
  have hr:=V9 (P:=Tryz.prog) W 56 174 iC _ Tryz.underlying56 hiC Ub .i64 .i64 (gn:Int) (gn:Int) A0 (JE _) (by rw [hC2];omega) A0;rw [hC1,Dk] at hr;rw [hr,← hcR,← aiG];rfl
 have mk4:∀W,(Instr.makeSlice 38 (.int .i64 (gn:Int)) (.int .i64 (gn:Int))).run Tryz.prog W=.ok (.slice (some ⟨W.heap.size,0,none⟩) gn gn) (W.alloc (.cells cI 3)):=fun W=>by
  have hr:=V9 (P:=Tryz.prog) W 38 3 iD _ Ey hiD Eo .i64 .i64 (gn:Int) (gn:Int) A0 (JE _) (by rw [hD2];omega) A0;rw [hD1,Dk] at hr;rw [hr,← U4,← aqf];rfl
 have⟨TP,PC,PK,HCI⟩:=Bz Tf hcB hcR U4;clear Tf hcB hcR U4 LG hA1 Oa hB0 hB1 hB2 Ub hC1 hC2 Eo hD1 hD2 YP Nh hiC hiD;go_cut [7] from 31 to 41 (fun a7 wx=>∃ab cb rb ib pb,a7=.pointer (some ⟨ab,0,none⟩)∧wx.heap[ab]?=some (.cells #[.slice GA gn B9,.slice PA P.length B7,.slice (some ⟨cb,0,none⟩) gn gn,.slice (some ⟨rb,0,none⟩) gn gn,.slice (some ⟨ib,0,none⟩) gn gn,.slice (some ⟨pb,0,none⟩) gn gn] 169 (0,0))∧wx.heap[cb]?=some (.cells cS 144 (0,0))∧wx.heap[rb]?=some (.cells cB 4 (0,0))∧wx.heap[ib]?=some (.cells cR 174 (0,0))∧wx.heap[pb]?=some (.cells cI 3 (0,0))∧(X.heap.size≤ab∧X.heap.size≤cb∧X.heap.size≤rb∧X.heap.size≤ib∧X.heap.size≤pb)∧Below X.heap.size X wx)
 case first=>
  go_region_held3 (fun w'=>(∀b o,b<X.heap.size→w'.cell? ⟨b,o,none⟩=X.cell? ⟨b,o,none⟩)∧Below X.heap.size X w') ((exact oD (by (repeat (first|(with_reducible exact AP _ _)|(with_reducible refine Gg ?_)|(with_reducible refine QH ?_ eD _)))))) (fail)
  all_goals (go_wp2_with fail;go_meet)
  all_goals
   refine⟨_,_,_,_,_,rfl,E4 _ _ AO,?_,?_,?_,?_,by omega,?_⟩
   ·(show (World.alloc _ _).heap[_]?=_);(repeat (first|exact Ai _ _|exact E4 _ _ ZB|rw [Bb _ _ Z9]))
   ·(show (World.alloc _ _).heap[_]?=_);(repeat (first|exact Ai _ _|exact E4 _ _ ZB|rw [Bb _ _ Z9]))
   ·(show (World.alloc _ _).heap[_]?=_);(repeat (first|exact Ai _ _|exact E4 _ _ ZB|rw [Bb _ _ Z9]))
   ·(show (World.alloc _ _).heap[_]?=_);(repeat (first|exact Ai _ _|exact E4 _ _ ZB|rw [Bb _ _ Z9]))
   ·(repeat (first|(with_reducible exact AP _ _)|(with_reducible refine Gg ?_)|(with_reducible refine QH ?_ eD _)))
 obtain⟨ab,cb,rb,ib,pb,rfl,hd1,hd2,hd3,hd4,hd5,⟨ha,hc,hr,hi,hp⟩,bW⟩:=hcut;obtain⟨W1,hW1⟩:∃W1:World,W1=wc:=⟨_,rfl⟩;subst hW1;rw [←TP.out] at hd2;rw [←PC.out] at hd3;rw [←PK.out] at hd4;rw [←HCI.out] at hd5;have HCM:=A3 (show CM X W1 ab cb rb ib pb gn (.slice GA gn B9) (.slice PA P.length B7) (fun _=>.slice none 0 0) (fun _=>[]) from
  ⟨bW,ha,hr,hi,hp,hd1,⟨by simp,.inr ⟨cb,gn,_,rfl,hc,hd2,AH _,by unfold maxLen;omega,by simp,by simp [Gq]⟩⟩,fun i hi=>JV _ _ _ _,fun i j hi hj _ q hq=>(by cases hq),hd3,hd4,hd5⟩)
 have bW1:=bW.size;have d0:W1.cell? ⟨w.heap.size+1,0,none⟩=_:=(bW.cell (p:=⟨w.heap.size+1,0,none⟩) lX).trans c0;have lW1:w.heap.size+1<W1.heap.size:=by omega
 clear hd1 hd2 hd3 hd4 hd5 ha hc hr hi hp bW TP PC PK HCI mk1 mk2 mk3 mk4;obtain⟨iI,E5,E7,DT,Dw⟩:=D5 ve;go_upto_region 6 with fail;clear d0 lW1;have eG:=BX.out.size;go_loopw [45] (fun a45 wr=>∃(k:Nat) (val:Nat→Value),k≤gn∧a45=.int .i64 (k:Int)∧CM X wr ab cb rb ib pb gn (.slice GA gn B9) (.slice PA P.length B7) val (D9 (DW cd G) k [])) (fun a45 _=>gn - (intOf a45).toNat);case atStart=>exact⟨0,_,by omega,rfl,by rw [vU];exact HCM.out⟩
 case round=>
  obtain⟨k,val,hk,rfl,hM⟩:=hrel;have HM:=A3 hM;have hrX:=hM.A7.size;clear hM;by_cases hlt:k<gn
  ·have dl:decide ((k:Int)<(gn:Int))=true:=AR A0
   have dk:(k:Int)<(gn:Int):=by omega
   obtain⟨x,hx⟩:∃x,G[k]?=some x:=⟨_,Aj (by rw [Cj.out];exact hlt)⟩;have hgo:=Em.out x (Bf hx);obtain⟨gq,Hv,rfl,NN,gc⟩:=JZ.out KN;obtain⟨e0,e1,nv,e2,QG⟩:=gc k x hx;obtain⟨nA,C6,rfl,n1,n2⟩:=ints_at QG;have n3:=Oo n2;have bw:Below w.heap.size w wr:=BV.out.trans ((BX.out.trans (HM.out.A7.mono BX.out.size)).mono BV.out.size);have f0:wr.cell? ⟨gq,Hv+k*3,none⟩=_:=(bw.cell (p:=⟨gq,_,none⟩) NN).trans e0;have f1:wr.cell? ⟨gq,Hv+k*3+1,none⟩=_:=(bw.cell (p:=⟨gq,_,none⟩) NN).trans e1;have f2:wr.cell? ⟨gq,Hv+k*3+2,none⟩=_:=(bw.cell (p:=⟨gq,_,none⟩) NN).trans e2;have lg:gq<wr.heap.size:=by have:=bw.size;omega
   obtain⟨xlo,Rz⟩:∃v,x.lo=v:=⟨_,rfl⟩;obtain⟨xhi,Qq⟩:∃v,x.hi=v:=⟨_,rfl⟩;obtain⟨xu,OY⟩:∃v,x.nx.length=v:=⟨_,rfl⟩;have aoU:=hgo.lo;have vw:=hgo.lt;have MH:=hgo.Na;rw [Rz] at f0 aoU vw MH;rw [Qq] at f1 vw MH;rw [OY] at f2 n1;obtain⟨ln,rfl⟩:∃ln:Nat,xlo=(ln:Int):=⟨xlo.toNat,by omega⟩;obtain⟨hn,rfl⟩:∃hn:Nat,xhi=(hn:Int):=⟨xhi.toNat,by omega⟩;have Ug:hn≤1000000:=by
    have h1:=OO.out.le;have:=(MH (hn - 1) A0 A0).1;omega
   have QK:=A3 (show ∀a:Nat,ln≤a→a<hn→a<n∧(BB (cd a)).2=0∧0≤(Ak cd (a:Int)).op from fun a h1 h2=>MH a A0 A0);have UJ:=A3 (show DW cd G k=codeFrom cd (ln:Int) (hn - ln) by
    unfold DW;rw [show G.getD k ⟨0,0,[]⟩=x by simp [List.getD,hx],Rz,Qq];congr 1
    omega)
   clear hgo e0 e1 e2 QG gc bw Rz Qq OY MH hx n2;go_upto_region 9 with fail;obtain⟨b9,hb9⟩:=AA wr.heap.size;obtain⟨Y,hY⟩:=AA (wr.alloc (.cells #[.int .i64 (ln:Int),.int .i64 (hn:Int),.slice nA xu C6] 78));rw [hY];have bY:Below wr.heap.size wr Y:=hY▸(AP _ _).alloc (AH _) _;have kY:Y.heap[b9]?=some (.cells #[.int .i64 (ln:Int),.int .i64 (hn:Int),.slice nA xu C6] 78 (0,0)):=by rw [←hb9,← hY];exact Ai _ _
   rw [hb9];have⟨KY,HMY⟩:=AL kY (HM.out.below bY);clear hb9 hY bY kY f0 f1 f2;obtain⟨wo,NF⟩:∃wo:World,wo=wr:=⟨_,rfl⟩;subst NF;go_loopw [10] (fun a10 wz=>∃(j:Nat) (Kb:Nat→Value),j≤hn - ln∧a10=.int .i64 ((ln:Int)+(j:Int))∧CM X wz ab cb rb ib pb gn (.slice (some ⟨gq,Hv,none⟩) gn B9) (.slice PA P.length B7) Kb (D9 (DW cd G) k (codeFrom cd (ln:Int) j))∧wz.heap[b9]?=some (.cells #[.int .i64 (ln:Int),.int .i64 (hn:Int),.slice nA xu C6] 78 (0,0))) (fun a10 _=>hn - (intOf a10).toNat);case atStart=>exact⟨0,val,by omega,rfl,HMY.out,KY.out⟩
   case round=>
    obtain⟨j,Kb,hj,rfl,hM2,k9⟩:=hrel;have⟨OA,K9⟩:=AL hM2 k9;have hzX:=hM2.A7.size;have z1:wr.cell? ⟨b9,1,none⟩=some (.int .i64 (hn:Int)):=by simp [World.cell?,k9]
    have lz9:b9<wr.heap.size:=BR k9;clear hM2 k9;by_cases hlt2:j<hn - ln
    ·have dl2:decide ((ln:Int)+(j:Int)<(hn:Int))=true:=AR A0
     obtain⟨m1,m2,m3⟩:=QK.out (ln+j) A0 A0;have Qb:Below w.heap.size w wr:=BV.out.trans ((BX.out.trans (OA.out.A7.mono BX.out.size)).mono BV.out.size);have VM:=A3 (((BX.out.trans (OA.out.A7.mono BX.out.size)).block _ YS).trans K0.out);have t0:wr.cell? ⟨w.heap.size,0,none⟩=some cv:=by have:=VM.out;simp [World.cell?,this]
     have t1:wr.cell? ⟨w.heap.size,1,none⟩=some ev:=by have:=VM.out;simp [World.cell?,this]
     have t2:wr.cell? ⟨w.heap.size,2,none⟩=some (.int .i64 sh):=by have:=VM.out;simp [World.cell?,this]
     have t3:wr.cell? ⟨w.heap.size,3,none⟩=some (.int .i64 lk):=by have:=VM.out;simp [World.cell?,this]
     obtain⟨op,ia,ic,id,im,hi⟩:∃op ia ic id im,Ak cd ((ln:Int)+(j:Int))=⟨op,ia,ic,id,im⟩:=⟨_,_,_,_,_,rfl⟩;have I1:=A3 (show Calls Tryz.prog 85 #[.agg #[cv,ev,.int .i64 sh,.int .i64 lk],.int .i64 ((ln:Int)+(j:Int))] wr fun e w'=>e=.returned (.tuple #[.agg #[.int .u8 op,.int .i64 ia,.int .i64 ic,.int .i64 id,.int .i64 im],.bool true])∧Below wr.heap.size wr w' from by
      have:=adg cv ev sh lk n cd (ln+j) m1 m2 wr (HT.out.below Qb) (OO.out.below Qb);rw [Int.natCast_add,hi] at this
      exact this)
     have HI:=A3 hi;have wl:IntKind.i64.wrap ((ln:Int)+(j:Int)+1)=(ln:Int)+(j:Int)+1:=GN _ A0;clear m1 m2 m3 Qb hi;go_upto_region 14 with (first|(go_at_call 85;refine I1.out.mono ?_;rintro e w2 ⟨rfl,hb2⟩));obtain⟨U,hU⟩:=AA (w2.alloc (.cells #[.int .u8 op,.int .i64 ia,.int .i64 ic,.int .i64 id,.int .i64 im] 67));rw [hU];have bU:Below w2.heap.size w2 U:=hU▸(AP _ _).alloc (AH _) _;obtain⟨y0,y1,y2,y3,y4,lU⟩:=Fy (show U.heap[w2.heap.size]?=some (.cells #[.int .u8 op,.int .i64 ia,.int .i64 ic,.int .i64 id,.int .i64 im] 67 (0,0)) from hU▸Ai _ _);obtain⟨b11,Kh⟩:∃b,w2.heap.size=b:=⟨_,rfl⟩;have Sg:Below wr.heap.size wr U:=hb2.trans (bU.mono hb2.size);rw [Kh] at y0 y1 y2 y3 y4 lU;rw [Kh];have⟨GF,OQ⟩:=AL (OA.out.below Sg) ((Sg.block b9 lz9).trans K9.out);have v0:=GF.out.cells.1;obtain⟨lab,lcb,-,-,-⟩:=GF.out.lt;obtain⟨v1,v1f⟩:=GF.out.at_ hlt;have hop:=GF.out.own k hlt;rw [SL,Sq] at hop;obtain⟨vk,LC⟩:∃v,Kb k=v:=⟨_,rfl⟩;have VI:=A3 LC;have Wd:=A3 (show some cb≠vk.ownBlock from fun e'=>by
      rw [←LC] at e'
      exact (GF.out.Jd hlt cb e'.symm).2.2.1 rfl)
     have HNa:=A3 (show some ab≠vk.ownBlock from fun e'=>by
      rw [←LC] at e'
      exact (GF.out.Jd hlt ab e'.symm).2.1 rfl)
     have HN9:=A3 (show some b9≠vk.ownBlock from fun e'=>by
      rw [←LC] at e';obtain⟨cs,hcs⟩:=JK hop e'.symm
      exact Ct hcs OQ.out AK rfl)
     rw [LC] at hop v1;have Fq:=A3 hop;obtain⟨vA,vn,CD,hvs⟩:∃vA vn CD,vk=.slice vA vn CD:=by
      rcases hop.2 with⟨e,_⟩|⟨g',cap',cur',e,_⟩
      ·exact⟨_,_,_,e⟩
      ·exact⟨_,_,_,e⟩
     subst hvs;have lU9:b9<U.heap.size:=BR OQ.out;have Tz:=A3 (show X.heap.size≤U.heap.size from GF.out.A7.size);have Ja:=A3 (show ∀(W2:World) (v2:Value),((U.alloc (.cells #[.int .u8 op,.int .i64 ia,.int .i64 ic,.int .i64 id,.int .i64 im] 67)).drew).grownBy W2 (Value.slice vA vn CD).ownBlock→W2.ownsRow X.heap.size 67 5 v2 (j+1) (O8 (codeFrom cd (ln:Int) j)++[.int .u8 op,.int .i64 ia,.int .i64 ic,.int .i64 id,.int .i64 im])→(v2.ownBlock=(Value.slice vA vn CD).ownBlock∨v2.ownBlock=some ((U.alloc (.cells #[.int .u8 op,.int .i64 ia,.int .i64 ic,.int .i64 id,.int .i64 im] 67)).drew).heap.size)→
       CM X (W2.setCell ⟨cb,k,none⟩ v2) ab cb rb ib pb gn (.slice (some ⟨gq,Hv,none⟩) gn B9) (.slice PA P.length B7) (upd Kb k v2) (D9 (DW cd G) k (codeFrom cd (ln:Int) (j+1)))∧(W2.setCell ⟨cb,k,none⟩ v2).heap[b9]?=some (.cells #[.int .i64 (ln:Int),.int .i64 (hn:Int),.slice nA xu C6] 78 (0,0)) from fun W2 v2 hg2 ho2 Q9=>by
      have bD:Below U.heap.size U ((U.alloc (.cells #[.int .u8 op,.int .i64 ia,.int .i64 ic,.int .i64 id,.int .i64 im] 67)).drew):=Gg ((AP _ _).alloc (AH _) _);have h3:=GF.out.app (y:=Ak cd ((ln:Int)+(j:Int))) hlt bD (by rw [VI.out];exact hg2) (by rw [SL,Sq,am1,HI.out];exact ho2) (by rw [VI.out];exact Q9);rw [SL,rH,← gR] at h3;refine⟨h3,?_⟩;rw [BL _ _ _ _ (by
       show b9≠cb;intro e;obtain⟨cs,hcs⟩:=JK GF.out.Ii (q:=cb) rfl
       exact Ct OQ.out hcs AK e)]
      rw [(grown_of bD hg2).block b9 lU9 (fun e=>HN9.out e)]
      exact OQ.out)
     clear hU bU Sg Kh hb2 hop LC t0 t1 t2 t3;refine Yq ?_;go_region_law (refine M6 rfl (.tmp 78) (.tmp 80) 144 rfl X.heap.size 67 iI _ 5 40 Tryz.underlying144 E5 E7 DT Dw rfl AK (.slice vA vn CD) j (O8 (codeFrom cd (ln:Int) j)) F8 (ox (qK Fq.out) _) ⟨U.heap.size,0,none⟩ 1 1 [.int .u8 op,.int .i64 ia,.int .i64 ic,.int .i64 id,.int .i64 im] F8 rfl (qP _ _ _ _ _ _ _) BS Bc A0 abp ?_;intro v' W2 hown2 hgrow2 RU;obtain⟨g2,EI,rfl⟩:=GI hown2;have hc1:=hgrow2.cell (a:=⟨cb,k,none⟩) (v:=.slice vA vn CD) GK Wd.out;have hc2:=hgrow2.cell (a:=⟨ab,2,none⟩) (v:=.slice (some ⟨cb,0,none⟩) gn gn) GK HNa.out;have hf1:W2.frozen? ⟨cb,k,none⟩=false:=(Pb (hgrow2.block cb Cl Wd.out)).trans GK)
     all_goals
      have F1:=A3 (Ja.out W2 _ hgrow2 hown2 RU);clear hgrow2 hown2 RU hc1 hc2 hf1;refine Yn ?_;go_wp2_with fail;go_roundw;case rel=>exact⟨j+1,_,by omega,by first|rfl|(congr 1;omega)|go_num,F1.out.1,F1.out.2⟩
      case measure=>exact Aa
    ·obtain rfl:j=hn - ln:=by omega
     have dl2:decide ((ln:Int)+((hn - ln:Nat):Int)<(hn:Int))=false:=Aq A0;have Lm:=A3 (show CM X wr ab cb rb ib pb gn (.slice (some ⟨gq,Hv,none⟩) gn B9) (.slice PA P.length B7) Kb (D9 (DW cd G) (k+1) []) by rw [←wC,UJ.out];exact OA.out);go_wp2_with fail;go_roundw;case rel=>exact⟨k+1,Kb,by omega,by go_num,Lm.out⟩
     case measure=>exact Aa
  ·obtain rfl:k=gn:=by omega
   have dl:decide ((k:Int)<(k:Int))=false:=by simp
   obtain⟨-,u3,u7⟩:=HM.out.cells;obtain⟨ua,-,ur,-,-⟩:=HM.out.lt;obtain⟨u4,u5⟩:=zL HM.out.Dn hg0;have iz:(0:Int)<(k:Int):=by omega
   have tO:∀(q:Nat) (x:AV) (b:AB),G[q]?=some x→(Bh cd G)[q]?=some b→x.nx=b.nx:=fun q x b h1 h2=>by
    obtain⟨x',e1,e2⟩:=fY h2;rw [h1] at e1;cases e1;rw [e2]
   have qG:∀(q:Nat) (b:AB),(Bh cd G)[q]?=some b→D9 (DW cd G) k [] q=b.code:=fun q b h2=>by
    obtain⟨x',e1,e2⟩:=fY h2;have hq:q<k:=by have:=(Bl.1 e1).1;rw [Cj.out] at this;exact this
    unfold D9 DW;rw [AE hq,e2,show G.getD q ⟨0,0,[]⟩=x' by simp [List.getD,e1]]
   have hbl:(Bh cd G).length=k:=by rw [kN];exact Cj.out
   have⟨NI,Dy⟩:=AL (HM.out.start (B:=Bh cd G) (G:=G) (Oy.out.below (BV.out.trans (BX.out.mono BV.out.size))) hbl Cj.out hg0 A0 tO qG) hbl;clear tO qG hbl u7;go_upto_region 18 with fail;obtain⟨W2,hW2⟩:=AA (wr.setCell ⟨rb,0,none⟩ (.bool true));rw [hW2];rw [hW2] at NI;have gB:=A3 (show ∀(q:Nat) (b:AB),(Bh cd G)[q]?=some b→ABw (Bh cd G).length b from fun q b h2=>by
    obtain⟨x',e1,e2⟩:=fY h2;have:=(Em.out x' (Bf e1)).abw;rw [e2,kN]
    exact this)
   have HTX:=A3 (HT.out.below (BV.out.trans (BX.out.mono BV.out.size)));clear hW2 u3 u4 u5 ua ur;go_loopg [13] (Gc (EW k) k+1) (fun gk a13 wr=>∃(s:AS) (c:Bool),a13=.bool c∧Gc s k+(if c=true then 1 else 0)≤gk∧An X wr ab cb rb ib pb (.slice GA k B9) (.slice PA P.length B7) G (Bh cd G) val s∧(c=true→∀s',Ends (Bh cd G) s s'→Ends (Bh cd G) (EW k) s')∧(c=false→Ends (Bh cd G) (EW k) s));case atStart=>exact⟨EW k,true,rfl,by simp,NI.out,fun _ s' h=>h,fun h=>by cases h⟩
   case round=>
    obtain⟨s,c,rfl,PN,hA,hc1,hc2⟩:=hrel;have⟨HA,HC1,Jg⟩:=B8 hA hc1 hc2;clear hA hc1 hc2 NI;cases c with
    | true=>
     have HGK:=A3 (show Gc s k+1≤gk by simpa using PN);clear PN Jg;have e0:wr.cell? ⟨w.heap.size+1,0,none⟩=_:=(HA.out.A7.cell (p:=⟨w.heap.size+1,0,none⟩) lX).trans c0;have le0:w.heap.size+1<wr.heap.size:=by have:=HA.out.A7.size;omega
     go_upto_region 21 with fail;clear e0 le0;obtain⟨wo,NF⟩:∃wo:World,wo=wr:=⟨_,rfl⟩;subst NF;go_loopw [13,93] (fun a13 a93 wz=>∃q:Nat,q≤k∧a93=.int .i64 (q:Int)∧a13=.bool (DG (Bh cd G) s q).2∧An X wz ab cb rb ib pb (.slice GA k B9) (.slice PA P.length B7) G (Bh cd G) val (DG (Bh cd G) s q).1) (fun _ a93 _=>k - (intOf a93).toNat);case atStart=>exact⟨0,by omega,rfl,rfl,HA.out⟩
     case round=>
      obtain⟨q,hq,rfl,rfl,Oa⟩:=hrel;have Jw:=A3 Oa;clear Oa;by_cases hlt3:q<k
      ·have dl3:decide ((q:Int)<(k:Int))=true:=AR A0
       have dq:(q:Int)<(k:Int):=by omega
       obtain⟨sq,Qd⟩:=AA (DG (Bh cd G) s q);have HSQ:=A3 Qd;rw [Qd] at Jw;rw [Qd];obtain⟨b,hb⟩:∃b,(Bh cd G)[q]?=some b:=⟨_,Aj (by rw [Dy.out];exact hlt3)⟩;obtain⟨t1,t2,-,-,-⟩:=Jw.out.lt;obtain⟨-,-,t3,-,-⟩:=Jw.out.cells;rw [Dy.out] at t3;have t4:=(Jw.out.aQ (t:=q) (by rw [Dy.out];exact hlt3)).1;have Tr:=A3 (xU Jw.out hb (gB.out q b hb) HTX.out);have hgb:(Bh cd G).getD q ⟨[],[]⟩=b:=by simp [List.getD,hb]
       rcases IB:sq.1.reach.getD q false with _|_
       ·rw [IB] at t4
        have HST:=A3 (show DG (Bh cd G) s (q+1)=sq by simp only [DG];rw [HSQ.out,IB];simp);clear Qd hb IB hgb;go_wp2_with fail;go_roundw;case rel=>exact⟨q+1,by omega,by go_num,by rw [HST.out],by rw [HST.out];exact Jw.out⟩
        case measure=>exact Aa
       ·rw [IB] at t4
        have HST:=A3 (show DG (Bh cd G) s (q+1)=((Gf b q sq.1).1,sq.2 || (Gf b q sq.1).2) by simp only [DG];rw [HSQ.out,IB,AE rfl,hgb]);clear Qd hb IB hgb;rcases cH:(Gf b q sq.1).2 with _|_
        ·rw [cH] at Tr HST
         clear cH;go_wp2_with (go_at_call 86;refine Tr.out.mono ?_;rintro e w3 ⟨rfl,hA3,fk⟩);go_roundw;case rel=>exact⟨q+1,by omega,by go_num,by rw [HST.out];simp,by rw [HST.out];exact hA3⟩
         case measure=>exact Aa
        ·rw [cH] at Tr HST
         clear cH;go_wp2_with (go_at_call 86;refine Tr.out.mono ?_;rintro e w3 ⟨rfl,hA3,fk⟩);go_roundw;case rel=>exact⟨q+1,by omega,by go_num,by rw [HST.out];simp,by rw [HST.out];exact hA3⟩
         case measure=>exact Aa
      ·obtain rfl:q=k:=by omega
       have dl3:decide ((q:Int)<(q:Int))=false:=by simp
       have hpa:=qj (fun b hb=>by
        obtain⟨i,hi,e⟩:=Zp hb;have:=(gB.out i b (by rw [←e];exact Aj hi)).f.ok
        rwa [Dy.out] at this) Dy.out (by have:=HA.out.Ez;rwa [Dy.out] at this) q (AH _)
       have HPA:=A3 hpa;have P7:=A3 (show ((DG (Bh cd G) s q).2=true→∀s',Ends (Bh cd G) (DG (Bh cd G) s q).1 s'→Ends (Bh cd G) (EW q) s')∧((DG (Bh cd G) s q).2=false→Ends (Bh cd G) (EW q) (DG (Bh cd G) s q).1) from
        ⟨fun h s' h2=>HC1.out Lz s' (Ends.more (by rw [Dy.out];exact h) (by rw [Dy.out];exact h2)),fun h=>HC1.out Lz _ (by
         have:=Ends.done (B:=Bh cd G) (s:=s) (by rw [Dy.out];exact h)
         rwa [Dy.out] at this)⟩)
       clear hpa;go_wp2_with fail
       go_roundg (Gc (DG (Bh cd G) s q).1 q+(if (DG (Bh cd G) s q).2=true then 1 else 0))
       case measure=>
        obtain⟨-,h1,h2⟩:=HPA.out;have h3:=HGK.out;rcases hpp:(DG (Bh cd G) s q).2 with _|_
        ·rw [h2 hpp];simp;omega
        ·have:=h1 hpp;simp;omega
       case rel=>exact⟨_,_,rfl,AH _,Jw.out,P7.out.1,P7.out.2⟩
    | false=>
     have HE:=A3 (Jg.out Lz);clear HC1 Jg PN;go_upto_region 26 with fail;obtain⟨Z,hZw⟩:∃Z:World,Z=wr:=⟨_,rfl⟩;subst hZw;obtain⟨t1,-,t5,t6,-⟩:=HA.out.lt;obtain⟨-,-,t3,t4,-⟩:=HA.out.cells;rw [Dy.out] at t3 t4;go_cut [15] from 109 to 117 (fun a15 wx=>∃b15,a15=.pointer (some ⟨b15,0,none⟩)∧wx.heap[b15]?=some (.cells #[.slice (some ⟨rb,0,none⟩) k k,.slice (some ⟨ib,0,none⟩) k k,.slice none 0 0] 59 (0,0))∧Z.heap.size≤b15∧Below Z.heap.size Z wx)
     case first=>
      go_region
      all_goals
       go_wp2_with fail;go_meet;case rel=>exact⟨_,rfl,Ai _ _,AH _,(Gg (AP _ _)).alloc (AH _) _⟩
     obtain⟨b15,rfl,kd,hbd,bZ⟩:=hcut;obtain⟨W6,Xf⟩:∃W6:World,W6=wc:=⟨_,rfl⟩;subst Xf;have Z8:=A3 (show DM Z W6 b15 rb ib k (.slice none 0 0) [] from⟨bZ,hbd,kd,JV _ _ _ _⟩);obtain⟨iP,fG,bT,cV,Zk⟩:=D5 infoP;have WD:=A3 (HA.out.A7);have bXw:Below X.heap.size X W6:=HA.out.A7.trans (bZ.mono HA.out.A7.size);have e0:W6.cell? ⟨w.heap.size+1,0,none⟩=_:=(bXw.cell (p:=⟨w.heap.size+1,0,none⟩) lX).trans c0;have le0:w.heap.size+1<W6.heap.size:=by have:=bXw.size;omega
     have XL:=A3 (vC (B:=Bh cd G) (s:=s) (fun q b hb=>(gB.out q b hb).Hf));clear t1 t3 t4 t5 t6 kd hbd bZ bXw;go_upto_region 28 with fail;clear e0 le0;go_loopw [121] (fun mF wz=>∃(q:Nat) (dv:Value),q≤k∧mF=.int .i64 (q:Int)∧DM Z wz b15 rb ib k dv (GY (Bh cd G) s q)) (fun mF _=>k - (intOf mF).toNat);case atStart=>exact⟨0,_,by omega,rfl,Z8.out⟩
     case round=>
      obtain⟨q,dv,hq,rfl,hD⟩:=hrel;have HD:=A3 hD;clear hD;by_cases Tg:q<k
      ·have dl4:decide ((q:Int)<(k:Int))=true:=AR A0
       have dq:(q:Int)<(k:Int):=by omega
       have ZX:=A3 (HA.out.below HD.out.A7);obtain⟨x,hx⟩:∃x,G[q]?=some x:=⟨_,Aj (by rw [Cj.out];exact Tg)⟩;have hgo:=Em.out x (Bf hx);obtain⟨gq,Hv,rfl,NN,gc⟩:=JZ.out KN;obtain⟨e0,e1,nv,e2,QG⟩:=gc q x hx;obtain⟨nA,C6,rfl,n1,n2,n4⟩:=QG;have n3:=Oo n2;have bw:Below w.heap.size w wr:=BV.out.trans ((BX.out.trans (ZX.out.A7.mono BX.out.size)).mono BV.out.size);have f0:wr.cell? ⟨gq,Hv+q*3,none⟩=_:=(bw.cell (p:=⟨gq,_,none⟩) NN).trans e0;have f1:wr.cell? ⟨gq,Hv+q*3+1,none⟩=_:=(bw.cell (p:=⟨gq,_,none⟩) NN).trans e1;have f2:wr.cell? ⟨gq,Hv+q*3+2,none⟩=_:=(bw.cell (p:=⟨gq,_,none⟩) NN).trans e2;have lg:gq<wr.heap.size:=by have:=bw.size;omega
       obtain⟨xu,OY⟩:∃v,x.nx.length=v:=⟨_,rfl⟩;have ark:xu≤1000:=by rw [←OY];exact hgo.Hf
       rw [OY] at f2 n1;obtain⟨b,hb⟩:∃b,(Bh cd G)[q]?=some b:=⟨_,Aj (by rw [Dy.out];exact Tg)⟩;have JC:b.nx=x.nx:=by
        obtain⟨x',h1,h2⟩:=fY hb;rw [hx] at h1;cases h1;rw [h2]
       have hgb:(Bh cd G).getD q ⟨[],[]⟩=b:=by simp [List.getD,hb]
       have⟨HB,Ns,Co,Tz⟩:=Bz (gB.out q b hb) hb JC OY;obtain⟨r1,-,r3,-,-⟩:=ZX.out.lt;obtain⟨-,-,r5,-,-⟩:=ZX.out.cells;rw [Dy.out] at r5;have r6:=(ZX.out.aQ (t:=q) (by rw [Dy.out];exact Tg)).1;have Cw:=A3 (show ∀(j:Nat) (t:Int),x.nx[j]?=some t→∃nb FN,nA=some ⟨nb,FN,none⟩∧nb<w.heap.size∧w.cell? ⟨nb,FN+j,none⟩=some (.int .i64 t) from fun j t hj=>by
        have hl:=(Bl.1 hj).1;obtain⟨nb,FN,ha,hb2,hcc⟩:=n4 A0
        exact⟨nb,FN,ha,hb2,by rw [hcc j hl,show x.nx.getD j 0=t by simp [List.getD,hj]]⟩)
       have⟨Fl,Mm⟩:=AL bw (show GY (Bh cd G) s (q+1)=GY (Bh cd G) s q++(if s.reach.getD q false=true then G8 b q b.nx.length (s.Af.getD q []) else []) by rw [vo,hgb]);have hdl:=XL.out q;clear hgo e0 e1 e2 gc OY hx hb JC hgb n4 n2 bw;rcases IB:s.reach.getD q false with _|_
       ·rw [IB] at r6 Mm
        simp only [MZ,N0,M8] at Mm;clear IB;go_wp2_with fail;go_roundw;case rel=>exact⟨q+1,dv,by omega,by go_num,by rw [Mm.out];exact HD.out.below ((AP _ _).alloc (AH _) _)⟩
        case measure=>exact Aa
       ·rw [IB] at r6 Mm
        rw [AE rfl] at Mm;clear IB;go_upto_region 31 with fail;obtain⟨b17,YI⟩:=AA wr.heap.size;obtain⟨Y,hY⟩:=AA (wr.alloc (.cells #[.int .i64 x.lo,.int .i64 x.hi,.slice nA xu C6] 78));rw [hY];have bY:Below wr.heap.size wr Y:=hY▸(AP _ _).alloc (AH _) _;have kY:Y.heap[b17]?=some (.cells #[.int .i64 x.lo,.int .i64 x.hi,.slice nA xu C6] 78 (0,0)):=by rw [←YI,← hY];exact Ai _ _
        rw [YI];have⟨HDY,IX,KY⟩:=B8 (HD.out.below bY) (ZX.out.below bY) kY;have y17:Y.cell? ⟨b17,2,none⟩=some (.slice nA xu C6):=by simp [World.cell?,kY]
        have l17:b17<Y.heap.size:=BR kY;have⟨G6,OJ⟩:=AL (ow IX.out Ns.out HB.out.ne HB.out.f.ops (HTX.out.below IX.out.A7)) (fun Ag (h:F5 b.code (s.Af.getD q [])=some Ag)=>Yz HB.out.f.ops (IX.out.Ez.get (by rw [Dy.out];exact Tg)) h);clear hY bY kY YI f0 f1 f2 r1 r3 r5 r6;have HDK:=A3 hdl;rcases hr:F5 b.code (s.Af.getD q []) with _|Ag
        ·rw [hr] at G6
         have Oc:=A3 hr;clear hr OJ;go_upto_region 32 with (first|(go_at_call 87;refine G6.out.mono ?_;rintro e w3 ⟨rfl,hb3⟩;unfold Ca)|(refine Bp rfl 174 (.tmp 18) (.tmp 138) rfl w3.heap.size (AD Ao).toArray rfl rfl 174 _ (Ai _ _) (hi4 BK) (hi6 BK BK) (CX Ao) ?_));obtain⟨Y2,R3⟩:=AA ((w3.alloc (.cells BO.toArray 174)).setRow w3.heap.size (AD Ao).toArray);rw [R3];have QU:Below Y.heap.size Y Y2:=R3▸Bt (hb3.alloc hb3.size _) hb3.size _;have z17:Y2.cell? ⟨b17,2,none⟩=_:=(QU.cell (p:=⟨b17,2,none⟩) l17).trans y17;have m17:b17<Y2.heap.size:=by have:=QU.size;omega
         have HD2:=A3 (HDY.out.below QU);clear R3 QU hb3;go_upto_region 33 with fail;clear z17 m17;obtain⟨wo,NF⟩:∃wo:World,wo=wr:=⟨_,rfl⟩;subst NF;go_loopw [143] (fun a143 wz=>∃(j:Nat) (dv2:Value),j≤xu∧a143=.int .i64 (j:Int)∧DM Z wz b15 rb ib k dv2 (GY (Bh cd G) s q++G8 b q j (s.Af.getD q []))) (fun a143 _=>xu - (intOf a143).toNat);case atStart=>exact⟨0,dv,by omega,rfl,by rw [pG,M8];exact HD2.out⟩
         case round=>
          obtain⟨j,dv2,hj,rfl,ZG⟩:=hrel;have Jc:=A3 ZG;clear ZG;by_cases Xi:j<xu
          ·have dl5:decide ((j:Int)<(xu:Int))=true:=AR A0
           have dj:(j:Int)<(xu:Int):=by omega
           obtain⟨t,ht⟩:∃t,x.nx[j]?=some t:=⟨_,Aj (by rw [Tz.out];exact Xi)⟩;obtain⟨nb,FN,rfl,hnb,Ge⟩:=Cw.out j t ht;have Ti:Below w.heap.size w wr:=BV.out.trans ((BX.out.trans ((WD.out.trans (Jc.out.A7.mono WD.out.size)).mono BX.out.size)).mono BV.out.size);have x0:wr.cell? ⟨nb,FN+j,none⟩=some (.int .i64 t):=(Ti.cell (p:=⟨nb,FN+j,none⟩) hnb).trans Ge;have lnb:nb<wr.heap.size:=by have:=Ti.size;omega
           obtain⟨d1,d2,d3⟩:=Jc.out.cell;have HOW:=A3 Jc.out.row;have M0:=iH b q j (s.Af.getD q []);have hZs:=Jc.out.A7.size;have OT:=A3 (show GY (Bh cd G) s q++G8 b q (j+1) (s.Af.getD q [])=GY (Bh cd G) s q++G8 b q j (s.Af.getD q [])++[((q:Int),t)] by
            rw [xK Oc.out (by rw [Co.out,Tz.out];exact Xi),Co.out,show x.nx.getD j 0=t by simp [List.getD,ht],X5])
           obtain⟨LL,Tq⟩:=AA (GY (Bh cd G) s q++G8 b q j (s.Af.getD q []));have hLn:LL.length≤1000*q+j:=by rw [←Tq,FO];have:=HDK.out;omega
           rw [Tq] at OT HOW Jc;clear ht Ge Ti M0 Tq;go_wp2_with (at_builtin;refine Kf _ rfl (.tmp 151) (.tmp 155) 57 rfl Z.heap.size 109 iP _ 2 16 uF fG bT cV Zk rfl AK dv2 LL.length (JA LL) rfl (HOW.out.alloc _) ⟨wr.heap.size,0,none⟩ 1 1 [.int .i64 (q:Int),.int .i64 t] rfl rfl (jA _ _ _ _) BS Bc A0 Hz ?_;intro v' W' hown' hgrow hni Ce;obtain⟨g3,ain,rfl⟩:=GI hown';obtain⟨hdm,hkeep⟩:=Jc.out.app (y:=((q:Int),t)) ((AP _ _).alloc (AH _) _) hgrow (by rw [mS];exact hown');have h15:W'.cell? ⟨b15,2,none⟩=some dv2:=hgrow.cell (a:=⟨b15,2,none⟩) (v:=dv2) GK (fun e=>Jc.out.Jd e);have amo:W'.frozen? ⟨b15,2,none⟩=false:=(Pb (hgrow.block b15 Cl (fun e=>Jc.out.Jd e))).trans GK);go_roundw;case rel=>exact⟨j+1,_,by omega,by go_num,by rw [OT.out];exact hdm⟩
           case measure=>exact Aa
          ·obtain rfl:j=xu:=by omega
           have dl5:decide ((j:Int)<(j:Int))=false:=by simp
           have Lm:=A3 (show DM Z wr b15 rb ib k dv2 (GY (Bh cd G) s (q+1)) by rw [Mm.out,Co.out,Tz.out];exact Jc.out);go_wp2_with fail;go_roundw;case rel=>exact⟨q+1,dv2,by omega,by go_num,Lm.out⟩
           case measure=>exact Aa
        ·rw [hr] at G6
         have⟨Oc,C5⟩:=AL hr (OJ.out Ag hr);clear hr OJ;go_upto_region 32 with (first|(go_at_call 87;refine G6.out.mono ?_;rintro e w3 ⟨rfl,hb3⟩;unfold Ca)|(refine Bp rfl 174 (.tmp 18) (.tmp 138) rfl w3.heap.size (AD Ag).toArray rfl rfl 174 _ (Ai _ _) (hi4 C5.out.len) (hi6 C5.out.len BK) (CX Ag) ?_));obtain⟨b18,j8⟩:=AA w3.heap.size;obtain⟨Y2,R3⟩:=AA ((w3.alloc (.cells BO.toArray 174)).setRow w3.heap.size (AD Ag).toArray);rw [R3];have QU:Below Y.heap.size Y Y2:=R3▸Bt (hb3.alloc hb3.size _) hb3.size _;have kY2:Am Y2 b18 174 Ag:=by rw [←j8,← R3];exact Am.row (z:=Ao) (Ai _ _)
         rw [j8];have z17:Y2.cell? ⟨b17,2,none⟩=_:=(QU.cell (p:=⟨b17,2,none⟩) l17).trans y17;have m17:b17<Y2.heap.size:=by have:=QU.size;omega
         have⟨HD2,KB0⟩:=AL (HDY.out.below QU) kY2;clear R3 QU hb3 j8 kY2;go_upto_region 33 with fail;clear z17 m17;obtain⟨wo,NF⟩:∃wo:World,wo=wr:=⟨_,rfl⟩;subst NF;go_loopw [143] (fun a143 wz=>∃(j:Nat) (dv2:Value),j≤xu∧a143=.int .i64 (j:Int)∧DM Z wz b15 rb ib k dv2 (GY (Bh cd G) s q++G8 b q j (s.Af.getD q []))∧Am wz b18 174 Ag) (fun a143 _=>xu - (intOf a143).toNat);case atStart=>exact⟨0,dv,by omega,rfl,by rw [pG,M8];exact HD2.out,KB0.out⟩
         case round=>
          obtain⟨j,dv2,hj,rfl,ZG,hkb⟩:=hrel;have⟨Jc,KB,DD⟩:=B8 ZG hkb hkb.range;clear ZG hkb;by_cases Xi:j<xu
          ·have dl5:decide ((j:Int)<(xu:Int))=true:=AR A0
           have dj:(j:Int)<(xu:Int):=by omega
           obtain⟨t,ht⟩:∃t,x.nx[j]?=some t:=⟨_,Aj (by rw [Tz.out];exact Xi)⟩;obtain⟨nb,FN,rfl,hnb,Ge⟩:=Cw.out j t ht;have Ti:Below w.heap.size w wr:=BV.out.trans ((BX.out.trans ((WD.out.trans (Jc.out.A7.mono WD.out.size)).mono BX.out.size)).mono BV.out.size);have x0:wr.cell? ⟨nb,FN+j,none⟩=some (.int .i64 t):=(Ti.cell (p:=⟨nb,FN+j,none⟩) hnb).trans Ge;have lnb:nb<wr.heap.size:=by have:=Ti.size;omega
           have HAz:=A3 (HA.out.below Jc.out.A7);have GH:=A3 (uK HAz.out Ns.out HB.out.ne HB.out.Hf HB.out.f.op j Ag C5.out (HTX.out.below HAz.out.A7));have M0:=iH b q j (s.Af.getD q []);have OT:=A3 (show GY (Bh cd G) s q++G8 b q (j+1) (s.Af.getD q [])=GY (Bh cd G) s q++G8 b q j (s.Af.getD q [])++(if (En b.last b.nx.length j Ag).isNone=true then [((q:Int),t)] else []) by
            rw [apM Oc.out,show b.nx.getD j 0=t by rw [Co.out];simp [List.getD,ht],X5])
           obtain⟨LL,Tq⟩:=AA (GY (Bh cd G) s q++G8 b q j (s.Af.getD q []));have hLn:LL.length≤1000*q+j:=by rw [←Tq,FO];have:=HDK.out;omega
           rw [Tq] at OT Jc;clear ht Ge Ti M0 Tq;rcases he:En b.last b.nx.length j Ag with _|r
           ·rw [he] at GH OT
            simp only [Option.isNone_none,N1] at OT;clear he;go_upto_region 39 with (first|(refine Cu rfl _ _ rfl _ _ rfl (AD Ag) _ DD.out BH rfl (hi3 C5.out.len) ?_)|(go_at_call 88;refine GH.out.mono ?_;rintro e w5 ⟨rfl,hb5⟩;unfold Ca)|(refine Bp rfl 174 (.tmp 22) (.tmp 164) rfl w5.heap.size (AD Ao).toArray rfl rfl 174 _ (Ai _ _) (hi4 BK) (hi6 BK BK) (CX Ao) ?_));obtain⟨U,hU⟩:=AA ((w5.alloc (.cells BO.toArray 174)).setRow w5.heap.size (AD Ao).toArray);rw [hU];have bU:Below wr.heap.size wr U:=hU▸Bt (hb5.alloc hb5.size _) hb5.size _;have⟨Ue,KBU⟩:=AL (Jc.out.below bU) (KB.out.keep bU);obtain⟨d1,d2,d3⟩:=Ue.out.cell;have HOW:=A3 Ue.out.row;have hZs:=Ue.out.A7.size;clear hU bU hb5 x0 lnb;go_wp2_with (at_builtin;refine Kf _ rfl (.tmp 169) (.tmp 173) 57 rfl Z.heap.size 109 iP _ 2 16 uF fG bT cV Zk rfl AK dv2 LL.length (JA LL) rfl (HOW.out.alloc _) ⟨U.heap.size,0,none⟩ 1 1 [.int .i64 (q:Int),.int .i64 t] rfl rfl (jA _ _ _ _) BS Bc A0 Hz ?_;intro v' W' hown' hgrow hni Ce;obtain⟨g3,ain,rfl⟩:=GI hown';obtain⟨hdm,hkeep⟩:=Ue.out.app (y:=((q:Int),t)) ((AP _ _).alloc (AH _) _) hgrow (by rw [mS];exact hown');have h15:W'.cell? ⟨b15,2,none⟩=some dv2:=hgrow.cell (a:=⟨b15,2,none⟩) (v:=dv2) GK (fun e=>Ue.out.Jd e);have amo:W'.frozen? ⟨b15,2,none⟩=false:=(Pb (hgrow.block b15 Cl (fun e=>Ue.out.Jd e))).trans GK);go_roundw;case rel=>exact⟨j+1,_,by omega,by go_num,by rw [OT.out];exact hdm,hkeep _ _ _ KBU.out AK AK⟩
            case measure=>exact Aa
           ·rw [he] at GH OT
            simp only [Option.isNone_some,MZ,N0,M8] at OT;have qT:=A3 (dS C5.out he);clear he;go_wp2_with (first|(refine Cu rfl _ _ rfl _ _ rfl (AD Ag) _ DD.out BH rfl (hi3 C5.out.len) ?_)|(go_at_call 88;refine GH.out.mono ?_;rintro e w5 ⟨rfl,hb5⟩;unfold Ca)|(refine Bp rfl 174 (.tmp 22) (.tmp 164) rfl w5.heap.size (AD r).toArray rfl rfl 174 _ (Ai _ _) (hi4 qT.out.len) (hi6 qT.out.len BK) (CX r) ?_));go_roundw;case rel=>
             have bU:Below wr.heap.size wr ((w5.alloc (.cells BO.toArray 174)).setRow w5.heap.size (AD r).toArray):=Bt (hb5.alloc hb5.size _) hb5.size _;exact⟨j+1,dv2,by omega,by go_num,by rw [OT.out];exact Jc.out.below bU,KB.out.keep bU⟩
            case measure=>exact Aa
          ·obtain rfl:j=xu:=by omega
           have dl5:decide ((j:Int)<(j:Int))=false:=by simp
           have Lm:=A3 (show DM Z wr b15 rb ib k dv2 (GY (Bh cd G) s (q+1)) by rw [Mm.out,Co.out,Tz.out];exact Jc.out);go_wp2_with fail;go_roundw;case rel=>exact⟨q+1,dv2,by omega,by go_num,Lm.out⟩
           case measure=>exact Aa
      ·obtain rfl:q=k:=by omega
       have dl4:decide ((q:Int)<(q:Int))=false:=by simp
       obtain⟨wf,hwf⟩:∃wf:World,wf=wr:=⟨_,rfl⟩;subst hwf;have G6:=A3 (HA.out.below HD.out.A7);have KR0:=A3 (show wf.heap[w.heap.size+1+1]?=some (.cells #[.slice none 0 0,.slice none 0 0,.slice none 0 0] 59 (0,0)) from ((BX.out.trans (G6.out.A7.mono BX.out.size)).block _ YS).trans K2.out);have h15:=HD.out.head;have o0:wf.cell? ⟨b15,0,none⟩=some (.slice (some ⟨rb,0,none⟩) q q):=by simp [World.cell?,h15]
       have o1:wf.cell? ⟨b15,1,none⟩=some (.slice (some ⟨ib,0,none⟩) q q):=by simp [World.cell?,h15]
       have o2:wf.cell? ⟨b15,2,none⟩=some dv:=by simp [World.cell?,h15]
       have lo:=BR h15;obtain⟨vA,vn,vc,rfl⟩:∃vA vn vc,dv=.slice vA vn vc:=by
        rcases HD.out.row.2 with⟨e,_⟩|⟨g',cap',cur',e,_⟩
        ·exact⟨_,_,_,e⟩
        ·exact⟨_,_,_,e⟩
       have BWF:=A3 (BV.out.trans ((BX.out.trans (G6.out.A7.mono BX.out.size)).mono BV.out.size));clear h15;go_wp2_with (refine Bp rfl 59 (.tmp 4) (.tmp 178) rfl (w.heap.size+1+1) #[.slice (some ⟨rb,0,none⟩) q q,.slice (some ⟨ib,0,none⟩) q q,.slice vA vn vc] rfl rfl 59 _ KR0.out A6 rfl BS ?_);have hbf:Below w.heap.size w (wf.setRow (w.heap.size+1+1) #[.slice (some ⟨rb,0,none⟩) q q,.slice (some ⟨ib,0,none⟩) q q,.slice vA vn vc]):=Bt BWF.out A0 _;refine Al (results_cell_tmp (P:=Tryz.prog) Tryz.results52 _ _ (w.heap.size+1+1) [.slice (some ⟨rb,0,none⟩) q q,.slice (some ⟨ib,0,none⟩) q q,.slice vA vn vc] _ rfl (FM (IJ _ _ _ _ _ _ KR0.out)) iG rfl A6) rfl ⟨⟨s,_,_,_,HE.out,rfl,?_,?_,?_⟩,hbf⟩
       ·have hne:∀z,z≠w.heap.size+1+1→(wf.setRow (w.heap.size+1+1) #[.slice (some ⟨rb,0,none⟩) q q,.slice (some ⟨ib,0,none⟩) q q,.slice vA vn vc]).heap[z]?=wf.heap[z]?:=fun z hz=>Tw _ _ _ _ hz
        have s1:s.reach.length=q:=by have:=G6.out.Ez.l1;rwa [Dy.out] at this
        have s2:s.Af.length=q:=by have:=G6.out.Ez.l2;rwa [Dy.out] at this
        have x1:=G6.out.rV;have x2:=G6.out.iV;have x3:=SV.out;have x4:=BX.out.size;refine⟨⟨_,q,by rw [s1],by omega,by unfold maxLen;omega,fun _=>⟨rb,0,rfl,by have:=G6.out.lt;simp [World.setRow];omega,fun p hp=>?_⟩⟩,⟨_,q,by rw [s2],by omega,by unfold maxLen;omega,fun _=>⟨ib,0,rfl,by have:=G6.out.lt;simp [World.setRow];omega,fun p hp=>?_⟩⟩⟩
        ·rw [EU,Df (hne rb A0)]
         exact (G6.out.aQ (by rw [Dy.out];omega)).1
        ·rw [EU]
         intro jj vv Vj;rw [Df (hne ib A0)];exact G6.out.JN (by rw [Dy.out];omega) jj vv Vj
       ·have hp:=vh HD.out.row
        obtain⟨A',cap',e1,e2,e3,e4⟩:=hp;refine⟨A',cap',e1,e2,e3,fun h0=>?_⟩;obtain⟨b',off',ea,eb,ec⟩:=e4 h0;refine⟨b',off',ea,by simp [World.setRow];omega,fun i p hi=>?_⟩;obtain⟨c1',c2'⟩:=ec i p hi;have hnb:b'≠w.heap.size+1+1:=by
         have h1:=(HD.out.row.lt b' (by rw [e1,ea];rfl)).1;have h2:=WD.out.size;have x3:=SV.out;have x4:=BX.out.size;omega
        exact⟨by rw [Df (Tw _ _ _ _ hnb)];exact c1',by rw [Df (Tw _ _ _ _ hnb)];exact c2'⟩
       ·intro q' h
        have x1:=G6.out.rV;have x2:=G6.out.iV;have x3:=SV.out;have x4:=BX.out.size;have x5:=WD.out.size;rcases h with h|h|h
        ·have e:rb=q':=by simpa [Value.ownBlock] using h
         omega
        ·have e:ib=q':=by simpa [Value.ownBlock] using h
         omega
        ·have:=(HD.out.row.lt q' h).1
         omega
theorem jR:WV:=fun cv ev bv pv sh lk n cd G P w T HW HG HP hv h0 h1 hok=>arC cv ev bv pv sh lk n cd G P w T HW HG HP hv h0 h1 hok
end Go.Proofs.YtlmgkipmfgijiaaGreatDoor
