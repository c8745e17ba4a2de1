/-
  What is proved here: parts aAz.
-/
import Derived.Test.YtlmgkipmfgijiaaGreatDoorVa
import Derived.Test.YtlmgkipmfgijiaaGreatDoorVo
namespace Go.Proofs.YtlmgkipmfgijiaaGreatDoor
set_option linter.unusedVariables false
set_option linter.unusedSimpArgs false
set_option maxRecDepth 100000
set_option maxHeartbeats 8000000
open Go.RowKit
theorem ast (cv ev bv pv:Value) (sh lk:Int) (n:Nat) (cd:Nat→Int) (G:List AU) (P:List (List Int)) (w:World) (T:CO w) (HW:Words w cv n cd) (HG:E7 w bv G) (HP:Dk w pv P)
  (hv:Dm G P) (hg0:0<G.length) (hg1:G.length≤1000) (hok:∀x∈G,M6 n cd G x) :
  Calls Tryz.prog 52 #[.agg #[cv,ev,.int .i64 sh,.int .i64 lk],.agg #[bv,pv]] w fun e w'=>(∃s rv iv dv,Ends (BR cd G) (EI G.length) s∧e=.returned (.tuple #[.agg #[rv,iv,dv],.int .i64 0])∧TQ w' rv iv s.reach s.AG∧UJ w' dv (Em (BR cd G) s G.length)∧mI w.heap.size rv iv dv)∧Below w.heap.size w w':=by
 obtain⟨GA,BH,EP,g2,g3,g4⟩:=id HG;obtain⟨PA,B7,hpv,p2,p3,p4⟩:=id HP;obtain⟨V,hV,k0,k1,k2,bV,sV⟩:=O7 w #[cv,ev,.int .i64 sh,.int .i64 lk] #[bv,pv] #[.slice none 0 0,.slice none 0 0,.slice none 0 0] 25 31 59;have YQ:V.heap.size=w.heap.size+1+1+1:=by rw [←hV];simp
 have b0:V.cell? ⟨w.heap.size+1,0,none⟩=some bv:=by simp [World.cell?,k1]
 have b1:V.cell? ⟨w.heap.size+1,1,none⟩=some pv:=by simp [World.cell?,k1]
 have l1:w.heap.size+1<V.heap.size:=by omega
 have Co:=A3 (bC bv pv G P V (HG.below bV) (HP.below bV) A0 (fun x hx=>by have:=(hok x hx).Gf;omega));obtain⟨gn,hgn⟩:∃m,G.length=m:=⟨_,rfl⟩;rw [hgn] at EP g2 hg0 hg1;rw [hgn];subst EP hpv;have⟨DU,Ea,Mw,NM,HT,BV,SV,K0⟩:=OI hgn hok HW HG T bV YQ k0;have⟨K2,Tm,HG4⟩:=Bh k2 hv g4;clear hgn hok HW HG HP T bV sV YQ k0 k1 k2 hv g3 g4 p4 p3;go_enter Tryz.func52,Tryz.ntmps52;go_upto_region 3 with (go_at_call 35;refine Co.out.mono ?_;rintro e X ⟨⟨r,rfl,hr⟩,LU⟩;obtain rfl:r=true:=hr.2 Tm.out);have c0:X.cell? ⟨w.heap.size+1,0,none⟩=_:=(LU.cell (p:=⟨w.heap.size+1,0,none⟩) l1).trans b0;have c1:X.cell? ⟨w.heap.size+1,1,none⟩=_:=(LU.cell (p:=⟨w.heap.size+1,1,none⟩) l1).trans b1;have lX:w.heap.size+1<X.heap.size:=by have:=LU.size;omega
 have BX:=A3 LU;clear b0 b1 hr LU Co Tm hV;go_upto_region 4 with fail;obtain⟨cS,TS⟩:∃c,((List.range gn).map fun _=>Value.slice none 0 0).toArray=c:=⟨_,rfl⟩;obtain⟨cB,hcB⟩:∃c,((List.replicate gn false).map Value.bool).toArray=c:=⟨_,rfl⟩;obtain⟨cR,hcR⟩:∃c,(JY (List.replicate gn Aj)).toArray=c:=⟨_,rfl⟩;obtain⟨cI,Tr⟩:∃c,((List.replicate gn (0:Int)).map (Value.int .i64)).toArray=c:=⟨_,rfl⟩;obtain⟨iA,XT,Sq,hA1,NS⟩:=Dp s9;obtain⟨iB,XM,hB0,hB1,hB2⟩:=Dp qJ;obtain⟨iC,hiC,Ww,hC1,hC2⟩:=Dp ara;obtain⟨iD,hiD,UM,hD1,hD2⟩:=Dp aqX;have mk1:∀W,(Instr.makeSlice 157 (.int .i64 (gn:Int)) (.int .i64 (gn:Int))).run Tryz.prog W=.ok (.slice (some ⟨W.heap.size,0,none⟩) gn gn) (W.alloc (.cells cS 144)):=fun W=>by
  have hr:=Sy (P:=Tryz.prog) W 157 144 iA _ Tryz.underlying157 XT Sq .i64 .i64 (gn:Int) (gn:Int) A0 (EJ _) (by rw [NS];omega) A0;rw [hA1,Cu] at hr;rw [hr,← TS,← wD];rfl
 have mk2:∀W,(Instr.makeSlice 55 (.int .i64 (gn:Int)) (.int .i64 (gn:Int))).run Tryz.prog W=.ok (.slice (some ⟨W.heap.size,0,none⟩) gn gn) (W.alloc (.cells cB 4)):=fun W=>by
  have hr:=Sy (P:=Tryz.prog) W 55 4 iB _ YD XM hB0 .i64 .i64 (gn:Int) (gn:Int) A0 (EJ _) (by rw [hB2];omega) A0;rw [hB1,Cu] at hr;rw [hr,← hcB,← mZ];rfl
 have mk3:∀W,(Instr.makeSlice 56 (.int .i64 (gn:Int)) (.int .i64 (gn:Int))).run Tryz.prog W=.ok (.slice (some ⟨W.heap.size,0,none⟩) gn gn) (W.alloc (.cells cR 174)):=fun W=>by
  have hr:=Sy (P:=Tryz.prog) W 56 174 iC _ Tryz.underlying56 hiC Ww .i64 .i64 (gn:Int) (gn:Int) A0 (EJ _) (by rw [hC2];omega) A0;rw [hC1,Cu] at hr;rw [hr,← hcR,← aqN];rfl
 have mk4:∀W,(Instr.makeSlice 38 (.int .i64 (gn:Int)) (.int .i64 (gn:Int))).run Tryz.prog W=.ok (.slice (some ⟨W.heap.size,0,none⟩) gn gn) (W.alloc (.cells cI 3)):=fun W=>by
  have hr:=Sy (P:=Tryz.prog) W 38 3 iD _ JJ hiD UM .i64 .i64 (gn:Int) (gn:Int) A0 (EJ _) (by rw [hD2];omega) A0;rw [hD1,Cu] at hr;rw [hr,← Tr,← zk];rfl
 have⟨HCS,HCB,VT,HCI⟩:=CU TS hcB hcR Tr;clear TS hcB hcR Tr Sq hA1 NS hB0 hB1 hB2 Ww hC1 hC2 UM hD1 hD2 XT XM hiC hiD;go_cut [7] from 31 to 41 (fun a7 wx=>∃ab cb rb ib pb,a7=.pointer (some ⟨ab,0,none⟩)∧wx.heap[ab]?=some (.cells #[.slice GA gn BH,.slice PA P.length B7,.slice (some ⟨cb,0,none⟩) gn gn,.slice (some ⟨rb,0,none⟩) gn gn,.slice (some ⟨ib,0,none⟩) gn gn,.slice (some ⟨pb,0,none⟩) gn gn] 169 (0,0))∧wx.heap[cb]?=some (.cells cS 144 (0,0))∧wx.heap[rb]?=some (.cells cB 4 (0,0))∧wx.heap[ib]?=some (.cells cR 174 (0,0))∧wx.heap[pb]?=some (.cells cI 3 (0,0))∧(X.heap.size≤ab∧X.heap.size≤cb∧X.heap.size≤rb∧X.heap.size≤ib∧X.heap.size≤pb)∧Below X.heap.size X wx)
 case first=>
  go_region_held3 (fun w'=>(∀b o,b<X.heap.size→w'.cell? ⟨b,o,none⟩=X.cell? ⟨b,o,none⟩)∧Below X.heap.size X w') ((exact pS (by (repeat (first|(with_reducible exact AV _ _)|(with_reducible refine Dl ?_)|(with_reducible refine MU ?_ cM _)))))) (fail)
  all_goals (go_wp2_with fail;go_meet)
  all_goals
   refine⟨_,_,_,_,_,rfl,Et _ _ AR,?_,?_,?_,?_,by omega,?_⟩
   ·(show (World.alloc _ _).heap[_]?=_);(repeat (first|exact AY _ _|exact Et _ _ Xb|rw [Bv _ _ YC]))
   ·(show (World.alloc _ _).heap[_]?=_);(repeat (first|exact AY _ _|exact Et _ _ Xb|rw [Bv _ _ YC]))
   ·(show (World.alloc _ _).heap[_]?=_);(repeat (first|exact AY _ _|exact Et _ _ Xb|rw [Bv _ _ YC]))
   ·(show (World.alloc _ _).heap[_]?=_);(repeat (first|exact AY _ _|exact Et _ _ Xb|rw [Bv _ _ YC]))
   ·(repeat (first|(with_reducible exact AV _ _)|(with_reducible refine Dl ?_)|(with_reducible refine MU ?_ cM _)))
 obtain⟨ab,cb,rb,ib,pb,rfl,hd1,hd2,hd3,hd4,hd5,⟨ha,hc,hr,hi,hp⟩,bW⟩:=hcut;obtain⟨W1,hW1⟩:∃W1:World,W1=wc:=⟨_,rfl⟩;subst hW1;rw [←HCS.out] at hd2;rw [←HCB.out] at hd3;rw [←VT.out] at hd4;rw [←HCI.out] at hd5;have HCM:=A3 (show CM X W1 ab cb rb ib pb gn (.slice GA gn BH) (.slice PA P.length B7) (fun _=>.slice none 0 0) (fun _=>[]) from
  ⟨bW,ha,hr,hi,hp,hd1,⟨by simp,.inr ⟨cb,gn,_,rfl,hc,hd2,AH _,by unfold maxLen;omega,by simp,by simp [K8]⟩⟩,fun i hi=>NK _ _ _ _,fun i j hi hj _ q hq=>(by cases hq),hd3,hd4,hd5⟩)
 have bW1:=bW.size;have d0:W1.cell? ⟨w.heap.size+1,0,none⟩=_:=(bW.cell (p:=⟨w.heap.size+1,0,none⟩) lX).trans c0;have lW1:w.heap.size+1<W1.heap.size:=by omega
 clear hd1 hd2 hd3 hd4 hd5 ha hc hr hi hp bW HCS HCB VT HCI mk1 mk2 mk3 mk4;obtain⟨iI,Ef,Es,EN,FN⟩:=Dp qG;go_upto_region 6 with fail;clear d0 lW1;have hsX:=BX.out.size;go_loopw [45] (fun a45 wr=>∃(k:Nat) (val:Nat→Value),k≤gn∧a45=.int .i64 (k:Int)∧CM X wr ab cb rb ib pb gn (.slice GA gn BH) (.slice PA P.length B7) val (Di (Cf cd G) k [])) (fun a45 _=>gn - (intOf a45).toNat);case atStart=>exact⟨0,_,by omega,rfl,by rw [tK];exact HCM.out⟩
 case round=>
  obtain⟨k,val,hk,rfl,hM⟩:=hrel;have HM:=A3 hM;have hrX:=hM.AA.size;clear hM;by_cases hlt:k<gn
  ·have dl:decide ((k:Int)<(gn:Int))=true:=Ac A0
   have dk:(k:Int)<(gn:Int):=by omega
   obtain⟨x,hx⟩:∃x,G[k]?=some x:=⟨_,Ab (by rw [DU.out];exact hlt)⟩;have hgo:=Ea.out x (Bj hx);obtain⟨gq,Hx,rfl,Lg,gc⟩:=HG4.out Tb;obtain⟨e0,e1,nv,e2,TK⟩:=gc k x hx;obtain⟨nA,CX,rfl,n1,n2⟩:=ints_at TK;have n3:=MV n2;have bw:Below w.heap.size w wr:=BV.out.trans ((BX.out.trans (HM.out.AA.mono BX.out.size)).mono BV.out.size);have f0:wr.cell? ⟨gq,Hx+k*3,none⟩=_:=(bw.cell (p:=⟨gq,_,none⟩) Lg).trans e0;have f1:wr.cell? ⟨gq,Hx+k*3+1,none⟩=_:=(bw.cell (p:=⟨gq,_,none⟩) Lg).trans e1;have f2:wr.cell? ⟨gq,Hx+k*3+2,none⟩=_:=(bw.cell (p:=⟨gq,_,none⟩) Lg).trans e2;have lg:gq<wr.heap.size:=by have:=bw.size;omega
   obtain⟨xlo,SU⟩:∃v,x.lo=v:=⟨_,rfl⟩;obtain⟨xhi,SB⟩:∃v,x.hi=v:=⟨_,rfl⟩;obtain⟨xu,PY⟩:∃v,x.nx.length=v:=⟨_,rfl⟩;have apU:=hgo.lo;have oP:=hgo.lt;have MD:=hgo.MK;rw [SU] at f0 apU oP MD;rw [SB] at f1 oP MD;rw [PY] at f2 n1;obtain⟨ln,rfl⟩:∃ln:Nat,xlo=(ln:Int):=⟨xlo.toNat,by omega⟩;obtain⟨hn,rfl⟩:∃hn:Nat,xhi=(hn:Int):=⟨xhi.toNat,by omega⟩;have Vp:hn≤1000000:=by
    have h1:=Mw.out.le;have:=(MD (hn - 1) A0 A0).1;omega
   have QM:=A3 (show ∀a:Nat,ln≤a→a<hn→a<n∧(Ba (cd a)).2=0∧0≤(AK cd (a:Int)).op from fun a h1 h2=>MD a A0 A0);have UG:=A3 (show Cf cd G k=codeFrom cd (ln:Int) (hn - ln) by
    unfold Cf;rw [show G.getD k ⟨0,0,[]⟩=x by simp [List.getD,hx],SU,SB];congr 1
    omega)
   clear hgo e0 e1 e2 TK gc bw SU SB PY MD hx n2;go_upto_region 9 with fail;obtain⟨b9,hb9⟩:=A8 wr.heap.size;obtain⟨Y,hY⟩:=A8 (wr.alloc (.cells #[.int .i64 (ln:Int),.int .i64 (hn:Int),.slice nA xu CX] 78));rw [hY];have bY:Below wr.heap.size wr Y:=hY▸(AV _ _).alloc (AH _) _;have kY:Y.heap[b9]?=some (.cells #[.int .i64 (ln:Int),.int .i64 (hn:Int),.slice nA xu CX] 78 (0,0)):=by rw [←hb9,← hY];exact AY _ _
   rw [hb9];have⟨KY,HMY⟩:=AQ kY (HM.out.below bY);clear hb9 hY bY kY f0 f1 f2;obtain⟨wo,Nk⟩:∃wo:World,wo=wr:=⟨_,rfl⟩;subst Nk;go_loopw [10] (fun a10 wz=>∃(j:Nat) (Kv:Nat→Value),j≤hn - ln∧a10=.int .i64 ((ln:Int)+(j:Int))∧CM X wz ab cb rb ib pb gn (.slice (some ⟨gq,Hx,none⟩) gn BH) (.slice PA P.length B7) Kv (Di (Cf cd G) k (codeFrom cd (ln:Int) j))∧wz.heap[b9]?=some (.cells #[.int .i64 (ln:Int),.int .i64 (hn:Int),.slice nA xu CX] 78 (0,0))) (fun a10 _=>hn - (intOf a10).toNat);case atStart=>exact⟨0,val,by omega,rfl,HMY.out,KY.out⟩
   case round=>
    obtain⟨j,Kv,hj,rfl,hM2,k9⟩:=hrel;have⟨Jh,K9⟩:=AQ hM2 k9;have hzX:=hM2.AA.size;have z1:wr.cell? ⟨b9,1,none⟩=some (.int .i64 (hn:Int)):=by simp [World.cell?,k9]
    have lz9:b9<wr.heap.size:=Ak k9;clear hM2 k9;by_cases hlt2:j<hn - ln
    ·have dl2:decide ((ln:Int)+(j:Int)<(hn:Int))=true:=Ac A0
     obtain⟨m1,m2,m3⟩:=QM.out (ln+j) A0 A0;have QO:Below w.heap.size w wr:=BV.out.trans ((BX.out.trans (Jh.out.AA.mono BX.out.size)).mono BV.out.size);have WW:=A3 (((BX.out.trans (Jh.out.AA.mono BX.out.size)).block _ Y5).trans K0.out);have t0:wr.cell? ⟨w.heap.size,0,none⟩=some cv:=by have:=WW.out;simp [World.cell?,this]
     have t1:wr.cell? ⟨w.heap.size,1,none⟩=some ev:=by have:=WW.out;simp [World.cell?,this]
     have t2:wr.cell? ⟨w.heap.size,2,none⟩=some (.int .i64 sh):=by have:=WW.out;simp [World.cell?,this]
     have t3:wr.cell? ⟨w.heap.size,3,none⟩=some (.int .i64 lk):=by have:=WW.out;simp [World.cell?,this]
     obtain⟨op,ia,ic,id,im,hi⟩:∃op ia ic id im,AK cd ((ln:Int)+(j:Int))=⟨op,ia,ic,id,im⟩:=⟨_,_,_,_,_,rfl⟩;have M8:=A3 (show Calls Tryz.prog 85 #[.agg #[cv,ev,.int .i64 sh,.int .i64 lk],.int .i64 ((ln:Int)+(j:Int))] wr fun e w'=>e=.returned (.tuple #[.agg #[.int .u8 op,.int .i64 ia,.int .i64 ic,.int .i64 id,.int .i64 im],.bool true])∧Below wr.heap.size wr w' from by
      have:=xA cv ev sh lk n cd (ln+j) m1 m2 wr (HT.out.below QO) (Mw.out.below QO);rw [Int.natCast_add,hi] at this
      exact this)
     have HI:=A3 hi;have wl:IntKind.i64.wrap ((ln:Int)+(j:Int)+1)=(ln:Int)+(j:Int)+1:=Dn _ A0;clear m1 m2 m3 QO hi;go_upto_region 14 with (first|(go_at_call 85;refine M8.out.mono ?_;rintro e w2 ⟨rfl,hb2⟩));obtain⟨U,hU⟩:=A8 (w2.alloc (.cells #[.int .u8 op,.int .i64 ia,.int .i64 ic,.int .i64 id,.int .i64 im] 67));rw [hU];have bU:Below w2.heap.size w2 U:=hU▸(AV _ _).alloc (AH _) _;obtain⟨y0,y1,y2,y3,y4,lU⟩:=Iw (show U.heap[w2.heap.size]?=some (.cells #[.int .u8 op,.int .i64 ia,.int .i64 ic,.int .i64 id,.int .i64 im] 67 (0,0)) from hU▸AY _ _);obtain⟨b11,fh⟩:∃b,w2.heap.size=b:=⟨_,rfl⟩;have T9:Below wr.heap.size wr U:=hb2.trans (bU.mono hb2.size);rw [fh] at y0 y1 y2 y3 y4 lU;rw [fh];have⟨GZ,PU⟩:=AQ (Jh.out.below T9) ((T9.block b9 lz9).trans K9.out);have v0:=GZ.out.cells.1;obtain⟨lab,J0,-,-,-⟩:=GZ.out.lt;obtain⟨v1,v1f⟩:=GZ.out.at_ hlt;have hop:=GZ.out.own k hlt;rw [S2,SZ] at hop;obtain⟨vk,LJ⟩:∃v,Kv k=v:=⟨_,rfl⟩;have Wp:=A3 LJ;have Vf:=A3 (show some cb≠vk.ownBlock from fun e'=>by
      rw [←LJ] at e'
      exact (GZ.out.Jj hlt cb e'.symm).2.2.1 rfl)
     have HNa:=A3 (show some ab≠vk.ownBlock from fun e'=>by
      rw [←LJ] at e'
      exact (GZ.out.Jj hlt ab e'.symm).2.1 rfl)
     have HN9:=A3 (show some b9≠vk.ownBlock from fun e'=>by
      rw [←LJ] at e';obtain⟨cs,hcs⟩:=LS hop e'.symm
      exact Dh hcs PU.out AP rfl)
     rw [LJ] at hop v1;have IL:=A3 hop;obtain⟨vA,vn,Cv,hvs⟩:∃vA vn Cv,vk=.slice vA vn Cv:=by
      rcases hop.2 with⟨e,_⟩|⟨g',cap',cur',e,_⟩
      ·exact⟨_,_,_,e⟩
      ·exact⟨_,_,_,e⟩
     subst hvs;have lU9:b9<U.heap.size:=Ak PU.out;have UB:=A3 (show X.heap.size≤U.heap.size from GZ.out.AA.size);have Jn:=A3 (show ∀(W2:World) (v2:Value),((U.alloc (.cells #[.int .u8 op,.int .i64 ia,.int .i64 ic,.int .i64 id,.int .i64 im] 67)).drew).grownBy W2 (Value.slice vA vn Cv).ownBlock→W2.ownsRow X.heap.size 67 5 v2 (j+1) (Nf (codeFrom cd (ln:Int) j)++[.int .u8 op,.int .i64 ia,.int .i64 ic,.int .i64 id,.int .i64 im])→(v2.ownBlock=(Value.slice vA vn Cv).ownBlock∨v2.ownBlock=some ((U.alloc (.cells #[.int .u8 op,.int .i64 ia,.int .i64 ic,.int .i64 id,.int .i64 im] 67)).drew).heap.size)→
       CM X (W2.setCell ⟨cb,k,none⟩ v2) ab cb rb ib pb gn (.slice (some ⟨gq,Hx,none⟩) gn BH) (.slice PA P.length B7) (upd Kv k v2) (Di (Cf cd G) k (codeFrom cd (ln:Int) (j+1)))∧(W2.setCell ⟨cb,k,none⟩ v2).heap[b9]?=some (.cells #[.int .i64 (ln:Int),.int .i64 (hn:Int),.slice nA xu CX] 78 (0,0)) from fun W2 v2 hg2 ho2 Qg=>by
      have bD:Below U.heap.size U ((U.alloc (.cells #[.int .u8 op,.int .i64 ia,.int .i64 ic,.int .i64 id,.int .i64 im] 67)).drew):=Dl ((AV _ _).alloc (AH _) _);have h3:=GZ.out.app (y:=AK cd ((ln:Int)+(j:Int))) hlt bD (by rw [Wp.out];exact hg2) (by rw [S2,SZ,aah,HI.out];exact ho2) (by rw [Wp.out];exact Qg);rw [S2,mD,← Zr] at h3;refine⟨h3,?_⟩;rw [Bb _ _ _ _ (by
       show b9≠cb;intro e;obtain⟨cs,hcs⟩:=LS GZ.out.JH (q:=cb) rfl
       exact Dh PU.out hcs AP e)]
      rw [(grown_of bD hg2).block b9 lU9 (fun e=>HN9.out e)]
      exact PU.out)
     clear hU bU T9 fh hb2 hop LJ t0 t1 t2 t3;refine Yl ?_;go_region_law (refine eN rfl (.tmp 78) (.tmp 80) 144 rfl X.heap.size 67 iI _ 5 40 Tryz.underlying144 Ef Es EN FN rfl AP (.slice vA vn Cv) j (Nf (codeFrom cd (ln:Int) j)) XZ (oW (om IL.out) _) ⟨U.heap.size,0,none⟩ 1 1 [.int .u8 op,.int .i64 ia,.int .i64 ic,.int .i64 id,.int .i64 im] XZ rfl (rJ _ _ _ _ _ _ _) Bd CJ A0 aec ?_;intro v' W2 hown2 hgrow2 RB;obtain⟨g2,EY,rfl⟩:=Mp hown2;have hc1:=hgrow2.cell (a:=⟨cb,k,none⟩) (v:=.slice vA vn Cv) Ga Vf.out;have hc2:=hgrow2.cell (a:=⟨ab,2,none⟩) (v:=.slice (some ⟨cb,0,none⟩) gn gn) Ga HNa.out;have hf1:W2.frozen? ⟨cb,k,none⟩=false:=(Oe (hgrow2.block cb CD Vf.out)).trans Ga)
     all_goals
      have F1:=A3 (Jn.out W2 _ hgrow2 hown2 RB);clear hgrow2 hown2 RB hc1 hc2 hf1;refine ZM ?_;go_wp2_with fail;go_roundw;case rel=>exact⟨j+1,_,by omega,by first|rfl|(congr 1;omega)|go_num,F1.out.1,F1.out.2⟩
      case measure=>exact Ai
    ·obtain rfl:j=hn - ln:=by omega
     have dl2:decide ((ln:Int)+((hn - ln:Nat):Int)<(hn:Int))=false:=Ad A0;have Nz:=A3 (show CM X wr ab cb rb ib pb gn (.slice (some ⟨gq,Hx,none⟩) gn BH) (.slice PA P.length B7) Kv (Di (Cf cd G) (k+1) []) by rw [←tY,UG.out];exact Jh.out);go_wp2_with fail;go_roundw;case rel=>exact⟨k+1,Kv,by omega,by go_num,Nz.out⟩
     case measure=>exact Ai
  ·obtain rfl:k=gn:=by omega
   have dl:decide ((k:Int)<(k:Int))=false:=by simp
   obtain⟨-,u3,u7⟩:=HM.out.cells;obtain⟨ua,-,ur,-,-⟩:=HM.out.lt;obtain⟨u4,u5⟩:=arL HM.out.E6 hg0;have iz:(0:Int)<(k:Int):=by omega
   have tM:∀(q:Nat) (x:AU) (b:AB),G[q]?=some x→(BR cd G)[q]?=some b→x.nx=b.nx:=fun q x b h1 h2=>by
    obtain⟨x',e1,e2⟩:=Zs h2;rw [h1] at e1;cases e1;rw [e2]
   have nJ:∀(q:Nat) (b:AB),(BR cd G)[q]?=some b→Di (Cf cd G) k [] q=b.code:=fun q b h2=>by
    obtain⟨x',e1,e2⟩:=Zs h2;have hq:q<k:=by have:=(Bc.1 e1).1;rw [DU.out] at this;exact this
    unfold Di Cf;rw [A9 hq,e2,show G.getD q ⟨0,0,[]⟩=x' by simp [List.getD,e1]]
   have hbl:(BR cd G).length=k:=by rw [dZ];exact DU.out
   have Nr:=A3 (HM.out.start (B:=BR cd G) (G:=G) (NM.out.below (BV.out.trans (BX.out.mono BV.out.size))) hbl DU.out hg0 A0 tM nJ);have Gh:=A3 hbl;clear tM nJ hbl u7;go_upto_region 18 with fail;obtain⟨W2,hW2⟩:=A8 (wr.setCell ⟨rb,0,none⟩ (.bool true));rw [hW2];rw [hW2] at Nr;have Zw:=A3 (show ∀(q:Nat) (b:AB),(BR cd G)[q]?=some b→ABw (BR cd G).length b from fun q b h2=>by
    obtain⟨x',e1,e2⟩:=Zs h2;have:=(Ea.out x' (Bj e1)).abw;rw [e2,dZ]
    exact this)
   have HTX:=A3 (HT.out.below (BV.out.trans (BX.out.mono BV.out.size)));clear hW2 u3 u4 u5 ua ur;go_loopg [13] (Gq (EI k) k+1) (fun gk a13 wr=>∃(s:AS) (c:Bool),a13=.bool c∧Gq s k+(if c=true then 1 else 0)≤gk∧An X wr ab cb rb ib pb (.slice GA k BH) (.slice PA P.length B7) G (BR cd G) val s∧(c=true→∀s',Ends (BR cd G) s s'→Ends (BR cd G) (EI k) s')∧(c=false→Ends (BR cd G) (EI k) s));case atStart=>exact⟨EI k,true,rfl,by simp,Nr.out,fun _ s' h=>h,fun h=>by cases h⟩
   case round=>
    obtain⟨s,c,rfl,Ov,hA,hc1,hc2⟩:=hrel;have⟨HA,HC1,Jp⟩:=Bh hA hc1 hc2;clear hA hc1 hc2 Nr;cases c with
    | true=>
     have HGK:=A3 (show Gq s k+1≤gk by simpa using Ov);clear Ov Jp;have e0:wr.cell? ⟨w.heap.size+1,0,none⟩=_:=(HA.out.AA.cell (p:=⟨w.heap.size+1,0,none⟩) lX).trans c0;have le0:w.heap.size+1<wr.heap.size:=by have:=HA.out.AA.size;omega
     go_upto_region 21 with fail;clear e0 le0;obtain⟨wo,Nk⟩:∃wo:World,wo=wr:=⟨_,rfl⟩;subst Nk;go_loopw [13,93] (fun a13 a93 wz=>∃q:Nat,q≤k∧a93=.int .i64 (q:Int)∧a13=.bool (D5 (BR cd G) s q).2∧An X wz ab cb rb ib pb (.slice GA k BH) (.slice PA P.length B7) G (BR cd G) val (D5 (BR cd G) s q).1) (fun _ a93 _=>k - (intOf a93).toNat);case atStart=>exact⟨0,by omega,rfl,rfl,HA.out⟩
     case round=>
      obtain⟨q,hq,rfl,rfl,NS⟩:=hrel;have Ky:=A3 NS;clear NS;by_cases hlt3:q<k
      ·have dl3:decide ((q:Int)<(k:Int))=true:=Ac A0
       have dq:(q:Int)<(k:Int):=by omega
       obtain⟨sq,QG⟩:=A8 (D5 (BR cd G) s q);have HSQ:=A3 QG;rw [QG] at Ky;rw [QG];obtain⟨b,hb⟩:∃b,(BR cd G)[q]?=some b:=⟨_,Ab (by rw [Gh.out];exact hlt3)⟩;obtain⟨t1,t2,-,-,-⟩:=Ky.out.lt;obtain⟨-,-,t3,-,-⟩:=Ky.out.cells;rw [Gh.out] at t3;have t4:=(Ky.out.Zh (t:=q) (by rw [Gh.out];exact hlt3)).1;have Tf:=A3 (agJ Ky.out hb (Zw.out q b hb) HTX.out);have hgb:(BR cd G).getD q ⟨[],[]⟩=b:=by simp [List.getD,hb]
       rcases Il:sq.1.reach.getD q false with _|_
       ·rw [Il] at t4
        have HST:=A3 (show D5 (BR cd G) s (q+1)=sq by simp only [D5];rw [HSQ.out,Il];simp);clear QG hb Il hgb;go_wp2_with fail;go_roundw;case rel=>exact⟨q+1,by omega,by go_num,by rw [HST.out],by rw [HST.out];exact Ky.out⟩
        case measure=>exact Ai
       ·rw [Il] at t4
        have HST:=A3 (show D5 (BR cd G) s (q+1)=((Fh b q sq.1).1,sq.2 || (Fh b q sq.1).2) by simp only [D5];rw [HSQ.out,Il,A9 rfl,hgb]);clear QG hb Il hgb;rcases hvr:(Fh b q sq.1).2 with _|_
        ·rw [hvr] at Tf HST
         clear hvr;go_wp2_with (go_at_call 86;refine Tf.out.mono ?_;rintro e w3 ⟨rfl,hA3,hF3⟩);go_roundw;case rel=>exact⟨q+1,by omega,by go_num,by rw [HST.out];simp,by rw [HST.out];exact hA3⟩
         case measure=>exact Ai
        ·rw [hvr] at Tf HST
         clear hvr;go_wp2_with (go_at_call 86;refine Tf.out.mono ?_;rintro e w3 ⟨rfl,hA3,hF3⟩);go_roundw;case rel=>exact⟨q+1,by omega,by go_num,by rw [HST.out];simp,by rw [HST.out];exact hA3⟩
         case measure=>exact Ai
      ·obtain rfl:q=k:=by omega
       have dl3:decide ((q:Int)<(q:Int))=false:=by simp
       have hpa:=oa (fun b hb=>by
        obtain⟨i,hi,e⟩:=Rk hb;have:=(Zw.out i b (by rw [←e];exact Ab hi)).f.ok
        rwa [Gh.out] at this) Gh.out (by have:=HA.out.El;rwa [Gh.out] at this) q (AH _)
       have HPA:=A3 hpa;have Kj:=A3 (show ((D5 (BR cd G) s q).2=true→∀s',Ends (BR cd G) (D5 (BR cd G) s q).1 s'→Ends (BR cd G) (EI q) s')∧((D5 (BR cd G) s q).2=false→Ends (BR cd G) (EI q) (D5 (BR cd G) s q).1) from
        ⟨fun h s' h2=>HC1.out Z6 s' (Ends.more (by rw [Gh.out];exact h) (by rw [Gh.out];exact h2)),fun h=>HC1.out Z6 _ (by
         have:=Ends.done (B:=BR cd G) (s:=s) (by rw [Gh.out];exact h)
         rwa [Gh.out] at this)⟩)
       clear hpa;go_wp2_with fail
       go_roundg (Gq (D5 (BR cd G) s q).1 q+(if (D5 (BR cd G) s q).2=true then 1 else 0))
       case measure=>
        obtain⟨-,h1,h2⟩:=HPA.out;have h3:=HGK.out;rcases hpp:(D5 (BR cd G) s q).2 with _|_
        ·rw [h2 hpp];simp;omega
        ·have:=h1 hpp;simp;omega
       case rel=>exact⟨_,_,rfl,AH _,Ky.out,Kj.out.1,Kj.out.2⟩
    | false=>
     have HE:=A3 (Jp.out Z6);clear HC1 Jp Ov;go_upto_region 26 with fail;obtain⟨Z,hZw⟩:∃Z:World,Z=wr:=⟨_,rfl⟩;subst hZw;obtain⟨t1,-,t5,t6,-⟩:=HA.out.lt;obtain⟨-,-,t3,t4,-⟩:=HA.out.cells;rw [Gh.out] at t3 t4;go_cut [15] from 109 to 117 (fun a15 wx=>∃b15,a15=.pointer (some ⟨b15,0,none⟩)∧wx.heap[b15]?=some (.cells #[.slice (some ⟨rb,0,none⟩) k k,.slice (some ⟨ib,0,none⟩) k k,.slice none 0 0] 59 (0,0))∧Z.heap.size≤b15∧Below Z.heap.size Z wx)
     case first=>
      go_region
      all_goals
       go_wp2_with fail;go_meet;case rel=>exact⟨_,rfl,AY _ _,AH _,(Dl (AV _ _)).alloc (AH _) _⟩
     obtain⟨b15,rfl,kd,hbd,bZ⟩:=hcut;obtain⟨W6,P6⟩:∃W6:World,W6=wc:=⟨_,rfl⟩;subst P6;have HDM:=A3 (show DM Z W6 b15 rb ib k (.slice none 0 0) [] from⟨bZ,hbd,kd,NK _ _ _ _⟩);obtain⟨iP,hiP,hP0,hP1,hP2⟩:=Dp infoP;have Uv:=A3 (HA.out.AA);have bXw:Below X.heap.size X W6:=HA.out.AA.trans (bZ.mono HA.out.AA.size);have e0:W6.cell? ⟨w.heap.size+1,0,none⟩=_:=(bXw.cell (p:=⟨w.heap.size+1,0,none⟩) lX).trans c0;have le0:w.heap.size+1<W6.heap.size:=by have:=bXw.size;omega
     have HDL:=A3 (vL (B:=BR cd G) (s:=s) (fun q b hb=>(Zw.out q b hb).Gf));clear t1 t3 t4 t5 t6 kd hbd bZ bXw;go_upto_region 28 with fail;clear e0 le0;go_loopw [121] (fun fC wz=>∃(q:Nat) (dv:Value),q≤k∧fC=.int .i64 (q:Int)∧DM Z wz b15 rb ib k dv (Em (BR cd G) s q)) (fun fC _=>k - (intOf fC).toNat);case atStart=>exact⟨0,_,by omega,rfl,HDM.out⟩
     case round=>
      obtain⟨q,dv,hq,rfl,hD⟩:=hrel;have HD:=A3 hD;clear hD;by_cases UY:q<k
      ·have dl4:decide ((q:Int)<(k:Int))=true:=Ac A0
       have dq:(q:Int)<(k:Int):=by omega
       have HAq:=A3 (HA.out.below HD.out.AA);obtain⟨x,hx⟩:∃x,G[q]?=some x:=⟨_,Ab (by rw [DU.out];exact UY)⟩;have hgo:=Ea.out x (Bj hx);obtain⟨gq,Hx,rfl,Lg,gc⟩:=HG4.out Tb;obtain⟨e0,e1,nv,e2,TK⟩:=gc q x hx;obtain⟨nA,CX,rfl,n1,n2,n4⟩:=TK;have n3:=MV n2;have bw:Below w.heap.size w wr:=BV.out.trans ((BX.out.trans (HAq.out.AA.mono BX.out.size)).mono BV.out.size);have f0:wr.cell? ⟨gq,Hx+q*3,none⟩=_:=(bw.cell (p:=⟨gq,_,none⟩) Lg).trans e0;have f1:wr.cell? ⟨gq,Hx+q*3+1,none⟩=_:=(bw.cell (p:=⟨gq,_,none⟩) Lg).trans e1;have f2:wr.cell? ⟨gq,Hx+q*3+2,none⟩=_:=(bw.cell (p:=⟨gq,_,none⟩) Lg).trans e2;have lg:gq<wr.heap.size:=by have:=bw.size;omega
       obtain⟨xu,PY⟩:∃v,x.nx.length=v:=⟨_,rfl⟩;have auX:xu≤1000:=by rw [←PY];exact hgo.Gf
       rw [PY] at f2 n1;obtain⟨b,hb⟩:∃b,(BR cd G)[q]?=some b:=⟨_,Ab (by rw [Gh.out];exact UY)⟩;have Q3:b.nx=x.nx:=by
        obtain⟨x',h1,h2⟩:=Zs hb;rw [hx] at h1;cases h1;rw [h2]
       have hgb:(BR cd G).getD q ⟨[],[]⟩=b:=by simp [List.getD,hb]
       have⟨HB,LW,Ds,UB⟩:=CU (Zw.out q b hb) hb Q3 PY;obtain⟨r1,-,r3,-,-⟩:=HAq.out.lt;obtain⟨-,-,r5,-,-⟩:=HAq.out.cells;rw [Gh.out] at r5;have r6:=(HAq.out.Zh (t:=q) (by rw [Gh.out];exact UY)).1;have ER:=A3 (show ∀(j:Nat) (t:Int),x.nx[j]?=some t→∃nb Fy,nA=some ⟨nb,Fy,none⟩∧nb<w.heap.size∧w.cell? ⟨nb,Fy+j,none⟩=some (.int .i64 t) from fun j t hj=>by
        have hl:=(Bc.1 hj).1;obtain⟨nb,Fy,ha,hb2,hcc⟩:=n4 A0
        exact⟨nb,Fy,ha,hb2,by rw [hcc j hl,show x.nx.getD j 0=t by simp [List.getD,hj]]⟩)
       have TU:=A3 bw;have My:=A3 (show Em (BR cd G) s (q+1)=Em (BR cd G) s q++(if s.reach.getD q false=true then Ee b q b.nx.length (s.AG.getD q []) else []) by rw [qU,hgb]);have hdl:=HDL.out q;clear hgo e0 e1 e2 gc PY hx hb Q3 hgb n4 n2 bw;rcases Il:s.reach.getD q false with _|_
       ·rw [Il] at r6 My
        simp only [NJ,Lc,Jz] at My;clear Il;go_wp2_with fail;go_roundw;case rel=>exact⟨q+1,dv,by omega,by go_num,by rw [My.out];exact HD.out.below ((AV _ _).alloc (AH _) _)⟩
        case measure=>exact Ai
       ·rw [Il] at r6 My
        rw [A9 rfl] at My;clear Il;go_upto_region 31 with fail;obtain⟨b17,YJ⟩:=A8 wr.heap.size;obtain⟨Y,hY⟩:=A8 (wr.alloc (.cells #[.int .i64 x.lo,.int .i64 x.hi,.slice nA xu CX] 78));rw [hY];have bY:Below wr.heap.size wr Y:=hY▸(AV _ _).alloc (AH _) _;have kY:Y.heap[b17]?=some (.cells #[.int .i64 x.lo,.int .i64 x.hi,.slice nA xu CX] 78 (0,0)):=by rw [←YJ,← hY];exact AY _ _
        rw [YJ];have⟨HDY,J5,KY⟩:=Bh (HD.out.below bY) (HAq.out.below bY) kY;have y17:Y.cell? ⟨b17,2,none⟩=some (.slice nA xu CX):=by simp [World.cell?,kY]
        have l17:b17<Y.heap.size:=Ak kY;have Gl:=A3 (qY J5.out LW.out HB.out.ne HB.out.f.ops (HTX.out.below J5.out.AA));have Qx:=A3 (fun AX (h:Dc b.code (s.AG.getD q [])=some AX)=>TM HB.out.f.ops (J5.out.El.get (by rw [Gh.out];exact UY)) h);clear hY bY kY YJ f0 f1 f2 r1 r3 r5 r6;have HDK:=A3 hdl;rcases hr:Dc b.code (s.AG.getD q []) with _|AX
        ·rw [hr] at Gl
         have JN:=A3 hr;clear hr Qx;go_upto_region 32 with (first|(go_at_call 87;refine Gl.out.mono ?_;rintro e w3 ⟨rfl,hb3⟩;unfold Cq)|(refine Bk rfl 174 (.tmp 18) (.tmp 138) rfl w3.heap.size (AE Aj).toArray rfl rfl 174 _ (AY _ _) (hi4 BO) (hi6 BO BO) (Ct Aj) ?_));obtain⟨Y2,RN⟩:=A8 ((w3.alloc (.cells BL.toArray 174)).setRow w3.heap.size (AE Aj).toArray);rw [RN];have QZ:Below Y.heap.size Y Y2:=RN▸Bu (hb3.alloc hb3.size _) hb3.size _;have z17:Y2.cell? ⟨b17,2,none⟩=_:=(QZ.cell (p:=⟨b17,2,none⟩) l17).trans y17;have m17:b17<Y2.heap.size:=by have:=QZ.size;omega
         have HD2:=A3 (HDY.out.below QZ);clear RN QZ hb3;go_upto_region 33 with fail;clear z17 m17;obtain⟨wo,Nk⟩:∃wo:World,wo=wr:=⟨_,rfl⟩;subst Nk;go_loopw [143] (fun a143 wz=>∃(j:Nat) (dv2:Value),j≤xu∧a143=.int .i64 (j:Int)∧DM Z wz b15 rb ib k dv2 (Em (BR cd G) s q++Ee b q j (s.AG.getD q []))) (fun a143 _=>xu - (intOf a143).toNat);case atStart=>exact⟨0,dv,by omega,rfl,by rw [wB,Jz];exact HD2.out⟩
         case round=>
          obtain⟨j,dv2,hj,rfl,Yr⟩:=hrel;have Jo:=A3 Yr;clear Yr;by_cases Tt:j<xu
          ·have dl5:decide ((j:Int)<(xu:Int))=true:=Ac A0
           have dj:(j:Int)<(xu:Int):=by omega
           obtain⟨t,ht⟩:∃t,x.nx[j]?=some t:=⟨_,Ab (by rw [UB.out];exact Tt)⟩;obtain⟨nb,Fy,rfl,hnb,Mf⟩:=ER.out j t ht;have Uf:Below w.heap.size w wr:=BV.out.trans ((BX.out.trans ((Uv.out.trans (Jo.out.AA.mono Uv.out.size)).mono BX.out.size)).mono BV.out.size);have x0:wr.cell? ⟨nb,Fy+j,none⟩=some (.int .i64 t):=(Uf.cell (p:=⟨nb,Fy+j,none⟩) hnb).trans Mf;have lnb:nb<wr.heap.size:=by have:=Uf.size;omega
           obtain⟨d1,d2,d3⟩:=Jo.out.cell;have HOW:=A3 Jo.out.row;have MR:=lH b q j (s.AG.getD q []);have hZs:=Jo.out.AA.size;have PC:=A3 (show Em (BR cd G) s q++Ee b q (j+1) (s.AG.getD q [])=Em (BR cd G) s q++Ee b q j (s.AG.getD q [])++[((q:Int),t)] by
            rw [apD JN.out (by rw [Ds.out,UB.out];exact Tt),Ds.out,show x.nx.getD j 0=t by simp [List.getD,ht],ZQ])
           obtain⟨LL,Om⟩:=A8 (Em (BR cd G) s q++Ee b q j (s.AG.getD q []));have hLn:LL.length≤1000*q+j:=by rw [←Om,G5];have:=HDK.out;omega
           rw [Om] at PC HOW Jo;clear ht Mf Uf MR Om;go_wp2_with (at_builtin;refine Lx _ rfl (.tmp 151) (.tmp 155) 57 rfl Z.heap.size 109 iP _ 2 16 nH hiP hP0 hP1 hP2 rfl AP dv2 LL.length (JE LL) rfl (HOW.out.alloc _) ⟨wr.heap.size,0,none⟩ 1 1 [.int .i64 (q:Int),.int .i64 t] rfl rfl (gB _ _ _ _) Bd CJ A0 I7 ?_;intro v' W' hown' hgrow hni DY;obtain⟨g3,apT,rfl⟩:=Mp hown';obtain⟨hdm,hkeep⟩:=Jo.out.app (y:=((q:Int),t)) ((AV _ _).alloc (AH _) _) hgrow (by rw [gN];exact hown');have h15:W'.cell? ⟨b15,2,none⟩=some dv2:=hgrow.cell (a:=⟨b15,2,none⟩) (v:=dv2) Ga (fun e=>Jo.out.Jj e);have aiq:W'.frozen? ⟨b15,2,none⟩=false:=(Oe (hgrow.block b15 CD (fun e=>Jo.out.Jj e))).trans Ga);go_roundw;case rel=>exact⟨j+1,_,by omega,by go_num,by rw [PC.out];exact hdm⟩
           case measure=>exact Ai
          ·obtain rfl:j=xu:=by omega
           have dl5:decide ((j:Int)<(j:Int))=false:=by simp
           have Nz:=A3 (show DM Z wr b15 rb ib k dv2 (Em (BR cd G) s (q+1)) by rw [My.out,Ds.out,UB.out];exact Jo.out);go_wp2_with fail;go_roundw;case rel=>exact⟨q+1,dv2,by omega,by go_num,Nz.out⟩
           case measure=>exact Ai
        ·rw [hr] at Gl
         have⟨JN,CL⟩:=AQ hr (Qx.out AX hr);clear hr Qx;go_upto_region 32 with (first|(go_at_call 87;refine Gl.out.mono ?_;rintro e w3 ⟨rfl,hb3⟩;unfold Cq)|(refine Bk rfl 174 (.tmp 18) (.tmp 138) rfl w3.heap.size (AE AX).toArray rfl rfl 174 _ (AY _ _) (hi4 CL.out.len) (hi6 CL.out.len BO) (Ct AX) ?_));obtain⟨b18,fK⟩:=A8 w3.heap.size;obtain⟨Y2,RN⟩:=A8 ((w3.alloc (.cells BL.toArray 174)).setRow w3.heap.size (AE AX).toArray);rw [RN];have QZ:Below Y.heap.size Y Y2:=RN▸Bu (hb3.alloc hb3.size _) hb3.size _;have kY2:Ag Y2 b18 174 AX:=by rw [←fK,← RN];exact Ag.row (z:=Aj) (AY _ _)
         rw [fK];have z17:Y2.cell? ⟨b17,2,none⟩=_:=(QZ.cell (p:=⟨b17,2,none⟩) l17).trans y17;have m17:b17<Y2.heap.size:=by have:=QZ.size;omega
         have⟨HD2,KB0⟩:=AQ (HDY.out.below QZ) kY2;clear RN QZ hb3 fK kY2;go_upto_region 33 with fail;clear z17 m17;obtain⟨wo,Nk⟩:∃wo:World,wo=wr:=⟨_,rfl⟩;subst Nk;go_loopw [143] (fun a143 wz=>∃(j:Nat) (dv2:Value),j≤xu∧a143=.int .i64 (j:Int)∧DM Z wz b15 rb ib k dv2 (Em (BR cd G) s q++Ee b q j (s.AG.getD q []))∧Ag wz b18 174 AX) (fun a143 _=>xu - (intOf a143).toNat);case atStart=>exact⟨0,dv,by omega,rfl,by rw [wB,Jz];exact HD2.out,KB0.out⟩
         case round=>
          obtain⟨j,dv2,hj,rfl,Yr,hkb⟩:=hrel;have⟨Jo,KB,Dq⟩:=Bh Yr hkb hkb.range;clear Yr hkb;by_cases Tt:j<xu
          ·have dl5:decide ((j:Int)<(xu:Int))=true:=Ac A0
           have dj:(j:Int)<(xu:Int):=by omega
           obtain⟨t,ht⟩:∃t,x.nx[j]?=some t:=⟨_,Ab (by rw [UB.out];exact Tt)⟩;obtain⟨nb,Fy,rfl,hnb,Mf⟩:=ER.out j t ht;have Uf:Below w.heap.size w wr:=BV.out.trans ((BX.out.trans ((Uv.out.trans (Jo.out.AA.mono Uv.out.size)).mono BX.out.size)).mono BV.out.size);have x0:wr.cell? ⟨nb,Fy+j,none⟩=some (.int .i64 t):=(Uf.cell (p:=⟨nb,Fy+j,none⟩) hnb).trans Mf;have lnb:nb<wr.heap.size:=by have:=Uf.size;omega
           have HAz:=A3 (HA.out.below Jo.out.AA);have Gd:=A3 (mY HAz.out LW.out HB.out.ne HB.out.Gf HB.out.f.op j AX CL.out (HTX.out.below HAz.out.AA));have MR:=lH b q j (s.AG.getD q []);have PC:=A3 (show Em (BR cd G) s q++Ee b q (j+1) (s.AG.getD q [])=Em (BR cd G) s q++Ee b q j (s.AG.getD q [])++(if (ES b.last b.nx.length j AX).isNone=true then [((q:Int),t)] else []) by
            rw [yR JN.out,show b.nx.getD j 0=t by rw [Ds.out];simp [List.getD,ht],ZQ])
           obtain⟨LL,Om⟩:=A8 (Em (BR cd G) s q++Ee b q j (s.AG.getD q []));have hLn:LL.length≤1000*q+j:=by rw [←Om,G5];have:=HDK.out;omega
           rw [Om] at PC Jo;clear ht Mf Uf MR Om;rcases he:ES b.last b.nx.length j AX with _|r
           ·rw [he] at Gd PC
            simp only [Option.isNone_none,QW] at PC;clear he;go_upto_region 39 with (first|(refine DR rfl _ _ rfl _ _ rfl (AE AX) _ Dq.out BI rfl (hi3 CL.out.len) ?_)|(go_at_call 88;refine Gd.out.mono ?_;rintro e w5 ⟨rfl,hb5⟩;unfold Cq)|(refine Bk rfl 174 (.tmp 22) (.tmp 164) rfl w5.heap.size (AE Aj).toArray rfl rfl 174 _ (AY _ _) (hi4 BO) (hi6 BO BO) (Ct Aj) ?_));obtain⟨U,hU⟩:=A8 ((w5.alloc (.cells BL.toArray 174)).setRow w5.heap.size (AE Aj).toArray);rw [hU];have bU:Below wr.heap.size wr U:=hU▸Bu (hb5.alloc hb5.size _) hb5.size _;have⟨WC,KBU⟩:=AQ (Jo.out.below bU) (KB.out.keep bU);obtain⟨d1,d2,d3⟩:=WC.out.cell;have HOW:=A3 WC.out.row;have hZs:=WC.out.AA.size;clear hU bU hb5 x0 lnb;go_wp2_with (at_builtin;refine Lx _ rfl (.tmp 169) (.tmp 173) 57 rfl Z.heap.size 109 iP _ 2 16 nH hiP hP0 hP1 hP2 rfl AP dv2 LL.length (JE LL) rfl (HOW.out.alloc _) ⟨U.heap.size,0,none⟩ 1 1 [.int .i64 (q:Int),.int .i64 t] rfl rfl (gB _ _ _ _) Bd CJ A0 I7 ?_;intro v' W' hown' hgrow hni DY;obtain⟨g3,apT,rfl⟩:=Mp hown';obtain⟨hdm,hkeep⟩:=WC.out.app (y:=((q:Int),t)) ((AV _ _).alloc (AH _) _) hgrow (by rw [gN];exact hown');have h15:W'.cell? ⟨b15,2,none⟩=some dv2:=hgrow.cell (a:=⟨b15,2,none⟩) (v:=dv2) Ga (fun e=>WC.out.Jj e);have aiq:W'.frozen? ⟨b15,2,none⟩=false:=(Oe (hgrow.block b15 CD (fun e=>WC.out.Jj e))).trans Ga);go_roundw;case rel=>exact⟨j+1,_,by omega,by go_num,by rw [PC.out];exact hdm,hkeep _ _ _ KBU.out AP AP⟩
            case measure=>exact Ai
           ·rw [he] at Gd PC
            simp only [Option.isNone_some,NJ,Lc,Jz] at PC;have nS:=A3 (XJ CL.out he);clear he;go_wp2_with (first|(refine DR rfl _ _ rfl _ _ rfl (AE AX) _ Dq.out BI rfl (hi3 CL.out.len) ?_)|(go_at_call 88;refine Gd.out.mono ?_;rintro e w5 ⟨rfl,hb5⟩;unfold Cq)|(refine Bk rfl 174 (.tmp 22) (.tmp 164) rfl w5.heap.size (AE r).toArray rfl rfl 174 _ (AY _ _) (hi4 nS.out.len) (hi6 nS.out.len BO) (Ct r) ?_));go_roundw;case rel=>
             have bU:Below wr.heap.size wr ((w5.alloc (.cells BL.toArray 174)).setRow w5.heap.size (AE r).toArray):=Bu (hb5.alloc hb5.size _) hb5.size _;exact⟨j+1,dv2,by omega,by go_num,by rw [PC.out];exact Jo.out.below bU,KB.out.keep bU⟩
            case measure=>exact Ai
          ·obtain rfl:j=xu:=by omega
           have dl5:decide ((j:Int)<(j:Int))=false:=by simp
           have Nz:=A3 (show DM Z wr b15 rb ib k dv2 (Em (BR cd G) s (q+1)) by rw [My.out,Ds.out,UB.out];exact Jo.out);go_wp2_with fail;go_roundw;case rel=>exact⟨q+1,dv2,by omega,by go_num,Nz.out⟩
           case measure=>exact Ai
      ·obtain rfl:q=k:=by omega
       have dl4:decide ((q:Int)<(q:Int))=false:=by simp
       obtain⟨wf,hwf⟩:∃wf:World,wf=wr:=⟨_,rfl⟩;subst hwf;have Gl:=A3 (HA.out.below HD.out.AA);have KR0:=A3 (show wf.heap[w.heap.size+1+1]?=some (.cells #[.slice none 0 0,.slice none 0 0,.slice none 0 0] 59 (0,0)) from ((BX.out.trans (Gl.out.AA.mono BX.out.size)).block _ Y5).trans K2.out);have h15:=HD.out.head;have o0:wf.cell? ⟨b15,0,none⟩=some (.slice (some ⟨rb,0,none⟩) q q):=by simp [World.cell?,h15]
       have o1:wf.cell? ⟨b15,1,none⟩=some (.slice (some ⟨ib,0,none⟩) q q):=by simp [World.cell?,h15]
       have o2:wf.cell? ⟨b15,2,none⟩=some dv:=by simp [World.cell?,h15]
       have lo:=Ak h15;obtain⟨vA,vn,vc,rfl⟩:∃vA vn vc,dv=.slice vA vn vc:=by
        rcases HD.out.row.2 with⟨e,_⟩|⟨g',cap',cur',e,_⟩
        ·exact⟨_,_,_,e⟩
        ·exact⟨_,_,_,e⟩
       have BWF:=A3 (BV.out.trans ((BX.out.trans (Gl.out.AA.mono BX.out.size)).mono BV.out.size));clear h15;go_wp2_with (refine Bk rfl 59 (.tmp 4) (.tmp 178) rfl (w.heap.size+1+1) #[.slice (some ⟨rb,0,none⟩) q q,.slice (some ⟨ib,0,none⟩) q q,.slice vA vn vc] rfl rfl 59 _ KR0.out A4 rfl Bd ?_);have hbf:Below w.heap.size w (wf.setRow (w.heap.size+1+1) #[.slice (some ⟨rb,0,none⟩) q q,.slice (some ⟨ib,0,none⟩) q q,.slice vA vn vc]):=Bu BWF.out A0 _;refine Af (results_cell_tmp (P:=Tryz.prog) Tryz.results52 _ _ (w.heap.size+1+1) [.slice (some ⟨rb,0,none⟩) q q,.slice (some ⟨ib,0,none⟩) q q,.slice vA vn vc] _ rfl (Ev (Fg _ _ _ _ _ _ KR0.out)) gh rfl A4) rfl ⟨⟨s,_,_,_,HE.out,rfl,?_,?_,?_⟩,hbf⟩
       ·have hne:∀z,z≠w.heap.size+1+1→(wf.setRow (w.heap.size+1+1) #[.slice (some ⟨rb,0,none⟩) q q,.slice (some ⟨ib,0,none⟩) q q,.slice vA vn vc]).heap[z]?=wf.heap[z]?:=fun z hz=>Rh _ _ _ _ hz
        have s1:s.reach.length=q:=by have:=Gl.out.El.l1;rwa [Gh.out] at this
        have s2:s.AG.length=q:=by have:=Gl.out.El.l2;rwa [Gh.out] at this
        have x1:=Gl.out.rV;have x2:=Gl.out.iV;have x3:=SV.out;have x4:=BX.out.size;refine⟨⟨_,q,by rw [s1],by omega,by unfold maxLen;omega,fun _=>⟨rb,0,rfl,by have:=Gl.out.lt;simp [World.setRow];omega,fun p hp=>?_⟩⟩,⟨_,q,by rw [s2],by omega,by unfold maxLen;omega,fun _=>⟨ib,0,rfl,by have:=Gl.out.lt;simp [World.setRow];omega,fun p hp=>?_⟩⟩⟩
        ·rw [Er,N3 (hne rb A0)]
         exact (Gl.out.Zh (by rw [Gh.out];omega)).1
        ·rw [Er]
         intro jj vv Vd;rw [N3 (hne ib A0)];exact Gl.out.FV (by rw [Gh.out];omega) jj vv Vd
       ·have hp:=o8 HD.out.row
        obtain⟨A',cap',e1,e2,e3,e4⟩:=hp;refine⟨A',cap',e1,e2,e3,fun h0=>?_⟩;obtain⟨b',off',ea,eb,ec⟩:=e4 h0;refine⟨b',off',ea,by simp [World.setRow];omega,fun i p hi=>?_⟩;obtain⟨c1',c2'⟩:=ec i p hi;have hnb:b'≠w.heap.size+1+1:=by
         have h1:=(HD.out.row.lt b' (by rw [e1,ea];rfl)).1;have h2:=Uv.out.size;have x3:=SV.out;have x4:=BX.out.size;omega
        exact⟨by rw [N3 (Rh _ _ _ _ hnb)];exact c1',by rw [N3 (Rh _ _ _ _ hnb)];exact c2'⟩
       ·intro q' h
        have x1:=Gl.out.rV;have x2:=Gl.out.iV;have x3:=SV.out;have x4:=BX.out.size;have x5:=Uv.out.size;rcases h with h|h|h
        ·have e:rb=q':=by simpa [Value.ownBlock] using h
         omega
        ·have e:ib=q':=by simpa [Value.ownBlock] using h
         omega
        ·have:=(HD.out.row.lt q' h).1
         omega
theorem aaK:bR:=fun cv ev bv pv sh lk n cd G P w T HW HG HP hv h0 h1 hok=>ast cv ev bv pv sh lk n cd G P w T HW HG HP hv h0 h1 hok
end Go.Proofs.YtlmgkipmfgijiaaGreatDoor
