/-
  What is proved here: parts dPr, dSp, dBd, dCt, dFd, dCode, dTrP, dSmp, lGr, dPt, dBl.
-/
import Derived.Test.YtlmgkipmfgijiaaGreatDoorVa
import Derived.Test.YtlmgkipmfgijiaaGreatDoorVr
import Derived.Test.YtlmgkipmfgijiaaGreatDoorVe
import Derived.Test.YtlmgkipmfgijiaaGreatDoorVb
import Derived.BigRegion
import Derived.Deep.RegionHeld3
import Derived.Deep.DeepCutAuto
import Derived.Test.YtlmgkipmfgijiaaGreatDoorVd
import Derived.Test.YtlmgkipmfgijiaaGreatDoorVo
namespace Go.Proofs.YtlmgkipmfgijiaaGreatDoor
set_option linter.unusedVariables false
set_option linter.unusedSimpArgs false
set_option maxRecDepth 100000
set_option maxHeartbeats 8000000
open Go.RowKit
def apd (n:Nat) (cd:Nat→Int) (G:List AU) (P:List (List Int)) (bv pv:Value) (e:Ending) (w':World):Prop:=
 (Dm G P∧Mx n cd G∧∃sp cv' rv' dv' D,e=.returned (.tuple #[.pointer (some ⟨sp,0,none⟩),.bool true])∧Lu w' sp bv pv cv' rv' dv' G (KF cd G) (Fz cd G) D∧Ec G D)∨(¬(Dm G P∧Mx n cd G)∧e=.returned (.tuple #[.pointer none,.bool false]))
theorem qu (cv ev bv pv:Value) (sh lk:Int) (n:Nat) (cd:Nat→Int) (G:List AU) (P:List (List Int)) (w:World) (T:CO w) (HW:Words w cv n cd) (HG:E7 w bv G) (HP:Dk w pv P) (hn:G.length≤5000) (BK:∀x∈G,x.nx.length≤5000) :
  Calls Tryz.prog 44 #[.agg #[cv,ev,.int .i64 sh,.int .i64 lk],.agg #[bv,pv]] w fun e w'=>apd n cd G P bv pv e w'∧Below w.heap.size w w':=by
 obtain⟨GA,BH,EP,g2,g3,g4⟩:=id HG;obtain⟨PA,B7,hpv,p2,p3,p4⟩:=id HP;obtain⟨CA,Dv,hcv,c2,c3,c4⟩:=HW.at_;have hn6:=HW.le;obtain⟨V,hV⟩:=A8 ((w.alloc (.cells #[cv,ev,.int .i64 sh,.int .i64 lk] 25)).alloc (.cells #[bv,pv] 31));have k0:V.heap[w.heap.size]?=some (.cells #[cv,ev,.int .i64 sh,.int .i64 lk] 25 (0,0)):=by
  rw [←hV,Bv _ _ AR];exact AY _ _
 have k1:V.heap[w.heap.size+1]?=some (.cells #[bv,pv] 31 (0,0)):=by rw [←hV];exact Et _ _ AR
 have bV:Below w.heap.size w V:=hV▸((AV _ _).alloc (AH _) _).alloc AR _;have sV:V.heap.size=w.heap.size+1+1:=by rw [←hV];simp
 have b0:V.cell? ⟨w.heap.size+1,0,none⟩=some bv:=by simp [World.cell?,k1]
 have b1:V.cell? ⟨w.heap.size+1,1,none⟩=some pv:=by simp [World.cell?,k1]
 have l1:w.heap.size+1<V.heap.size:=by omega
 have Co:=A3 (bC bv pv G P V (HG.below bV) (HP.below bV) hn BK);obtain⟨gn,hgn⟩:∃m,G.length=m:=⟨_,rfl⟩;rw [hgn] at EP g2 hn;have⟨DU,Mw,NM,Tw,HT,BV,SV,K0⟩:=OI hgn HW HG HP T bV sV k0;have⟨HG4,HC4⟩:=AQ g4 c4;clear hgn HW HG HP T bV sV k0 k1 g3 g4 p4 p3 c4 c3 BK;subst EP hpv hcv;go_enter Tryz.func44,Tryz.ntmps44;by_cases Vd:Dm G P;case neg=>
  go_wp2_with (go_at_call 35;refine Co.out.mono ?_;rintro e X ⟨⟨r,rfl,hr⟩,LU⟩;obtain rfl:r=false:=(by cases r with|false=>rfl|true=>exact absurd (hr.1 rfl) Vd);have BX:=A3 LU;clear hr LU);go_ret2;exact⟨.inr ⟨fun h=>Vd h.1,rfl⟩,BV.out.trans (BX.out.mono BV.out.size)⟩
 have Tm:=A3 Vd;clear Vd;go_upto_region 3 with (go_at_call 35;refine Co.out.mono ?_;rintro e X ⟨⟨r,rfl,hr⟩,LU⟩;obtain rfl:r=true:=hr.2 Tm.out);have c0:X.cell? ⟨w.heap.size+1,0,none⟩=_:=(LU.cell (p:=⟨w.heap.size+1,0,none⟩) l1).trans b0;have c1:X.cell? ⟨w.heap.size+1,1,none⟩=_:=(LU.cell (p:=⟨w.heap.size+1,1,none⟩) l1).trans b1;have lX:w.heap.size+1<X.heap.size:=by have:=LU.size;omega
 have BX:=A3 LU;clear b0 b1 hr LU Co hV;obtain⟨cS,TS⟩:∃c,((List.range gn).map fun _=>Value.slice none 0 0).toArray=c:=⟨_,rfl⟩;obtain⟨cB,hcB⟩:∃c,((List.replicate gn false).map Value.bool).toArray=c:=⟨_,rfl⟩;obtain⟨iA,XT,Sq,hA1,NS⟩:=Dp s9;obtain⟨iB,XM,hB0,hB1,hB2⟩:=Dp qJ;have mk1:∀W,(Instr.makeSlice 157 (.int .i64 (gn:Int)) (.int .i64 (gn:Int))).run Tryz.prog W=.ok (.slice (some ⟨W.heap.size,0,none⟩) gn gn) (W.alloc (.cells cS 144)):=fun W=>by
  have hr:=Sy (P:=Tryz.prog) W 157 144 iA _ Tryz.underlying157 XT Sq .i64 .i64 (gn:Int) (gn:Int) A0 (EJ _) (by rw [NS];omega) A0;rw [hA1,Cu] at hr;rw [hr,← TS,← wD];rfl
 have mk2:∀W,(Instr.makeSlice 55 (.int .i64 (gn:Int)) (.int .i64 (gn:Int))).run Tryz.prog W=.ok (.slice (some ⟨W.heap.size,0,none⟩) gn gn) (W.alloc (.cells cB 4)):=fun W=>by
  have hr:=Sy (P:=Tryz.prog) W 55 4 iB _ YD XM hB0 .i64 .i64 (gn:Int) (gn:Int) A0 (EJ _) (by rw [hB2];omega) A0;rw [hB1,Cu] at hr;rw [hr,← hcB,← mZ];rfl
 have⟨HCS,HCB⟩:=AQ TS hcB;clear TS hcB Sq hA1 NS hB0 hB1 hB2 XT XM;go_cut [6] from 15 to 25 (fun a6 wx=>∃sp cb rb,a6=.pointer (some ⟨sp,0,none⟩)∧wx.heap[sp]?=some (.cells #[.slice GA gn BH,.slice PA P.length B7,.slice (some ⟨cb,0,none⟩) gn gn,.slice (some ⟨rb,0,none⟩) gn gn,.slice none 0 0] 159 (0,0))∧wx.heap[cb]?=some (.cells cS 144 (0,0))∧wx.heap[rb]?=some (.cells cB 4 (0,0))∧(X.heap.size≤sp∧X.heap.size≤cb∧X.heap.size≤rb)∧Below X.heap.size X wx)
 case first=>
  go_region_held3 (fun w'=>(∀b o,b<X.heap.size→w'.cell? ⟨b,o,none⟩=X.cell? ⟨b,o,none⟩)∧Below X.heap.size X w') ((exact pS (by (repeat (first|(with_reducible exact AV _ _)|(with_reducible refine Dl ?_)|(with_reducible refine MU ?_ cM _)))))) (fail)
  all_goals (go_wp2_with fail;go_meet)
  all_goals
   refine⟨_,_,_,rfl,Et _ _ AR,?_,?_,by omega,?_⟩
   ·(show (World.alloc _ _).heap[_]?=_);(repeat (first|exact AY _ _|exact Et _ _ Xb|rw [Bv _ _ YC]))
   ·(show (World.alloc _ _).heap[_]?=_);(repeat (first|exact AY _ _|exact Et _ _ Xb|rw [Bv _ _ YC]))
   ·(repeat (first|(with_reducible exact AV _ _)|(with_reducible refine Dl ?_)|(with_reducible refine MU ?_ cM _)))
 obtain⟨sp,cb,rb,rfl,hd1,hd2,hd3,⟨ha,hc,hr⟩,bW⟩:=hcut;obtain⟨W1,hW1⟩:∃W1:World,W1=wc:=⟨_,rfl⟩;subst hW1;rw [←HCS.out] at hd2;rw [←HCB.out] at hd3;have HCM:=A3 (show Ez X W1 sp cb rb gn (.slice GA gn BH) (.slice PA P.length B7) (fun _=>.slice none 0 0) (fun _=>[]) (fun _=>false) from
  ⟨bW,ha,hr,hd1,⟨⟨by simp,.inr ⟨cb,gn,_,rfl,hc,hd2,AH _,by unfold maxLen;omega,by simp,by simp [K8]⟩⟩,fun i hi=>NK _ _ _ _,fun i j hi hj _ q hq=>(by cases hq)⟩,by
   rw [hd3];congr 3
   apply KC
   ·simp
   ·intro i h1 h2;simp⟩)
 have bW1:=bW.size;have d0:W1.cell? ⟨w.heap.size+1,0,none⟩=_:=(bW.cell (p:=⟨w.heap.size+1,0,none⟩) lX).trans c0;have lW1:w.heap.size+1<W1.heap.size:=by omega
 clear hd1 hd2 hd3 ha hc hr bW HCS HCB mk1 mk2;obtain⟨iI,Ef,Es,EN,FN⟩:=Dp qG;go_upto_region 5 with fail;have⟨C0,C1⟩:=AQ c0 c1;clear d0 lW1 c0 c1;have LO:=A3 (show ∀x∈G,0≤x.lo∧x.lo<x.hi from fun x hx=>by
  obtain⟨z,hz⟩:=Tm.out.ok;obtain⟨e,he⟩:=hz.each x hx
  exact⟨hz.lo A0 x hx,he.hi⟩)
 go_loopw [29] (fun a29 wr=>∃(k:Nat) (val:Nat→Value),k≤gn∧a29=.int .i64 (k:Int)∧(∀i x,i<k→G[i]?=some x→iJ n cd x)∧Ez X wr sp cb rb gn (.slice GA gn BH) (.slice PA P.length B7) val (Di (Cf cd G) k []) (fun i=>(Di (Cf cd G) k [] i).any Hf)) (fun a29 _=>gn - (intOf a29).toNat);case atStart=>exact⟨0,_,by omega,rfl,fun i x h=>by omega,by rw [tK];exact HCM.out⟩
 case round=>
  obtain⟨k,val,hk,rfl,hok,hM⟩:=hrel;have⟨HM,Ea⟩:=AQ hM hok;have hrX:=hM.AA.size;clear hM hok HCM;by_cases hlt:k<gn
  ·have dl:decide ((k:Int)<(gn:Int))=true:=Ac A0
   have dk:(k:Int)<(gn:Int):=by omega
   obtain⟨x,hx⟩:∃x,G[k]?=some x:=⟨_,Ab (by rw [DU.out];exact hlt)⟩;have hlo:=LO.out x (Bj hx);obtain⟨gq,Hx,rfl,Lg,gc⟩:=HG4.out Tb;obtain⟨e0,e1,nv,e2,TK⟩:=gc k x hx;obtain⟨nA,CX,rfl,n1,n2⟩:=ints_at TK;have bw:Below w.heap.size w wr:=BV.out.trans ((BX.out.trans (HM.out.AA.mono BX.out.size)).mono BV.out.size);have f0:wr.cell? ⟨gq,Hx+k*3,none⟩=_:=(bw.cell (p:=⟨gq,_,none⟩) Lg).trans e0;have f1:wr.cell? ⟨gq,Hx+k*3+1,none⟩=_:=(bw.cell (p:=⟨gq,_,none⟩) Lg).trans e1;have f2:wr.cell? ⟨gq,Hx+k*3+2,none⟩=_:=(bw.cell (p:=⟨gq,_,none⟩) Lg).trans e2;have lg:gq<wr.heap.size:=by have:=bw.size;omega
   obtain⟨xlo,SU⟩:∃v,x.lo=v:=⟨_,rfl⟩;obtain⟨xhi,SB⟩:∃v,x.hi=v:=⟨_,rfl⟩;obtain⟨xu,PY⟩:∃v,x.nx.length=v:=⟨_,rfl⟩;rw [SU] at f0 hlo;rw [SB] at f1 hlo;rw [PY] at f2 n1;obtain⟨ln,rfl⟩:∃ln:Nat,xlo=(ln:Int):=⟨xlo.toNat,by omega⟩;obtain⟨hn',rfl⟩:∃hn':Nat,xhi=(hn':Int):=⟨xhi.toNat,by omega⟩;have⟨mE,qm,HX⟩:=Bh SU SB hx;have UG:=A3 (show Cf cd G k=codeFrom cd (ln:Int) (hn' - ln) by
    unfold Cf;rw [show G.getD k ⟨0,0,[]⟩=x by simp [List.getD,hx],SU,SB];congr 1
    omega)
   have hlh:ln<hn':=by omega
   have HLH:=A3 hlh;clear e0 e1 e2 TK gc bw SU SB PY hx n2 hlo hlh;go_upto_region 8 with fail;obtain⟨b9,hb9⟩:=A8 wr.heap.size;obtain⟨Y,hY⟩:=A8 (wr.alloc (.cells #[.int .i64 (ln:Int),.int .i64 (hn':Int),.slice nA xu CX] 78));rw [hY];have bY:Below wr.heap.size wr Y:=hY▸(AV _ _).alloc (AH _) _;have kY:Y.heap[b9]?=some (.cells #[.int .i64 (ln:Int),.int .i64 (hn':Int),.slice nA xu CX] 78 (0,0)):=by rw [←hb9,← hY];exact AY _ _
   rw [hb9];have⟨KY,HMY⟩:=AQ kY (HM.out.below bY);clear hb9 hY bY kY f0 f1 f2;obtain⟨wo,Nk⟩:∃wo:World,wo=wr:=⟨_,rfl⟩;subst Nk;go_loopw [9] (fun a9 wz=>∃(pc:Nat) (Kv:Nat→Value),ln≤pc∧pc≤hn'∧a9=.int .i64 (pc:Int)∧(∀a,ln≤a→a<pc→a<n∧(Ba (cd a)).2=0)∧Ez X wz sp cb rb gn (.slice (some ⟨gq,Hx,none⟩) gn BH) (.slice PA P.length B7) Kv (Di (Cf cd G) k (codeFrom cd (ln:Int) (pc - ln))) (fun i=>(Di (Cf cd G) k (codeFrom cd (ln:Int) (pc - ln)) i).any Hf)∧wz.heap[b9]?=some (.cells #[.int .i64 (ln:Int),.int .i64 (hn':Int),.slice nA xu CX] 78 (0,0))) (fun a9 _=>hn' - (intOf a9).toNat);case atStart=>exact⟨ln,val,AH _,by have:=HLH.out;omega,rfl,fun a h1 h2=>by omega,by rw [Nat.sub_self];exact HMY.out,KY.out⟩
   case round=>
    clear HMY KY;obtain⟨pc,Kv,hlp,hph,rfl,UZ,hM2,k9⟩:=hrel;have⟨Jh,HJS,K9⟩:=Bh hM2 UZ k9;have hzX:=hM2.AA.size;have z1:wr.cell? ⟨b9,1,none⟩=some (.int .i64 (hn':Int)):=by simp [World.cell?,k9]
    have lz9:b9<wr.heap.size:=Ak k9;clear hM2 k9 UZ;have WW:=A3 (((BX.out.trans (Jh.out.AA.mono BX.out.size)).block _ Y5).trans K0.out);by_cases hlt2:pc<hn'
    ·have dl2:decide (pc<hn')=true:=Ac hlt2
     have auK:decide ((pc:Int)<(hn':Int))=true:=Ac A0;have QO:Below w.heap.size w wr:=BV.out.trans ((BX.out.trans (Jh.out.AA.mono BX.out.size)).mono BV.out.size);have Th:=A3 QO;have t0:wr.cell? ⟨w.heap.size,0,none⟩=some (.slice CA n Dv):=by have:=WW.out;simp [World.cell?,this]
     have aum:decide ((pc:Int)<0)=false:=Ad A0;have bu:=A3 (show ¬(pc<n∧(Ba (cd pc)).2=0)→¬(Dm G P∧Mx n cd G) from fun h1 h2=>
      h1 (h2.2 x (Bj HX.out) pc (by rw [mE.out];omega) (by rw [qm.out];omega)))
     by_cases hnn:pc<n;case neg=>
      have dn:decide (n≤pc)=true:=Ac A0;have dn':decide ((n:Int)≤(pc:Int))=true:=Ac A0;have HF:=A3 (bu.out (fun h=>hnn h.1));clear hnn hlt2 QO;go_wp2_with fail;go_ret2;exact⟨.inr ⟨HF.out,rfl⟩,Th.out⟩
     have dn:decide (n≤pc)=false:=Ad A0;have dn':decide ((n:Int)≤(pc:Int))=false:=Ad A0;obtain⟨cq,Qa,hCA,Ro,cc⟩:=HC4.out A0;have cx:=(QO.cell (p:=⟨cq,Qa+pc,none⟩) Ro).trans (cc pc hnn);have hwd:=Mw.out.wd pc hnn;have icn:(pc:Int)<(n:Int):=by omega
     have Yt:=A3 (VS (cd pc) hwd.1 hwd.2 wr (HT.out.below QO));have hdd:(Ba (cd pc)).2=0∨Ba (cd pc)=(⟨0,0,0,0,0⟩,3):=by
      unfold Ba;split
      ·exact .inl rfl
      ·exact .inr rfl
     obtain⟨cw,hcw⟩:∃c,cd pc=c:=⟨_,rfl⟩;have HGE:=A3 (show (Ba cw).2=0→0≤(Ba cw).1.op from fun h=>by
      rw [←hcw] at h ⊢;obtain⟨k,hk,_⟩:=UU hwd.1 h;have:=hk.op
      omega)
     have aqD:=A3 (show AK cd (pc:Int)=(Ba cw).1 by rw [←hcw];rfl);have HCW:=A3 hcw;rw [hcw] at cx Yt hdd bu;subst hCA;clear cc QO hcw hwd;by_cases hd0:(Ba cw).2=0;case neg=>
      have hd3:=hdd.resolve_left hd0;have HF:=A3 (bu.out (fun h=>hd0 h.2));have HD:=A3 (show Calls Tryz.prog 22 #[.int .u32 cw] wr fun e w'=>e=.returned (.tuple #[.agg #[.int .u8 0,.int .i64 0,.int .i64 0,.int .i64 0,.int .i64 0],.int .i64 3])∧Below wr.heap.size wr w' from by
       have:=Yt.out;rw [hd3] at this
       exact this)
      clear hd0 hd3 hdd Yt;go_wp2_with (go_at_call 22;refine HD.out.mono ?_;rintro e w2 ⟨rfl,hb2⟩;have B2:=A3 hb2;have l2:=hb2.size;clear hb2);go_ret2;refine⟨.inr ⟨HF.out,rfl⟩,?_⟩;have h:=Th.out.trans (B2.out.mono Th.out.size);first
       | exact h
       | exact h.alloc h.size _
     obtain⟨op,ia,ic,id,im,hi⟩:∃op ia ic id im,(Ba cw).1=⟨op,ia,ic,id,im⟩:=⟨_,_,_,_,_,rfl⟩;have HD:=A3 (show Calls Tryz.prog 22 #[.int .u32 cw] wr fun e w'=>e=.returned (.tuple #[.agg #[.int .u8 op,.int .i64 ia,.int .i64 ic,.int .i64 id,.int .i64 im],.int .i64 0])∧Below wr.heap.size wr w' from by
      have:=Yt.out;rw [hd0,hi] at this
      exact this)
     have HI:=A3 (show AK cd (pc:Int)=⟨op,ia,ic,id,im⟩ by rw [aqD.out];exact hi);have ar0:=A3 (show (Ba (cd pc)).2=0 by rw [HCW.out];exact hd0);clear Yt hdd hd0 hi bu HGE;go_upto_region 15 with (go_at_call 22;refine HD.out.mono ?_;rintro e w2 ⟨rfl,hb2⟩;have B2:=A3 hb2;have l2:=hb2.size;clear hb2);obtain⟨U,hU⟩:=A8 (w2.alloc (.cells #[.int .u8 op,.int .i64 ia,.int .i64 ic,.int .i64 id,.int .i64 im] 67));rw [hU];have bU:Below w2.heap.size w2 U:=hU▸(AV _ _).alloc (AH _) _;have kU:U.heap[w2.heap.size]?=some (.cells #[.int .u8 op,.int .i64 ia,.int .i64 ic,.int .i64 id,.int .i64 im] 67 (0,0)):=hU▸AY _ _;obtain⟨y0,y1,y2,y3,y4,lU⟩:=Iw kU;obtain⟨b10,Rx⟩:∃b,w2.heap.size=b:=⟨_,rfl⟩;have T9:Below wr.heap.size wr U:=B2.out.trans (bU.mono B2.out.size);rw [Rx] at y0 y1 y2 y3 y4 lU kU;rw [Rx];have⟨KU,GZ,PU⟩:=Bh kU (Jh.out.below T9) ((T9.block b9 lz9).trans K9.out);have v0:=GZ.out.cells.2.2.1;obtain⟨lsp,J0,lrb⟩:=GZ.out.lt;obtain⟨v1,v1f⟩:=GZ.out.pm.cells hlt;have hop:=GZ.out.pm.own k hlt;have mV:=Jh.out.pm.own k hlt;rw [S2,SZ] at hop;obtain⟨vk,LJ⟩:∃v,Kv k=v:=⟨_,rfl⟩;have Wp:=A3 LJ;have Vf:=A3 (show some cb≠vk.ownBlock from fun e'=>by
      rw [←LJ] at e'
      exact (GZ.out.Jj hlt cb e'.symm).2.2.1 rfl)
     have HNs:=A3 (show some sp≠vk.ownBlock from fun e'=>by
      rw [←LJ] at e'
      exact (GZ.out.Jj hlt sp e'.symm).2.1 rfl)
     have HN9:=A3 (show some b9≠vk.ownBlock from fun e'=>by
      rw [←LJ] at e';obtain⟨cs,hcs⟩:=LS hop e'.symm
      exact Dh hcs PU.out AP rfl)
     have uk:=A3 (show some b10≠vk.ownBlock from fun e'=>by
      rw [←LJ] at e';have:=(mV.lt b10 e'.symm).2
      omega)
     rw [LJ] at hop v1;have IL:=A3 hop;obtain⟨vA,vn,Cv,hvs⟩:∃vA vn Cv,vk=.slice vA vn Cv:=by
      rcases hop.2 with⟨e,_⟩|⟨g',cap',cur',e,_⟩
      ·exact⟨_,_,_,e⟩
      ·exact⟨_,_,_,e⟩
     subst hvs;have lU9:b9<U.heap.size:=Ak PU.out;have UB:=A3 (show X.heap.size≤U.heap.size from GZ.out.AA.size);obtain⟨m,hm⟩:=A8 (pc - ln);have hm6:m≤1000000:=by omega
     have as1:=A3 (show pc+1 - ln=m+1 by omega);have rE:=A3 (show (ln:Int)+(m:Int)=(pc:Int) by omega);rw [hm] at IL GZ;have Jn:=A3 (show ∀(W2:World) (v2:Value),((U.alloc (.cells #[.int .u8 op,.int .i64 ia,.int .i64 ic,.int .i64 id,.int .i64 im] 67)).drew).grownBy W2 (Value.slice vA vn Cv).ownBlock→W2.ownsRow X.heap.size 67 5 v2 (m+1) (IX (codeFrom cd (ln:Int) m)++[.int .u8 op,.int .i64 ia,.int .i64 ic,.int .i64 id,.int .i64 im])→(v2.ownBlock=(Value.slice vA vn Cv).ownBlock∨v2.ownBlock=some ((U.alloc (.cells #[.int .u8 op,.int .i64 ia,.int .i64 ic,.int .i64 id,.int .i64 im] 67)).drew).heap.size)→
       Ez X (W2.setCell ⟨cb,k,none⟩ v2) sp cb rb gn (.slice (some ⟨gq,Hx,none⟩) gn BH) (.slice PA P.length B7) (upd Kv k v2) (Di (Cf cd G) k (codeFrom cd (ln:Int) (m+1))) (fun i=>(Di (Cf cd G) k (codeFrom cd (ln:Int) m) i).any Hf)∧(W2.setCell ⟨cb,k,none⟩ v2).heap[b9]?=some (.cells #[.int .i64 (ln:Int),.int .i64 (hn':Int),.slice nA xu CX] 78 (0,0))∧(W2.setCell ⟨cb,k,none⟩ v2).heap[b10]?=some (.cells #[.int .u8 op,.int .i64 ia,.int .i64 ic,.int .i64 id,.int .i64 im] 67 (0,0)) from fun W2 v2 hg2 ho2 Qg=>by
      have bD:Below U.heap.size U ((U.alloc (.cells #[.int .u8 op,.int .i64 ia,.int .i64 ic,.int .i64 id,.int .i64 im] 67)).drew):=Dl ((AV _ _).alloc (AH _) _);have h3:=GZ.out.app (y:=AK cd (pc:Int)) hlt bD (by rw [Wp.out];exact hg2) (by rw [S2,SZ,atu,HI.out];exact ho2) (by rw [Wp.out];exact Qg);rw [S2,mD,← rE.out,← Zr] at h3;have hc9:b9≠cb:=fun e=>by
       obtain⟨cs,hcs⟩:=LS GZ.out.pm.C8 (q:=cb) rfl;exact Dh PU.out hcs AP e
      have ar3:b10≠cb:=fun e=>by
       obtain⟨cs,hcs⟩:=LS GZ.out.pm.C8 (q:=cb) rfl;exact Dh KU.out hcs AP e
      refine⟨h3,?_,?_⟩
      ·rw [Bb _ _ _ _ (by show b9≠cb;exact hc9)]
       rw [(grown_of bD hg2).block b9 lU9 (fun e=>HN9.out e)];exact PU.out
      ·rw [Bb _ _ _ _ (by show b10≠cb;exact ar3)]
       rw [(grown_of bD hg2).block b10 lU (fun e=>uk.out e)]
       exact KU.out)
     have icb:(k:Int)<(gn:Int):=dk;obtain⟨rk,hrk⟩:∃r,((Di (Cf cd G) k (codeFrom cd (ln:Int) m)) k).any Hf=r:=⟨_,rfl⟩;have HRK:=A3 hrk;clear hU bU T9 Rx hop mV LJ t0 kU hm cx hrk Jh;go_cut [9] from 62 to 77 (fun a9 wx=>∃v3,a9=.int .i64 (pc:Int)∧Ez X wx sp cb rb gn (.slice (some ⟨gq,Hx,none⟩) gn BH) (.slice PA P.length B7) v3 (Di (Cf cd G) k (codeFrom cd (ln:Int) (m+1))) (fun i=>(Di (Cf cd G) k (codeFrom cd (ln:Int) m) i).any Hf)∧wx.heap[b9]?=some (.cells #[.int .i64 (ln:Int),.int .i64 (hn':Int),.slice nA xu CX] 78 (0,0))∧wx.heap[b10]?=some (.cells #[.int .u8 op,.int .i64 ia,.int .i64 ic,.int .i64 id,.int .i64 im] 67 (0,0)))
     case first=>
      refine Yl ?_;go_region_law (refine eN rfl (.tmp 73) (.tmp 75) 144 rfl X.heap.size 67 iI _ 5 40 Tryz.underlying144 Ef Es EN FN rfl AP (.slice vA vn Cv) m (IX (codeFrom cd (ln:Int) m)) XZ (oW (om IL.out) _) ⟨U.heap.size,0,none⟩ 1 1 [.int .u8 op,.int .i64 ia,.int .i64 ic,.int .i64 id,.int .i64 im] XZ rfl (rJ _ _ _ _ _ _ _) Bd CJ A0 aec ?_;intro v' W2 hown2 hgrow2 RB;obtain⟨g2,EY,rfl⟩:=Mp hown2;have hc1:=hgrow2.cell (a:=⟨cb,k,none⟩) (v:=.slice vA vn Cv) Ga Vf.out;have hc2:=hgrow2.cell (a:=⟨sp,2,none⟩) (v:=.slice (some ⟨cb,0,none⟩) gn gn) Ga HNs.out;have hf1:W2.frozen? ⟨cb,k,none⟩=false:=(Oe (hgrow2.block cb CD Vf.out)).trans Ga)
      all_goals
       have F1:=A3 (Jn.out W2 _ hgrow2 hown2 RB);clear hgrow2 hown2 RB hc1 hc2 hf1;refine ZM ?_;go_wp2_with fail;go_meet;exact⟨_,rfl,F1.out.1,F1.out.2.1,F1.out.2.2⟩
     obtain⟨v3,rfl,XC,h9Z,tN⟩:=hcut;obtain⟨Z,hZ⟩:∃Z:World,Z=wc:=⟨_,rfl⟩;subst hZ;have⟨HPZ,H9Z⟩:=AQ XC h9Z;have hsr:=XC.cells.2.2.2;obtain⟨xr,xrf⟩:=XC.rat hlt;obtain⟨z0,z1,z2,z3,z4,lZ⟩:=Iw tN;obtain⟨lsp,-,lrb⟩:=XC.lt;rw [HRK.out] at xr;obtain⟨ci,hci⟩:∃c,Hf ⟨op,ia,ic,id,im⟩=c:=⟨_,rfl⟩;have Wq:=A3 (show ∀W,Calls Tryz.prog 75 #[.agg #[.int .u8 op,.int .i64 ia,.int .i64 ic,.int .i64 id,.int .i64 im]] W fun e w'=>e=.returned (.bool ci)∧Below W.heap.size W w' from fun W=>by
      have:=alz ⟨op,ia,ic,id,im⟩ W;rw [hci] at this
      exact this)
     have RQ:=A3 (show ∀x:Ext Z,Ez X (x.w.setCell ⟨rb,k,none⟩ (.bool (rk || ci))) sp cb rb gn (.slice (some ⟨gq,Hx,none⟩) gn BH) (.slice PA P.length B7) v3 (Di (Cf cd G) k (codeFrom cd (ln:Int) (pc+1 - ln))) (fun i=>(Di (Cf cd G) k (codeFrom cd (ln:Int) (pc+1 - ln)) i).any Hf)∧(x.w.setCell ⟨rb,k,none⟩ (.bool (rk || ci))).heap[b9]?=some (.cells #[.int .i64 (ln:Int),.int .i64 (hn':Int),.slice nA xu CX] 78 (0,0)) from fun x=>by
      have h1:=(HPZ.out.below x.h).mark k (rk || ci);rw [as1.out];have e1:upd (fun i=>(Di (Cf cd G) k (codeFrom cd (ln:Int) m) i).any Hf) k (rk || ci)=fun i=>(Di (Cf cd G) k (codeFrom cd (ln:Int) (m+1)) i).any Hf:=by
       funext i;unfold upd;by_cases e:i=k
       ·subst e
        rw [A9 rfl,← HRK.out,S2,S2,Zr,List.any_append,rE.out,HI.out,← hci];simp
       ·rw [A6 e]
        have e2:Di (Cf cd G) k (codeFrom cd (ln:Int) m) i=Di (Cf cd G) k (codeFrom cd (ln:Int) (m+1)) i:=by
         unfold Di;rw [A6 e,A6 e]
        show (Di (Cf cd G) k (codeFrom cd (ln:Int) m) i).any Hf=_;rw [e2]
      rw [e1] at h1;refine⟨h1,?_⟩;rw [Bb _ _ _ _ (by show b9≠rb;exact Dh H9Z.out HPZ.out.E6 AP)]
      exact (x.h.block b9 (Ak H9Z.out)).trans H9Z.out)
     have wK:=A3 (show ∀a,ln≤a→a<pc+1→a<n∧(Ba (cd a)).2=0 from fun a h1 h2=>by
      by_cases e:a=pc
      ·subst e;exact⟨hnn,ar0.out⟩
      ·exact HJS.out a h1 A0)
     clear XC h9Z tN hci GZ IL KU PU Wp Vf HNs HN9 uk Jn;go_upto_region 16 with fail;cases rk with
     | true=>
      refine KA 17 A4 A4 ?_;simp only [Fp,List.take_zero,G0,List.drop_zero];repeat (go_big_quiet_step (fail))
      refine BD ?_;rintro _ ⟨x1,rfl⟩;have F2:=A3 (RQ.out x1);go_wp2_with fail;go_roundw;case rel=>exact⟨pc+1,_,by omega,by omega,by go_num,wK.out,F2.out.1,F2.out.2⟩
      case measure=>exact Ai
     | false=>
      refine KA 17 A4 A4 ?_;simp only [Fp,List.take_zero,G0,List.drop_zero];repeat (go_big_quiet_step ((go_at_call 75;exact Calls.AW (Wq.out _))))
      refine BD ?_;rintro _ ⟨x1,rfl⟩;have F2:=A3 (RQ.out x1);go_wp2_with fail;go_roundw;case rel=>exact⟨pc+1,_,by omega,by omega,by go_num,wK.out,F2.out.1,F2.out.2⟩
      case measure=>exact Ai
    ·obtain rfl:hn'=pc:=by omega
     have dl2:decide ((hn':Int)<(hn':Int))=false:=by simp
     have Nz:=A3 (show Ez X wr sp cb rb gn (.slice (some ⟨gq,Hx,none⟩) gn BH) (.slice PA P.length B7) Kv (Di (Cf cd G) (k+1) []) (fun i=>(Di (Cf cd G) (k+1) [] i).any Hf) by rw [←tY,UG.out];exact Jh.out);have Xz:=A3 (show ∀i y,i<k+1→G[i]?=some y→iJ n cd y from fun i y hi hy=>by
      by_cases e:i=k
      ·subst e
       rw [HX.out] at hy;cases hy;intro a h1 h2;rw [mE.out] at h1;rw [qm.out] at h2;exact HJS.out a A0 A0
      ·exact Ea.out i y A0 hy)
     go_wp2_with fail;go_roundw;case rel=>exact⟨k+1,Kv,by omega,by go_num,Xz.out,Nz.out⟩
     case measure=>exact Ai
  ·obtain rfl:gn=k:=by omega
   have dl:decide ((gn:Int)<(gn:Int))=false:=by simp
   have Sd:=A3 (show Mx n cd G from fun y hy=>by
    obtain⟨i,hi⟩:=LH.1 hy
    exact Ea.out i y (by rw [←DU.out];exact (Bc.1 hi).1) hi)
   have bw:Below w.heap.size w wr:=BV.out.trans ((BX.out.trans (HM.out.AA.mono BX.out.size)).mono BV.out.size);have BW:=A3 bw;have t0:wr.cell? ⟨w.heap.size+1,0,none⟩=_:=(HM.out.AA.cell (p:=⟨w.heap.size+1,0,none⟩) lX).trans C0.out;have t1:wr.cell? ⟨w.heap.size+1,1,none⟩=_:=(HM.out.AA.cell (p:=⟨w.heap.size+1,1,none⟩) lX).trans C1.out;obtain⟨h1,h2,h3⟩:=HM.out.lt;have Gs:=A3 (oJ _ _ G P wr (NM.out.below bw) (Tw.out.below bw) Tm.out Si);clear bw;go_wp2_with (go_at_call 37;refine Gs.out.mono ?_;rintro e W2 ⟨⟨dv,D,rfl,hI,hD⟩,hb2⟩;obtain⟨DA,Ik,rfl,-,-⟩:=ints_at hI;have HIW:=A3 hI;have HDW:=A3 hD;have B2:=A3 hb2;have hd2:=(HM.out.below hb2).head;have l2:sp<W2.heap.size:=Ak hd2;have q4:W2.cell? ⟨sp,4,none⟩=some (.slice none 0 0):=(by simp [World.cell?,hd2]);have qf:W2.frozen? ⟨sp,4,none⟩=false:=(by simp [World.frozen?,hd2]);clear hI hD hb2 hd2);go_ret2;have hl:D.length=gn:=by have:=HDW.out.ti.len;rw [DU.out] at this;exact this
   have hF:=HM.out.done (G:=G) B2.out ((NM.out.below BV.out).below BX.out) DU.out HIW.out hl ⟨_,_,_,rfl⟩ ⟨_,_,_,rfl⟩;have e1:(List.range gn).map (Di (Cf cd G) gn [])=KF cd G:=by
    unfold KF;rw [DU.out];apply SI;intro i hi;unfold Di;rw [A9 (Gp.1 hi)]
   have e2:((List.range gn).map fun i=>(Di (Cf cd G) gn [] i).any Hf)=Fz cd G:=by
    rw [Fz,← e1,List.map_map];rfl
   rw [e1,e2] at hF;refine⟨.inl ⟨Tm.out,Sd.out,⟨sp,_,_,_,D,rfl,hF,HDW.out⟩⟩,?_⟩
   ·refine CY (BW.out.trans (B2.out.mono BW.out.size)) ?_ _
    have h9:=HM.out.sV;have:=BX.out.size;have:=BV.out.size;show w.heap.size≤sp;omega
section
open Classical in
noncomputable def O9 (G:List AU):List Int:=if h:∃D,Ec G D then Classical.choose h else []
theorem Ec.eq {G:List AU} {P:List (List Int)} {D:List Int} (hV:Dm G P) (hn:G.length≤5000) (h:Ec G D):O9 G=D:=by
 have he:∃D,Ec G D:=⟨D,h⟩;have h1:O9 G=Classical.choose he:=by unfold O9;rw [dif_pos he]
 have h2:Ec G (Classical.choose he):=Classical.choose_spec he;rw [←h1] at h2;obtain⟨gr,-⟩:=Nb (Gk.2 hV.ne) (GB.of hV hn).lt;exact Exact.unique gr h2.ti h.ti h2.ex h.ex h2.all h.all
def Ty (G:List AU):Prop:=∀b,b<G.length→b∈C6 G.length (Aa G)
noncomputable def Vg (cd:Nat→Int) (G:List AU) (x:Lp):List Bool:=GN G (Fz cd G) (O9 G) x.h.toNat x.bl (x.la.map Int.toNat) G.length
noncomputable def Eb (cd:Nat→Int) (G:List AU) (x:Lp) (A7:Int):Int×Bool:=Mg A7 (Df A7 (Eu G.length x.bl) (Vg cd G x) (KF cd G) G.length)
open Classical in
noncomputable def H6 (n:Nat) (cd:Nat→Int) (G:List AU) (P:List (List Int)) (x:Lp) (A7:Int):Int×Bool:=
 if Dm G P∧Mx n cd G∧Kq G.length x=true then Eb cd G x A7 else (0,false)
noncomputable def Oq (f:Int→Int×Bool):List Int→Int×Int×Bool
 | []=>(0,0,false)
 | r :: l=>if (f r).2=true then (r,(f r).1,true) else Oq f l
def Kc:List Int:=[10,11,12,13]
def FA (s:Int×Bool) (x:Int×Bool):Int×Bool:=if x.2=true∧(s.2=false∨x.1<s.1) then (x.1,true) else s
noncomputable def Ii (cd:Nat→Int) (G:List AU) (rl:List Bool) (x:Lp):Int×Bool:=
 if rl.getD x.h.toNat false=true then (Kc.map (Eb cd G x)).foldl FA (0,false) else (0,true)
noncomputable def Fk (cd:Nat→Int) (G:List AU) (rl:List Bool):List Lp→List Int→List Int ⊕ Int
 | [],acc=>.inl acc
 | x :: L,acc=>if (Ii cd G rl x).2=true then Fk cd G rl L (acc++[(Ii cd G rl x).1]) else .inr x.h
theorem mG {cd:Nat→Int} {G:List AU} {rl:List Bool}:∀ {L:List Lp} {acc out:List Int},Fk cd G rl L acc=.inl out→∀(x:Lp),Fk cd G rl (L++[x]) acc=if (Ii cd G rl x).2=true then .inl (out++[(Ii cd G rl x).1]) else .inr x.h
 | [],acc,out,h,x=>by
  cases h;simp [Fk]
 | y :: L,acc,out,h,x=>by
  simp only [Fk,dU] at h ⊢;split at h
  ·rename_i h1
   rw [A9 h1];exact mG h x
  ·cases h
theorem tO {cd:Nat→Int} {G:List AU} {rl:List Bool} {b:Int}:∀ {L:List Lp} {acc:List Int},Fk cd G rl L acc=.inr b→∀(M:List Lp),Fk cd G rl (L++M) acc=.inr b
 | [],acc,h,M=>by cases h
 | y :: L,acc,h,M=>by
  simp only [Fk,dU] at h ⊢;split at h
  ·rename_i h1
   rw [A9 h1];exact tO h M
  ·rename_i h1
   rw [A6 h1];exact h
theorem uX {n:Nat} {cd:Nat→Int} {G:List AU} (hw:∀i,i<n→0≤cd i∧cd i<4294967296) (hl:∀x∈G,0≤x.lo) (h:Mx n cd G):∀l∈KF cd G,∀i∈l,0≤i.op:=by
 intro l hl' i hi;obtain⟨k,hk,rfl⟩:=C5.1 hl';have hk:=Gp.1 hk;unfold Cf codeFrom at hi;obtain⟨j,hj,rfl⟩:=C5.1 hi;have hj:=Gp.1 hj;have e:G.getD k ⟨0,0,[]⟩=G[k]:=by simp [List.getD,Ab hk]
 rw [e] at hj ⊢;have h0:=hl _ (CQ hk);obtain⟨a,ha⟩:∃a:Nat,(G[k]).lo+(j:Int)=(a:Int):=⟨((G[k]).lo+(j:Int)).toNat,by omega⟩;rw [ha];have h1:=h _ (CQ hk) a A0 A0;obtain⟨q,hq,_⟩:=UU (hw a h1.1).1 h1.2;have h2:=hq.op;unfold AK;rw [Cu];omega
theorem afS {n:Nat} {cd:Nat→Int} {G:List AU} (hl:∀x∈G,0≤x.lo) (h:Mx n cd G) (k:Nat):(Cf cd G k).length≤n:=by
 unfold Cf;rw [SZ];by_cases hk:k<G.length
 ·rw [show G.getD k ⟨0,0,[]⟩=G[k] by simp [List.getD,Ab hk]]
  have h0:=hl _ (CQ hk);by_cases hlt:(G[k]).lo<(G[k]).hi
  ·have:=h _ (CQ hk) ((G[k]).hi - 1).toNat A0 A0
   omega
  ·omega
 ·rw [show G.getD k ⟨0,0,[]⟩=⟨0,0,[]⟩ by simp [List.getD,Dy (by omega:G.length≤k)]]
  simp
theorem akC {C:List (List Ins)} {m:Nat} (h:∀l∈C,l.length≤m):C.flatten.length≤C.length*m:=by
 induction C with
 | nil=>simp
 | cons l C ih=>
  have h1:=h l AR;have h2:=ih (fun x hx=>h x (by simp [hx]));rw [jx,G5,IQ,Nat.succ_mul];omega
theorem uD {n:Nat} {cd:Nat→Int} {G:List AU} (hn:n≤1000000) (hg:G.length≤5000) (hl:∀x∈G,0≤x.lo) (h:Mx n cd G):(KF cd G).flatten.length≤1000000000000000:=by
 have h1:=akC (C:=KF cd G) (m:=1000000) (fun l hl'=>by
  obtain⟨k,hk,rfl⟩:=C5.1 hl';have:=afS hl h k
  omega)
 rw [zI] at h1;omega
end
theorem yI {W w':World} (h:Below W.heap.size W w'):(∀b o,b<W.heap.size→w'.cell? ⟨b,o,none⟩=W.cell? ⟨b,o,none⟩)∧Below W.heap.size W w':=⟨fun b o hb=>h.cell (p:=⟨b,o,none⟩) hb,h⟩
theorem sr {n:Nat} {l:List Int} (h:I9 n l=true):Bg (l.map Int.toNat)=l∧∀x∈l.map Int.toNat,x<n:=by
 have h1:=Mm.1 (show (l.all fun x=>decide (0≤x) && decide (x<(n:Int)))=true from h);constructor
 ·unfold Bg
  rw [List.map_map];conv=>rhs;rw [←List.map_id l]
  apply SI;intro x hx;have:=h1 x hx;simp only [Eh,E4] at this;show ((x.toNat:Nat):Int)=x;omega
 ·intro x hx
  obtain⟨y,hy,rfl⟩:=C5.1 hx;have:=h1 y hy;simp only [Eh,E4] at this;omega
theorem arH (cv ev bv pv:Value) (sh lk:Int) (n:Nat) (cd:Nat→Int) (G:List AU) (P:List (List Int)) (w:World) (T:CO w) (HW:Words w cv n cd) (HG:E7 w bv G) (HP:Dk w pv P) (hn:G.length≤5000) (BK:∀x∈G,x.nx.length≤5000) (x:Lp) (p:Int) (v1 v2:Value) (H1:Ints w v1 x.bl) (H2:Ints w v2 x.la) (hla:x.la.length≤5000000) (HR:Dm G P→Ty G) (A7:Int) :
  Calls Tryz.prog 15 #[.agg #[cv,ev,.int .i64 sh,.int .i64 lk],.agg #[bv,pv],.agg #[.int .i64 x.h,v1,v2,.int .i64 p],.int .i64 A7] w fun e w'=>e=.returned (.tuple #[.int .i64 (H6 n cd G P x A7).1,.bool (H6 n cd G P x A7).2])∧Below w.heap.size w w':=by
 obtain⟨R,hR⟩:=A8 (H6 n cd G P x A7);rw [hR];obtain⟨r1,r2⟩:=R;have U9:=A3 hR;obtain⟨V,hV⟩:=A8 (((w.alloc (.cells #[cv,ev,.int .i64 sh,.int .i64 lk] 25)).alloc (.cells #[bv,pv] 31)).alloc (.cells #[.int .i64 x.h,v1,v2,.int .i64 p] 46));have bV:Below w.heap.size w V:=hV▸(((AV _ _).alloc (AH _) _).alloc AR _).alloc CD _;have sV:V.heap.size=w.heap.size+1+1+1:=by rw [←hV];simp
 have k0:V.heap[w.heap.size]?=some (.cells #[cv,ev,.int .i64 sh,.int .i64 lk] 25 (0,0)):=by
  rw [←hV,Bv _ _ CD,Bv _ _ AR];exact AY _ _
 have k1:V.heap[w.heap.size+1]?=some (.cells #[bv,pv] 31 (0,0)):=by
  rw [←hV,Bv _ _ AR];exact Et _ _ AR
 have k2:V.heap[w.heap.size+1+1]?=some (.cells #[.int .i64 x.h,v1,v2,.int .i64 p] 46 (0,0)):=by rw [←hV];exact Et _ _ AR
 obtain⟨a0,a1,a2,a3,a4⟩:=FY k0;have b0:V.cell? ⟨w.heap.size+1,0,none⟩=some bv:=by simp [World.cell?,k1]
 have b1:V.cell? ⟨w.heap.size+1,1,none⟩=some pv:=by simp [World.cell?,k1]
 have b2:w.heap.size+1<V.heap.size:=by omega
 obtain⟨c0,c1,c2,c3,c4⟩:=FY k2;have⟨EU,BV,P9,HAR,H1V,H2V,TV,VE⟩:=OI (qu cv ev bv pv sh lk n cd G P V (T.below bV) (HW.below bV) (HG.below bV) (HP.below bV) hn BK) bV hla HR (H1.below bV) (H2.below bV) (T.below bV) HW.wd;have HN6:=A3 HW.le;clear k0 k1 k2 bV T HW HG HP BK H1 H2 hla HR hR sV;go_enter Tryz.func15,Tryz.ntmps15;go_wp2_with fail;refine EU.out.mono ?_;rintro e W ⟨hpr,IU⟩;have BW:=A3 (BV.out.trans (IU.mono BV.out.size));rcases hpr with⟨hval,MD,sp,cv',rv',dv',D,rfl,hS,hT⟩|⟨hno,rfl⟩;case inr=>
  have HF:=A3 (show (r1,r2)=(0,false) by rw [←U9.out];unfold H6;rw [A6 (fun h=>hno ⟨h.1,h.2.1⟩)]);clear hno IU;go_wp2_with fail;go_ret2;have h:=HF.out;injection h with h2 h3;exact⟨by rw [h2,h3];rfl,BW.out⟩
 have⟨GQ,QM,HS,HT⟩:=CU hval MD hS hT;have XQ:=A3 (show ∀y∈G,0≤y.lo from fun y hy=>by obtain⟨z,hz⟩:=hval.ok;exact hz.lo A0 y hy);have d0:=(IU.cell (p:=⟨w.heap.size+1+1,0,none⟩) c4).trans c0;have d1:=(IU.cell (p:=⟨w.heap.size+1+1,1,none⟩) c4).trans c1;have d2:=(IU.cell (p:=⟨w.heap.size+1+1,2,none⟩) c4).trans c2;have d3:=(IU.cell (p:=⟨w.heap.size+1+1,3,none⟩) c4).trans c3;have sW:=IU.size;have d4:w.heap.size+1+1<W.heap.size:=by omega
 have⟨H1W,H2W,TW⟩:=Bh (H1V.out.below IU) (H2V.out.below IU) (TV.out.below IU);clear hval MD hS hT IU a0 a1 a2 a3 a4 b0 b1 b2 c0 c1 c2 c3 c4 H1V H2V TV;have EC:=A3 (ja HS.out hn x p v1 v2 H1W.out H2W.out);obtain⟨rf,hrf⟩:∃r,Kq G.length x=r:=⟨_,rfl⟩;rw [hrf] at EC;go_wp2_with fail;refine EC.out.mono ?_;rintro e W2 ⟨rfl,hb2⟩;have B2:=A3 (BW.out.trans (hb2.mono BW.out.size));cases rf with
 | false=>
  have HF:=A3 (show (r1,r2)=(0,false) by rw [←U9.out];unfold H6;rw [A6 (fun h=>by rw [hrf] at h;exact absurd h.2.2 AP)]);clear hrf hb2;go_wp2_with fail;go_ret2;have h:=HF.out;injection h with h2 h3;exact⟨by rw [h2,h3];rfl,B2.out⟩
 | true=>
  have gC:=hrf;unfold Kq at gC;simp only [Eh] at gC;obtain⟨⟨hk1,hk2⟩,hk3⟩:=gC;have hx0:0≤x.h∧x.h<(G.length:Int):=by
   have h1:=Mm.1 (show (([x.h]:List Int).all fun x=>decide (0≤x) && decide (x<(G.length:Int)))=true from hk1) x.h AR;simpa only [Eh,E4] using h1
  have HF:=A3 (show (r1,r2)=Eb cd G x A7 by rw [←U9.out];unfold H6;rw [A9 ⟨GQ.out,QM.out,hrf⟩]);have Pc:=A3 (HS.out.below hb2);have QV:=A3 (uB Pc.out hn x p v1 v2 (H1W.out.below hb2) (H2W.out.below hb2) hk2);obtain⟨Xf,hlt⟩:=sr hk3;have⟨fk,HLT⟩:=AQ Xf hlt;obtain⟨hx,hhx⟩:∃h:Nat,x.h=(h:Int):=⟨x.h.toNat,by omega⟩;have HHX:=A3 hhx;clear hhx;have f0:=(hb2.cell (p:=⟨w.heap.size+1+1,0,none⟩) d4).trans d0;have f1:=(hb2.cell (p:=⟨w.heap.size+1+1,1,none⟩) d4).trans d1;have f2:=(hb2.cell (p:=⟨w.heap.size+1+1,2,none⟩) d4).trans d2;have f3:=(hb2.cell (p:=⟨w.heap.size+1+1,3,none⟩) d4).trans d3;have s2:=hb2.size;have f4:w.heap.size+1+1<W2.heap.size:=by omega
  have⟨H1X,H2X,TX⟩:=Bh (H1W.out.below hb2) (H2W.out.below hb2) (TW.out.below hb2);clear hrf hk1 hk2 hk3 hx0 Xf hlt hb2 d0 d1 d2 d3 d4 H1W H2W TW HS EC;go_wp2_with fail;refine QV.out.mono ?_;rintro e W3 ⟨ig,rfl,hin,hb3⟩;have⟨B3,HS3⟩:=AQ (B2.out.trans (hb3.mono B2.out.size)) (Pc.out.below hb3);have h0:=(hb3.cell (p:=⟨w.heap.size+1+1,0,none⟩) f4).trans f0;have h1:=(hb3.cell (p:=⟨w.heap.size+1+1,1,none⟩) f4).trans f1;have h2:=(hb3.cell (p:=⟨w.heap.size+1+1,2,none⟩) f4).trans f2;have h3:=(hb3.cell (p:=⟨w.heap.size+1+1,3,none⟩) f4).trans f3;have s3:=hb3.size;have h4:w.heap.size+1+1<W3.heap.size:=by omega
  have G4:=A3 (Zd (l:=Eu G.length x.bl) (by rw [Sm];exact hin));obtain⟨gr,-⟩:=Nb (Gk.2 GQ.out.ne) (GB.of GQ.out hn).lt;have H2Y:Ints W3 v2 (Bg (x.la.map Int.toNat)):=by rw [fk.out];exact H2X.out.below hb3
  have HPS:=A3 (fun W (hW:Below W3.heap.size W3 W)=>(uI (HS3.out.below hW) (GB.of GQ.out hn) gr HT.out hx x.bl (x.la.map Int.toNat) ig G.length v1 v2 p (G4.out.below hW) ((H1X.out.below hb3).below hW) (H2Y.below hW) (fun l hl=>HAR.out GQ.out l (HLT.out l hl)) (by rw [FQ];exact P9.out)).mono fun e w' h=>(show ∃(g:Nat) (y:Ext W3),e=.returned (.slice (some ⟨g,0,none⟩) G.length G.length)∧Hq y.w (.slice (some ⟨g,0,none⟩) G.length G.length) (GN G (Fz cd G) D hx x.bl (x.la.map Int.toNat) G.length)∧y.w=w' from by
   obtain⟨g,h1,h2,h3⟩:=h
   exact⟨g,⟨w',hW.trans (h3.mono hW.size)⟩,h1,Zd (l:=GN G (Fz cd G) D hx x.bl (x.la.map Int.toNat) G.length) (by rw [Yb];exact h2),rfl⟩))
  rw [HHX.out] at h0;have NI:=A3 (show ∀(g:Nat) (y:Ext W3),Hq y.w (.slice (some ⟨g,0,none⟩) G.length G.length) (GN G (Fz cd G) D hx x.bl (x.la.map Int.toNat) G.length)→Calls Tryz.prog 47 #[.pointer (some ⟨sp,0,none⟩),.agg #[.int .i64 (hx:Int),v1,v2,.int .i64 p],.slice (some ⟨ig,0,none⟩) G.length G.length,.slice (some ⟨g,0,none⟩) G.length G.length,.int .i64 A7] y.w fun e w'=>e=.returned (.tuple #[.int .i64 r1,.bool r2])∧∃z:Ext W3,z.w=w' from fun g y hp=>
   (mQ (HS3.out.below y.h) hn ((TX.out.below hb3).below y.h) (uX VE.out XQ.out QM.out) (uD HN6.out hn XQ.out QM.out) hx p v1 v2 _ _ _ _ (G4.out.below y.h) (Sm _ _) hp (Yb _ _ _ _ _ _ _) A7).mono fun e w' h=>by
    have e1:Mg A7 (Df A7 (Eu G.length x.bl) (GN G (Fz cd G) D hx x.bl (x.la.map Int.toNat) G.length) (KF cd G) G.length)=(r1,r2):=by
     rw [HF.out,Eb,Vg,Ec.eq GQ.out hn HT.out,HHX.out];rfl
    rw [e1] at h
    exact⟨h.1,⟨w',y.h.trans (h.2.mono y.h.size)⟩,rfl⟩)
  have B3Y:=A3 (fun y:Ext W3=>Ext.below B3.out B3.out.size y);clear hin hb3 H2Y gr f0 f1 f2 f3 f4 Pc QV H1X H2X TX HHX;go_upto_region 5 with fail;go_region_held3 (fun w'=>(∀b o,b<W3.heap.size→w'.cell? ⟨b,o,none⟩=W3.cell? ⟨b,o,none⟩)∧Below W3.heap.size W3 w') ((refine yI ?_;first|exact Dl (AV _ _)|exact AV _ _|exact Ext.h _))
   (first|(go_at_call 48;refine (HPS.out _ (by first|exact Dl (AV _ _)|exact Ext.h _)).mono ?_;rintro e' w' ⟨g,y3,rfl,hp3,rfl⟩)|(go_at_call 47;refine (NI.out g y3 hp3).mono ?_;rintro e' w' ⟨rfl,y4,rfl⟩))
  all_goals
   have HLB:=A3 (B3Y.out y4);go_wp2_with fail;go_ret2;exact⟨rfl,HLB.out⟩
theorem aq9 (f:Int→Int×Bool) {l:List Int} {k:Nat} {r:Int} (h:l[k]?=some r):Oq f (l.drop k)=if (f r).2=true then (r,(f r).1,true) else Oq f (l.drop (k+1)):=by
 have hk:=(Bc.1 h).1;rw [ZX hk];rw [Ab hk] at h;cases h;rfl
def yT (c:Int×Int×Bool):Value:=.tuple #[.int .i64 c.1,.int .i64 c.2.1,.bool c.2.2]
theorem apn (cv ev bv pv:Value) (sh lk:Int) (n:Nat) (cd:Nat→Int) (G:List AU) (P:List (List Int)) (w:World) (T:CO w) (HW:Words w cv n cd) (HG:E7 w bv G) (HP:Dk w pv P) (hn:G.length≤5000) (BK:∀x∈G,x.nx.length≤5000) (x:Lp) (p:Int) (v1 v2:Value) (H1:Ints w v1 x.bl) (H2:Ints w v2 x.la) (hla:x.la.length≤5000000) (HR:Dm G P→Ty G) :
  Calls Tryz.prog 17 #[.agg #[cv,ev,.int .i64 sh,.int .i64 lk],.agg #[bv,pv],.agg #[.int .i64 x.h,v1,v2,.int .i64 p]] w fun e w'=>e=.returned (yT (Oq (H6 n cd G P x) Kc))∧Below w.heap.size w w':=by
 obtain⟨R,hR⟩:=A8 (Oq (H6 n cd G P x) Kc);rw [hR];obtain⟨r1,r2,r3⟩:=R;have U9:=A3 hR;show Calls _ _ _ w fun e w'=>e=.returned (.tuple #[.int .i64 r1,.int .i64 r2,.bool r3])∧_;obtain⟨V,hV⟩:=A8 (((w.alloc (.cells #[cv,ev,.int .i64 sh,.int .i64 lk] 25)).alloc (.cells #[bv,pv] 31)).alloc (.cells #[.int .i64 x.h,v1,v2,.int .i64 p] 46));have bV:Below w.heap.size w V:=hV▸(((AV _ _).alloc (AH _) _).alloc AR _).alloc CD _;have sV:V.heap.size=w.heap.size+1+1+1:=by rw [←hV];simp
 have k0:V.heap[w.heap.size]?=some (.cells #[cv,ev,.int .i64 sh,.int .i64 lk] 25 (0,0)):=by
  rw [←hV,Bv _ _ CD,Bv _ _ AR];exact AY _ _
 have k1:V.heap[w.heap.size+1]?=some (.cells #[bv,pv] 31 (0,0)):=by
  rw [←hV,Bv _ _ AR];exact Et _ _ AR
 have k2:V.heap[w.heap.size+1+1]?=some (.cells #[.int .i64 x.h,v1,v2,.int .i64 p] 46 (0,0)):=by rw [←hV];exact Et _ _ AR
 have Wb:=A3 (show ∀W A7,Below V.heap.size V W→Calls Tryz.prog 15 #[.agg #[cv,ev,.int .i64 sh,.int .i64 lk],.agg #[bv,pv],.agg #[.int .i64 x.h,v1,v2,.int .i64 p],.int .i64 A7] W fun e w'=>e=.returned (.tuple #[.int .i64 (H6 n cd G P x A7).1,.bool (H6 n cd G P x A7).2])∧Below W.heap.size W w' from fun W A7 hb=>
  arH cv ev bv pv sh lk n cd G P W ((T.below bV).below hb) ((HW.below bV).below hb) ((HG.below bV).below hb) ((HP.below bV).below hb) hn BK x p v1 v2 ((H1.below bV).below hb) ((H2.below bV).below hb) hla HR A7)
 have⟨BV,K0,K1,K2,SV⟩:=FP bV k0 k1 k2 sV;obtain⟨xh,FT⟩:∃h,x.h=h:=⟨_,rfl⟩;rw [FT] at K2 Wb;rw [FT] at hV ⊢;clear T HW HG HP hn BK H1 H2 hla HR hR k0 k1 k2 bV FT sV;go_enter Tryz.func17,Tryz.ntmps17;go_upto_region 2 with fail;go_loopw [9] (fun a9 wr=>∃(k:Nat) (r:Int),k≤4∧r=10+(k:Int)∧a9=.int .i64 r∧Oq (H6 n cd G P x) (Kc.drop k)=(r1,r2,r3)∧Below V.heap.size V wr) (fun a9 _=>14 - (intOf a9).toNat);case atStart=>exact⟨0,10,by omega,rfl,rfl,U9.out,AV _ _⟩
 case round=>
  obtain⟨k,r,hk,hr,rfl,hc,hb⟩:=hrel;have Jq:=A3 hr;have hr0:10≤r:=by omega
  have hr4:r≤14:=by omega
  clear hr;have⟨HC,HB⟩:=AQ hc hb;have sb:=hb.size;have Th:=A3 (BV.out.trans (hb.mono BV.out.size));by_cases hlt:r≤13
  ·have dk:decide (r≤13)=true:=Ac hlt
   have hk4:k<4:=by have:=Jq.out;omega
   have sV9:=SV.out;have h0:=(hb.block _ A0).trans K0.out;have h1:=(hb.block _ A0).trans K1.out;have h2:=(hb.block _ A0).trans K2.out;obtain⟨a0,a1,a2,a3,a4⟩:=FY h0;have b0:wr.cell? ⟨w.heap.size+1,0,none⟩=some bv:=by simp [World.cell?,h1]
   have b1:wr.cell? ⟨w.heap.size+1,1,none⟩=some pv:=by simp [World.cell?,h1]
   clear sV9;obtain⟨c0,c1,c2,c3,c4⟩:=FY h2;obtain⟨B,hB⟩:=A8 (H6 n cd G P x r);obtain⟨B1,B2⟩:=B;have HX:=A3 (show Calls Tryz.prog 15 #[.agg #[cv,ev,.int .i64 sh,.int .i64 lk],.agg #[bv,pv],.agg #[.int .i64 xh,v1,v2,.int .i64 p],.int .i64 r] wr fun e w'=>e=.returned (.tuple #[.int .i64 B1,.bool B2])∧Below wr.heap.size wr w' from by
    have:=Wb.out wr r hb;rw [hB] at this
    exact this)
   have hat:Kc[k]?=some r:=by
    rw [Jq.out];match k,hk4 with
    | 0,_=>rfl
    | 1,_=>rfl
    | 2,_=>rfl
    | 3,_=>rfl
   have hst:=aq9 (H6 n cd G P x) hat;rw [hB,hc] at hst;have HST:=A3 hst;clear hc hb h0 h1 h2 hB hat hst;cases B2 with
   | true=>
    have HF:=A3 (show r1=r∧r2=B1∧r3=true from by
     have h:=HST.out;rw [A9 rfl] at h;injection h with h1 h2;injection h2 with h2 h3
     exact⟨h1,h2,h3⟩)
    go_wp2_with (go_at_call 15;refine HX.out.mono ?_;rintro e w' ⟨rfl,hb2⟩;have B2:=A3 hb2;clear hb2);go_ret3;obtain⟨e1,e2,e3⟩:=HF.out;exact⟨by rw [e1,e2,e3];rfl,Th.out.trans (B2.out.mono Th.out.size)⟩
   | false=>
    have HF:=A3 (show Oq (H6 n cd G P x) (Kc.drop (k+1))=(r1,r2,r3) from by
     have h:=HST.out;rw [A6 AR] at h
     exact h.symm)
    go_wp2_with (go_at_call 15;refine HX.out.mono ?_;rintro e w' ⟨rfl,hb2⟩;have B2:=A3 hb2;clear hb2);go_roundw;case rel=>exact⟨k+1,r+1,by omega,by have:=Jq.out;omega,rfl,HF.out,HB.out.trans (B2.out.mono HB.out.size)⟩
    case measure=>exact Ai
  ·obtain rfl:k=4:=by have:=Jq.out;omega
   have dk:decide (r≤13)=false:=Ad hlt;have HF:=A3 (show r1=0∧r2=0∧r3=false from by
    have h:Oq (H6 n cd G P x) []=(r1,r2,r3):=HC.out;injection h with h1 h2;injection h2 with h2 h3
    exact⟨h1.symm,h2.symm,h3.symm⟩)
   clear hc hb;go_wp2_with fail;go_ret3;obtain⟨e1,e2,e3⟩:=HF.out;exact⟨by rw [e1,e2,e3];rfl,Th.out⟩
def SD (n:Nat) (cd:Nat→Int) (G:List AU) (P:List (List Int)) (L:List Lp) (rl:List Bool) (il:Nat):Prop:=Dm G P∧Mx n cd G∧rl.length=G.length∧il=G.length∧∀x∈L,Kq G.length x=true
def cE (w':World) (r:List Int ⊕ Int) (e:Ending):Prop:=match r with
 | .inl out=>∃ov,e=.returned (.tuple #[ov,.int .i64 (-1),.int .i64 0])∧Ints w' ov out
 | .inr h=>e=.returned (.tuple #[.slice none 0 0,.int .i64 h,.int .i64 16])
structure ass (n:Nat) (cd:Nat→Int) (G:List AU) (P:List (List Int)) (L:List Lp) (rl:List Bool) (il:Nat) (w':World) (e:Ending):Prop where
 yes:SD n cd G P L rl il→cE w' (Fk cd G rl L []) e
 no:¬SD n cd G P L rl il→e=.returned (.tuple #[.slice none 0 0,.int .i64 (-1),.int .i64 3])
theorem IW.at_ {w wr:World} {A:Option Addr} {m cap:Nat} {L:List Lp} (h:IW w (.slice A m cap) L) (hb:Below w.heap.size w wr) {k:Nat} (hk:k<L.length):∃b off x A1 m1 cp1 A2 m2 cp2,∃p:Int,A=some ⟨b,off,none⟩∧b<w.heap.size∧L[k]?=some x∧wr.cell? ⟨b,off+k*4,none⟩=some (.int .i64 x.h)∧wr.cell? ⟨b,off+k*4+1,none⟩=some (.slice A1 m1 cp1)∧wr.cell? ⟨b,off+k*4+2,none⟩=some (.slice A2 m2 cp2)∧wr.cell? ⟨b,off+k*4+3,none⟩=some (.int .i64 p)∧Ints w (.slice A1 m1 cp1) x.bl∧Ints w (.slice A2 m2 cp2) x.la:=by
 obtain⟨A',cap',e1,_,_,h4⟩:=h;cases e1;obtain⟨b,off,rfl,hlt,hc⟩:=h4 A0;obtain⟨h1,⟨v,h2,h3⟩,⟨u,h5,h6⟩,p,h7⟩:=hc k _ (Ab hk);obtain⟨A1,c1,rfl,-,-⟩:=h3.slice;obtain⟨A2,c2,rfl,-,-⟩:=h6.slice;exact⟨b,off,_,A1,_,c1,A2,_,c2,p,rfl,hlt,Ab hk,(hb.cell (p:=⟨b,_,none⟩) hlt).trans h1,(hb.cell (p:=⟨b,_,none⟩) hlt).trans h2,(hb.cell (p:=⟨b,_,none⟩) hlt).trans h5,(hb.cell (p:=⟨b,_,none⟩) hlt).trans h7,h3,h6⟩
theorem IW.slice {w:World} {v:Value} {L:List Lp} (h:IW w v L):∃A cap,v=.slice A L.length cap∧L.length≤cap∧cap≤2 ^ 63 - 1:=by
 obtain⟨A,cap,h1,h2,h3,_⟩:=h;unfold maxLen at h3;exact⟨A,cap,h1,h2,h3⟩
theorem um {n:Nat} {x:Lp} (h:Kq n x=true):(∃hx:Nat,x.h=(hx:Int)∧hx<n)∧I9 n x.bl=true∧I9 n x.la=true:=by
 unfold Kq at h;simp only [Eh] at h;have h1:=Mm.1 (show (([x.h]:List Int).all fun x=>decide (0≤x) && decide (x<(n:Int)))=true from h.1.1) x.h AR;simp only [Eh,E4] at h1;exact⟨⟨x.h.toNat,by omega,by omega⟩,h.1.2,h.2⟩
theorem ae6 (f:Int→Int×Bool) {l:List Int} {k:Nat} {r:Int} (h:l[k]?=some r) (s:Int×Bool):((l.take (k+1)).map f).foldl FA s=FA (((l.take k).map f).foldl FA s) (f r):=by
 rw [I6,h];simp
theorem wL (cv ev bv pv:Value) (sh lk:Int) (n:Nat) (cd:Nat→Int) (G:List AU) (P:List (List Int)) (w:World) (T:CO w) (HW:Words w cv n cd) (HG:E7 w bv G) (HP:Dk w pv P) (hn:G.length≤5000) (BK:∀x∈G,x.nx.length≤5000) (L:List Lp) (lv:Value) (HL:IW w lv L) (hL:L.length≤1000000) (hla:∀x∈L,x.la.length≤5000000) (rl:List Bool) (rv iv dv:Value) (HRL:Hq w rv rl) (il:Nat) (hiv:∃A cap,iv=.slice A il cap∧il≤cap∧cap≤maxLen) (HR:Dm G P→Ty G) :
  Calls Tryz.prog 20 #[.agg #[cv,ev,.int .i64 sh,.int .i64 lk],.agg #[bv,pv],lv,.agg #[rv,iv,dv]] w fun e w'=>ass n cd G P L rl il w' e∧Below w.heap.size w w':=by
 obtain⟨LA,Sc,rfl,hl1,hl2⟩:=HL.slice;obtain⟨JX,H8,Jr,hr1,hr2,hr4⟩:=id HRL;obtain⟨IA,EF,rfl,hi1,hi2⟩:=hiv;have UD:=MV hi2;obtain⟨GA,BH,EP,hg1,hg2⟩:=HG.slice;obtain⟨ln,MR⟩:∃m,L.length=m:=⟨_,rfl⟩;obtain⟨gn,hgn⟩:∃m,G.length=m:=⟨_,rfl⟩;obtain⟨rn,hrn⟩:∃m,rl.length=m:=⟨_,rfl⟩;rw [MR] at hl1 hL;rw [hgn] at EP hg1 hn;rw [hrn] at Jr hr1;subst Jr;obtain⟨V,hV⟩:=A8 (((w.alloc (.cells #[cv,ev,.int .i64 sh,.int .i64 lk] 25)).alloc (.cells #[bv,pv] 31)).alloc (.cells #[.slice JX rn H8,.slice IA il EF,dv] 59));have bV:Below w.heap.size w V:=hV▸(((AV _ _).alloc (AH _) _).alloc AR _).alloc CD _;have sV:V.heap.size=w.heap.size+1+1+1:=by rw [←hV];simp
 have k0:V.heap[w.heap.size]?=some (.cells #[cv,ev,.int .i64 sh,.int .i64 lk] 25 (0,0)):=by
  rw [←hV,Bv _ _ CD,Bv _ _ AR];exact AY _ _
 have k1:V.heap[w.heap.size+1]?=some (.cells #[bv,pv] 31 (0,0)):=by
  rw [←hV,Bv _ _ AR];exact Et _ _ AR
 have k2:V.heap[w.heap.size+1+1]?=some (.cells #[.slice JX rn H8,.slice IA il EF,dv] 59 (0,0)):=by rw [←hV];exact Et _ _ AR
 obtain⟨a0,a1,a2,a3,a4⟩:=FY k0;have b0:V.cell? ⟨w.heap.size+1,0,none⟩=some bv:=by simp [World.cell?,k1]
 have b1:V.cell? ⟨w.heap.size+1,1,none⟩=some pv:=by simp [World.cell?,k1]
 have b2:w.heap.size+1<V.heap.size:=by omega
 have c0:V.cell? ⟨w.heap.size+1+1,0,none⟩=some (.slice JX rn H8):=by simp [World.cell?,k2]
 have c1:V.cell? ⟨w.heap.size+1+1,1,none⟩=some (.slice IA il EF):=by simp [World.cell?,k2]
 have c4:w.heap.size+1+1<V.heap.size:=by omega
 have EU:=A3 (qu cv ev bv pv sh lk n cd G P V (T.below bV) (HW.below bV) (HG.below bV) (HP.below bV) (by rw [hgn];exact hn) BK);have⟨BV,P9,HAR,TV,VE,HN6,N9,DU⟩:=OI bV hla HR (T.below bV) HW.wd HW.le MR hgn;have JN:=A3 hrn;rw [MR] at HL ⊢;have⟨M0,Qx⟩:=AQ HL hr4;clear k0 k1 k2 bV T HW HG HP BK HL hla HR hr4 HRL MR hgn hrn hr2 hi2 sV;subst EP;go_enter Tryz.func20,Tryz.ntmps20;go_wp2_with fail;refine EU.out.mono ?_;rintro e W ⟨hpr,IU⟩;have BW:=A3 (BV.out.trans (IU.mono BV.out.size));have d0:=(IU.cell (p:=⟨w.heap.size+1,0,none⟩) b2).trans b0;have d1:=(IU.cell (p:=⟨w.heap.size+1+1,0,none⟩) c4).trans c0;have d2:=(IU.cell (p:=⟨w.heap.size+1+1,1,none⟩) c4).trans c1;have sW:=IU.size;have d3:w.heap.size+1<W.heap.size:=by omega
 have d4:w.heap.size+1+1<W.heap.size:=by omega
 have TW:=A3 (TV.out.below IU);clear a0 a1 a2 a3 a4 b0 b1 b2 c0 c1 c4 TV IU hV;rcases hpr with⟨hval,MD,sp,cv',rv',dv',D,rfl,hS,hT⟩|⟨hno,rfl⟩;case inr=>
  have D6:=A3 (show ¬SD n cd G P L rl il from fun h=>hno ⟨h.1,h.2.1⟩);clear hno;go_wp2_with fail;go_ret3;exact⟨⟨fun h=>absurd h D6.out,fun _=>rfl⟩,BW.out⟩
 have⟨GQ,QM,HS,HT⟩:=CU hval MD hS hT;have XQ:=A3 (show ∀y∈G,0≤y.lo from fun y hy=>by obtain⟨z,hz⟩:=hval.ok;exact hz.lo A0 y hy);clear hval MD hS hT;by_cases hrg:rn=gn;case neg=>
  have e1:((rn:Int) != (gn:Int))=true:=by simp;omega
  have D6:=A3 (show ¬SD n cd G P L rl il from fun h=>hrg (by have:=h.2.2.1;rw [JN.out,DU.out] at this;exact this));clear hrg;go_wp2_with fail;go_ret3;exact⟨⟨fun h=>absurd h D6.out,fun _=>rfl⟩,BW.out⟩
 have e1:((rn:Int) != (gn:Int))=false:=by simp [hrg]
 by_cases XK:il=gn;case neg=>
  have e2:((il:Int) != (gn:Int))=true:=by simp;omega
  have D6:=A3 (show ¬SD n cd G P L rl il from fun h=>XK (by have:=h.2.2.2.1;rw [DU.out] at this;exact this));clear XK hrg;go_wp2_with fail;go_ret3;exact⟨⟨fun h=>absurd h D6.out,fun _=>rfl⟩,BW.out⟩
 have e2:((il:Int) != (gn:Int))=false:=by simp [XK]
 have⟨Dq,UW⟩:=AQ hrg XK;clear hrg XK;go_upto_region 5 with fail;have D1:=A3 d1;clear d0 d1 d2 e1 e2 d3;go_loopw [53] (fun a53 wr=>∃k:Nat,k≤ln∧a53=.int .i64 (k:Int)∧(∀i x,i<k→L[i]?=some x→Kq gn x=true)∧Below W.heap.size W wr) (fun a53 _=>ln - (intOf a53).toNat);case atStart=>exact⟨0,by omega,rfl,fun i x h=>by omega,AV _ _⟩
 case round=>
  obtain⟨k,hk,rfl,hrf,hb⟩:=hrel;have⟨EC,HB,LF⟩:=Bh hrf hb (BW.out.trans (hb.mono BW.out.size));have sb:=hb.size;clear hrf;by_cases hlt:k<ln
  ·have dk:decide ((k:Int)<(ln:Int))=true:=Ac A0
   have ikl:(k:Int)<(ln:Int):=by omega
   obtain⟨lb,lo,x,A1,m1,cp1,A2,m2,cp2,p,rfl,hlb,hx,q0,q1,q2,q3,Wo,UD⟩:=M0.out.at_ LF.out (k:=k) (by rw [N9.out];exact hlt);have Z8:lb<wr.heap.size:=by have:=LF.out.size;omega
   have yP:=A3 (ja (HS.out.below hb) Si x p (.slice A1 m1 cp1) (.slice A2 m2 cp2) (Wo.below LF.out) (UD.below LF.out));obtain⟨Y,hY⟩:=A8 (wr.alloc (.cells #[.int .i64 x.h,(.slice A1 m1 cp1),(.slice A2 m2 cp2),.int .i64 p] 46));have bY:Below wr.heap.size wr Y:=hY▸(AV _ _).alloc (AH _) _;obtain⟨b14,je⟩:∃b,wr.heap.size=b:=⟨_,rfl⟩;have kY:Y.heap[b14]?=some (.cells #[.int .i64 x.h,(.slice A1 m1 cp1),(.slice A2 m2 cp2),.int .i64 p] 46 (0,0)):=by rw [←je,← hY];exact AY _ _
   obtain⟨y0,y1,y2,y3,y4⟩:=FY kY;have gT:=ja (HS.out.below (hb.trans (bY.mono hb.size))) Si x p (.slice A1 m1 cp1) (.slice A2 m2 cp2) ((Wo.below LF.out).below bY) ((UD.below LF.out).below bY);obtain⟨rf,hrf⟩:∃r,Kq gn x=r:=⟨_,rfl⟩;rw [DU.out,hrf] at gT;have⟨VT,vV,HX,BYH⟩:=CU gT hrf hx bY;obtain⟨xh,FT⟩:∃h,x.h=h:=⟨_,rfl⟩;rw [FT] at q0 VT hY y0;clear kY hb hx Wo UD hrf gT bY yP FT;cases rf with
   | false=>
    have D6:=A3 (show ¬SD n cd G P L rl il from fun h=>by
     have h1:=h.2.2.2.2 x (Bj HX.out);rw [DU.out,vV.out] at h1
     cases h1)
    go_wp2_with (go_at_call 45;refine VT.out.mono ?_;rintro e w' ⟨rfl,hb2⟩;have B2:=A3 (LF.out.trans ((BYH.out.trans (hb2.mono BYH.out.size)).mono LF.out.size));clear hb2);go_ret3;exact⟨⟨fun h=>absurd h D6.out,fun _=>rfl⟩,B2.out⟩
   | true=>
    have EW:=A3 (show ∀i y,i<k+1→L[i]?=some y→Kq gn y=true from fun i y hi hy=>by
     by_cases e:i=k
     ·subst e
      rw [HX.out] at hy;cases hy;exact vV.out
     ·exact EC.out i y A0 hy)
    go_wp2_with (go_at_call 45;refine VT.out.mono ?_;rintro e w' ⟨rfl,hb2⟩;have B2:=A3 (HB.out.trans ((BYH.out.trans (hb2.mono BYH.out.size)).mono HB.out.size));clear hb2);go_roundw;case rel=>exact⟨k+1,by omega,by go_num,EW.out,B2.out⟩
    case measure=>exact Ai
  ·obtain rfl:ln=k:=by omega
   have dk:decide ((ln:Int)<(ln:Int))=false:=by simp
   have nO:=A3 (show ∀x∈L,Kq gn x=true from fun x hx=>by
    obtain⟨i,hi⟩:=LH.1 hx
    exact EC.out i x (by rw [←N9.out];exact (Bc.1 hi).1) hi)
   have OO:=A3 (show SD n cd G P L rl il from⟨GQ.out,QM.out,by rw [JN.out,DU.out];exact Dq.out,by rw [DU.out];exact UW.out,by rw [DU.out];exact nO.out⟩);obtain⟨iI,Ef,Es,EN,FN⟩:=Dp Oy;obtain⟨cI,Tr⟩:∃c,madeCells (Value.int .i64 0).cells (ln*1)=c:=⟨_,rfl⟩;have hcs:cI.size=ln:=by rw [←Tr];simp [madeCells]
   have mkI:∀W,(Instr.makeSlice 38 (.int .i64 0) (.int .i64 (ln:Int))).run Tryz.prog W=.ok (.slice (some ⟨W.heap.size,0,none⟩) 0 ln) (W.alloc (.cells cI 3)):=fun W=>by
    have hr:=Sy (P:=Tryz.prog) W 38 3 iI _ JJ Ef Es .i64 .i64 0 (ln:Int) A0 A0 Xa A0;rw [EN,Cu] at hr;rw [hr,← Tr];rfl
   obtain⟨Y,hY⟩:=A8 (wr.alloc (.cells cI 3));have bY:Below wr.heap.size wr Y:=hY▸(AV _ _).alloc (AH _) _;have RU:=A3 (show Y.ownsRow W.heap.size 3 1 (.slice (some ⟨wr.heap.size,0,none⟩) 0 ln) 0 (Aq []) from
    ⟨by simp,.inr ⟨wr.heap.size,ln,cI,rfl,sb,hY▸AY _ _,by omega,by unfold maxLen;omega,by rw [hcs];omega,by simp⟩⟩)
   have BY:=A3 (hb.trans (bY.mono hb.size));clear hb bY Tr hcs EC UW HB LF;go_upto_region 12 with fail;clear mkI hY;go_loopw [15,18,19,20,21,22,23,24,67] (fun a15 a18 a19 a20 a21 a22 a23 a24 a67 wx=>∃(k:Nat) (out:List Int),k≤ln∧a67=.int .i64 (k:Int)∧(Fk cd G rl (L.take k) []=.inl out∧out.length=k)∧wx.ownsRow W.heap.size 3 1 a15 k (Aq out)∧Below W.heap.size W wx) (fun _ _ _ _ _ _ _ _ a67 _=>ln - (intOf a67).toNat);case atStart=>exact⟨0,[],by omega,rfl,⟨rfl,rfl⟩,RU.out,BY.out⟩
   case round=>
    clear RU BY;obtain⟨k,out,hk,rfl,⟨hfn,Ot⟩,hown,hb⟩:=hrel;have⟨Tn,HOL,sS,HB,LF⟩:=FP hfn Ot hown hb (BW.out.trans (hb.mono BW.out.size));have sb':=hb.size;obtain⟨oA,Pu,hoa⟩:∃oA Pu,u15=Value.slice oA k Pu:=by
     rcases hown.2 with⟨h,h'⟩|⟨g,cap',cur,h,_⟩
     ·exact⟨_,_,by rw [h,h']⟩
     ·exact⟨_,_,h⟩
    subst hoa;clear hfn Ot hown;by_cases hlt:k<ln
    ·have dk:decide ((k:Int)<(ln:Int))=true:=Ac A0
     have ikl:(k:Int)<(ln:Int):=by omega
     obtain⟨lb,lo,x,A1,m1,cp1,A2,m2,cp2,p,rfl,hlb,hx,q0,q1,q2,q3,Wo,UD⟩:=M0.out.at_ LF.out (k:=k) (by rw [N9.out];exact hlt);have Z8:lb<wr.heap.size:=by have:=LF.out.size;omega
     obtain⟨⟨hx',EE,hxn⟩,hkb,DK⟩:=um (nO.out x (Bj hx));have⟨HX,HXE,HKB,HKL⟩:=CU hx EE hkb DK;obtain⟨Y,hY⟩:=A8 (wr.alloc (.cells #[.int .i64 (hx':Int),(.slice A1 m1 cp1),(.slice A2 m2 cp2),.int .i64 p] 46));obtain⟨b17,YJ⟩:∃b,wr.heap.size=b:=⟨_,rfl⟩;have bY:Below wr.heap.size wr Y:=hY▸(AV _ _).alloc (AH _) _;have kY:Y.heap[b17]?=some (.cells #[.int .i64 (hx':Int),(.slice A1 m1 cp1),(.slice A2 m2 cp2),.int .i64 p] 46 (0,0)):=by rw [←YJ,← hY];exact AY _ _
     obtain⟨y0,y1,y2,y3,y4⟩:=FY kY;have⟨BY,BYR⟩:=AQ (hb.trans (bY.mono hb.size)) bY;have bwy:Below w.heap.size w Y:=LF.out.trans (bY.mono LF.out.size);have⟨H1Y,H2Y⟩:=AQ (Wo.below bwy) (UD.below bwy);obtain⟨rb,ro,Fo,hrb,hrc⟩:=Qx.out (by rw [JN.out,Dq.out];omega);have xr:Y.cell? ⟨rb,ro+hx',none⟩=some (.bool (rl.getD hx' false)):=(bwy.cell (p:=⟨rb,_,none⟩) hrb).trans (hrc hx' (by rw [JN.out,Dq.out];exact hxn));have srb:rb<Y.heap.size:=by have:=bwy.size;omega
     have y5:Y.cell? ⟨w.heap.size+1+1,0,none⟩=some (.slice JX rn H8):=(BY.out.cell (p:=⟨w.heap.size+1+1,0,none⟩) d4).trans D1.out;have y6:w.heap.size+1+1<Y.heap.size:=by omega
     have ixr:(hx':Int)<(rn:Int):=by rw [Dq.out];omega
     have HOY:=A3 (CS sS.out bY);have vu:=A3 (show ∀(W2:World) (f:Int) (W':World) (v':Value) row,Below W.heap.size W W2→(W2.alloc (.cells #[.int .i64 f] 3)).grownBy W' row→row=(Value.slice oA k Pu).ownBlock→W2.ownsRow W.heap.size 3 1 (.slice oA k Pu) k (Aq out)→W'.ownsRow W.heap.size 3 1 v' (k+1) (Aq out++[.int .i64 f])→W'.ownsRow W.heap.size 3 1 v' (k+1) (Aq (out++[f]))∧Below W.heap.size W W' from fun W2 f W' v' row hb2 h1 h2 ho h3=>by
      subst h2
      refine⟨by simpa [Aq] using h3,(hb2.alloc hb2.size _).grown h1 (by rw [F9];have:=hb2.size;omega) (fun k hk=>(ho.lt k hk).1)⟩)
     have nK:=A3 (show ∀s,Ii cd G rl x=s→Fk cd G rl (L.take (k+1)) []=if s.2=true then .inl (out++[s.1]) else .inr (hx':Int) from fun s hs=>by
      rw [I2 HX.out,mG Tn.out,hs,HXE.out])
     have uh:=A3 (show ∀f:Int,(out++[f]).length=k+1 from fun f=>by rw [G5,HOL.out];rfl);obtain⟨r0,hr0⟩:∃r,rl.getD hx' false=r:=⟨_,rfl⟩;rw [hr0] at xr;have HR0:=A3 hr0;rw [EE] at q0;subst Fo;go_upto_region 14 with fail;clear q0 q1 q2 q3 hx EE hkb DK bY kY bwy hr0 hb Wo UD hY;refine C7 A4 A4 ?_;repeat (go_big_quiet_step (fail))
     refine BD ?_;rintro _ ⟨x1,rfl⟩;obtain⟨Z,hZ⟩:=A8 x1.w;have bZ:Below Y.heap.size Y Z:=hZ▸x1.h;rw [hZ];have z0:=(bZ.cell (p:=⟨b17,0,none⟩) y4).trans y0;have z1:=(bZ.cell (p:=⟨b17,1,none⟩) y4).trans y1;have z2:=(bZ.cell (p:=⟨b17,2,none⟩) y4).trans y2;have z3:=(bZ.cell (p:=⟨b17,3,none⟩) y4).trans y3;have sz:=bZ.size;have z4:b17<Z.heap.size:=by omega
     have⟨BZ,HOZ,H1Z,H2Z⟩:=CU (BY.out.trans (bZ.mono BY.out.size)) (CS HOY.out bZ) (H1Y.out.below bZ) (H2Y.out.below bZ);have szW:=BZ.out.size;clear hZ bZ y0 y1 y2 y3 y4 y5 y6 xr srb ixr x1;cases r0 with
     | false=>
      have WE:=A3 (nK.out (0,true) (by unfold Ii;rw [HXE.out,Cu,HR0.out];rfl));go_wp2_with (at_builtin;refine Lx _ rfl (.tmp 115) (.tmp 117) 38 rfl W.heap.size 3 iI (.int .i64 0) 1 8 JJ Ef Es EN FN rfl AP (.slice oA k Pu) k (Aq out) rfl (HOZ.out.alloc _) ⟨Z.heap.size,0,none⟩ 1 1 [.int .i64 0] rfl rfl (Du _ _ _) Bd CJ A0 I7 ?_;intro v' W' hown' hgrow _ DY;have F1:=A3 (vu.out Z 0 W' v' _ BZ.out hgrow rfl HOZ.out hown');clear hown' hgrow DY);go_roundw;case rel=>exact⟨k+1,_,by omega,by go_num,⟨WE.out,uh.out 0⟩,F1.out.1,F1.out.2⟩
      case measure=>exact Ai
     | true=>
      obtain⟨gr,-⟩:=Nb (Gk.2 GQ.out.ne) (GB.of GQ.out Si).lt;have HSZ:=A3 (HS.out.below BZ.out);have QV:=A3 (uB HSZ.out Si x p (.slice A1 m1 cp1) (.slice A2 m2 cp2) H1Z.out H2Z.out (by rw [DU.out];exact HKB.out));rw [HXE.out,DU.out] at QV;obtain⟨Xf,mU⟩:=sr HKL.out;have⟨fk,asJ⟩:=AQ Xf mU;clear Xf mU;go_wp2_with fail;refine QV.out.mono ?_;rintro e W3 ⟨ig,rfl,hin,hb3⟩;have t0:=(hb3.cell (p:=⟨b17,0,none⟩) z4).trans z0;have t1:=(hb3.cell (p:=⟨b17,1,none⟩) z4).trans z1;have t2:=(hb3.cell (p:=⟨b17,2,none⟩) z4).trans z2;have t3:=(hb3.cell (p:=⟨b17,3,none⟩) z4).trans z3;have s3:=hb3.size;have t4:b17<W3.heap.size:=by omega
      have G4:=A3 (Zd (l:=Eu gn x.bl) (by rw [Sm];exact hin));have HPS:=A3 (uI (HSZ.out.below hb3) (GB.of GQ.out Si) gr HT.out hx' x.bl (x.la.map Int.toNat) ig gn (.slice A1 m1 cp1) (.slice A2 m2 cp2) p (by have:=G4.out;rw [DU.out];exact this) (H1Z.out.below hb3) (by rw [fk.out];exact H2Z.out.below hb3) (fun l hl=>HAR.out GQ.out l (by rw [DU.out];exact asJ.out l hl)) (by rw [FQ];exact P9.out x (Bj HX.out)));rw [DU.out] at HPS;have⟨B3,BZ3⟩:=AQ (BZ.out.trans (hb3.mono BZ.out.size)) hb3;clear hin hb3 z0 z1 z2 z3 z4 QV;go_wp2_with fail;refine HPS.out.mono ?_;rintro e W4 ⟨pg,rfl,hpw,hb4⟩;have⟨T0,T1,T2,T3⟩:=CU ((hb4.cell (p:=⟨b17,0,none⟩) t4).trans t0) ((hb4.cell (p:=⟨b17,1,none⟩) t4).trans t1) ((hb4.cell (p:=⟨b17,2,none⟩) t4).trans t2) ((hb4.cell (p:=⟨b17,3,none⟩) t4).trans t3);have s4:=hb4.size;have ZI:b17<W4.heap.size:=by omega
      have B4:=A3 (B3.out.trans (hb4.mono B3.out.size));have HPW:=A3 (Zd (l:=GN G (Fz cd G) D hx' x.bl (x.la.map Int.toNat) gn) (by rw [Yb,DU.out];exact hpw));have⟨pW,BZ4⟩:=AQ (G4.out.below hb4) (BZ3.out.trans (hb4.mono BZ3.out.size));have NI:=A3 (show ∀(r:Int) (W5:World),Below W4.heap.size W4 W5→Calls Tryz.prog 47 #[.pointer (some ⟨sp,0,none⟩),.agg #[.int .i64 (hx':Int),(.slice A1 m1 cp1),(.slice A2 m2 cp2),.int .i64 p],.slice (some ⟨ig,0,none⟩) gn gn,.slice (some ⟨pg,0,none⟩) gn gn,.int .i64 r] W5 fun e w'=>e=.returned (.tuple #[.int .i64 (Eb cd G x r).1,.bool (Eb cd G x r).2])∧Below W5.heap.size W5 w' from fun r W5 hb5=>by
       have h:=mQ ((HS.out.below B4.out).below hb5) Si ((TW.out.below B4.out).below hb5) (uX VE.out XQ.out QM.out) (uD HN6.out Si XQ.out QM.out) hx' p (.slice A1 m1 cp1) (.slice A2 m2 cp2) _ _ _ _ (pW.out.below hb5) (by rw [Sm,DU.out]) (HPW.out.below hb5) (by rw [Yb]) r;have e1:Mg r (Df r (Eu gn x.bl) (GN G (Fz cd G) D hx' x.bl (x.la.map Int.toNat) gn) (KF cd G) gn)=Eb cd G x r:=by
        rw [Eb,Vg,Ec.eq GQ.out Si HT.out,HXE.out,DU.out];rfl
       rw [DU.out,e1] at h
       exact h)
      have HL4:=A3 (show Ii cd G rl x=(Kc.map (Eb cd G x)).foldl FA (0,false) from by unfold Ii;rw [HXE.out,Cu,HR0.out];rfl);clear hpw hb4 t0 t1 t2 t3 t4 HPS G4 pW HPW;go_upto_region 19 with fail;obtain⟨wo,Nk⟩:∃wo:World,wo=wr:=⟨_,rfl⟩;subst Nk;go_loopw [18,19,22,23,24] (fun a18 a19 a22 a23 a24 wz=>∃(j:Nat) (r:Int) (s:Int×Bool),j≤4∧r=10+(j:Int)∧a22=.int .i64 r∧((Kc.take j).map (Eb cd G x)).foldl FA (0,false)=s∧a18=.int .i64 s.1∧a19=.bool s.2∧Below W4.heap.size W4 wz) (fun _ _ a22 _ _ _=>14 - (intOf a22).toNat);case atStart=>exact⟨0,10,(0,false),by omega,rfl,rfl,rfl,rfl,rfl,AV _ _⟩
      case round=>
       obtain⟨j,r,s,hj,hr,rfl,hs,rfl,rfl,hb5⟩:=hrel;have Jq:=A3 hr;have hr0:10≤r:=by omega
       have hr9:r≤14:=by omega
       clear hr;obtain⟨s1,s2⟩:=s;have⟨HS5,N7⟩:=AQ hs hb5;have s5:=hb5.size;simp only;clear hs;by_cases UY:r≤13
       ·have dj:decide (r≤13)=true:=Ac UY
        have hj4:j<4:=by have:=Jq.out;omega
        have p0:=(hb5.cell (p:=⟨b17,0,none⟩) ZI).trans T0.out;have p1:=(hb5.cell (p:=⟨b17,1,none⟩) ZI).trans T1.out;have p2:=(hb5.cell (p:=⟨b17,2,none⟩) ZI).trans T2.out;have p3:=(hb5.cell (p:=⟨b17,3,none⟩) ZI).trans T3.out;have p4:b17<wr.heap.size:=by omega
        obtain⟨C,hC⟩:=A8 (Eb cd G x r);obtain⟨c1,c2⟩:=C;have HX5:=A3 (show Calls Tryz.prog 47 #[.pointer (some ⟨sp,0,none⟩),.agg #[.int .i64 (hx':Int),(.slice A1 m1 cp1),(.slice A2 m2 cp2),.int .i64 p],.slice (some ⟨ig,0,none⟩) gn gn,.slice (some ⟨pg,0,none⟩) gn gn,.int .i64 r] wr fun e w'=>e=.returned (.tuple #[.int .i64 c1,.bool c2])∧Below wr.heap.size wr w' from by
         have:=NI.out r wr hb5;rw [hC] at this
         exact this)
        have hat:Kc[j]?=some r:=by
         rw [Jq.out];match j,hj4 with
         | 0,_=>rfl
         | 1,_=>rfl
         | 2,_=>rfl
         | 3,_=>rfl
        have hst:=ae6 (Eb cd G x) hat (0,false);rw [HS5.out,hC] at hst;have HST:=A3 hst;obtain⟨ql,Xw⟩:∃q,decide (c1<s1)=q:=⟨_,rfl⟩;have HQL:=A3 (show (ql=true↔c1<s1) by rw [←Xw];exact decide_eq_true_iff);clear hb5 hC hat hst HS5;rcases c2 with _|_
        ·have HN:=A3 (show ((Kc.take (j+1)).map (Eb cd G x)).foldl FA (0,false)=(s1,s2) from by rw [HST.out];rfl)
         go_wp2_with (go_at_call 47;refine HX5.out.mono ?_;rintro e w' ⟨rfl,hb6⟩;have B6:=A3 hb6;clear hb6);go_roundw;case rel=>exact⟨j+1,r+1,(s1,s2),by have:=Jq.out;omega,by have:=Jq.out;omega,rfl,HN.out,rfl,rfl,N7.out.trans (B6.out.mono N7.out.size)⟩
         case measure=>exact Ai
        ·rcases s2 with _|_
         ·have HN:=A3 (show ((Kc.take (j+1)).map (Eb cd G x)).foldl FA (0,false)=(c1,true) from by rw [HST.out];simp [FA])
          go_wp2_with (go_at_call 47;refine HX5.out.mono ?_;rintro e w' ⟨rfl,hb6⟩;have B6:=A3 hb6;clear hb6);go_roundw;case rel=>exact⟨j+1,r+1,(c1,true),by have:=Jq.out;omega,by have:=Jq.out;omega,rfl,HN.out,rfl,rfl,N7.out.trans (B6.out.mono N7.out.size)⟩
          case measure=>exact Ai
         ·rcases ql with _|_
          ·have HN:=A3 (show ((Kc.take (j+1)).map (Eb cd G x)).foldl FA (0,false)=(s1,true) from by
            rw [HST.out];unfold FA;rw [A6];rintro⟨_,h⟩;rcases h with h|h
            ·cases h
            ·have:=HQL.out.2 h;cases this)
           go_wp2_with (go_at_call 47;refine HX5.out.mono ?_;rintro e w' ⟨rfl,hb6⟩;have B6:=A3 hb6;clear hb6);go_roundw;case rel=>exact⟨j+1,r+1,(s1,true),by have:=Jq.out;omega,by have:=Jq.out;omega,rfl,HN.out,rfl,rfl,N7.out.trans (B6.out.mono N7.out.size)⟩
           case measure=>exact Ai
          ·have HN:=A3 (show ((Kc.take (j+1)).map (Eb cd G x)).foldl FA (0,false)=(c1,true) from by
            rw [HST.out];unfold FA;rw [A9 ⟨rfl,.inr (HQL.out.1 rfl)⟩])
           go_wp2_with (go_at_call 47;refine HX5.out.mono ?_;rintro e w' ⟨rfl,hb6⟩;have B6:=A3 hb6;clear hb6);go_roundw;case rel=>exact⟨j+1,r+1,(c1,true),by have:=Jq.out;omega,by have:=Jq.out;omega,rfl,HN.out,rfl,rfl,N7.out.trans (B6.out.mono N7.out.size)⟩
           case measure=>exact Ai
       ·obtain rfl:j=4:=by have:=Jq.out;omega
        have dj:decide (r≤13)=false:=Ad UY;have WE:=A3 (nK.out (s1,s2) (by rw [HL4.out];exact HS5.out));have B5:=A3 (B4.out.trans (hb5.mono B4.out.size));have p0:=(hb5.cell (p:=⟨b17,0,none⟩) ZI).trans T0.out;have p4:b17<wr.heap.size:=by omega
        have HO5:=A3 (CS (CS HOZ.out BZ4.out) hb5);have s5W:=B5.out.size;clear hb5;cases s2 with
        | false=>
         have Nz:=A3 (show Fk cd G rl L []=.inr (hx':Int) from by
          have h1:Fk cd G rl (L.take (k+1)) []=.inr (hx':Int):=by rw [WE.out,A6 AR]
          have h2:=tO h1 (L.drop (k+1))
          rwa [Ul] at h2)
         go_upto_region 25 with fail;refine C7 A4 A4 ?_;repeat (go_big_quiet_step (fail))
         refine BD ?_;rintro _ ⟨x2,rfl⟩;have BX2:=A3 (BW.out.trans ((B5.out.trans (x2.h.mono B5.out.size)).mono BW.out.size));go_wp2_with fail;go_ret3;exact⟨⟨fun _=>by rw [Nz.out];rfl,fun h=>absurd OO.out h⟩,BX2.out⟩
        | true=>
         have aam:=A3 (show Fk cd G rl (L.take (k+1)) []=.inl (out++[s1]) from by rw [WE.out,A9 rfl]);go_wp2_with (at_builtin;refine Lx _ rfl (.tmp 115) (.tmp 117) 38 rfl W.heap.size 3 iI (.int .i64 0) 1 8 JJ Ef Es EN FN rfl AP (.slice oA k Pu) k (Aq out) rfl (HO5.out.alloc _) ⟨wr.heap.size,0,none⟩ 1 1 [.int .i64 s1] rfl rfl (Du _ _ _) Bd CJ A0 I7 ?_;intro v' W' hown' hgrow _ DY;have F1:=A3 (vu.out wr s1 W' v' _ B5.out hgrow rfl HO5.out hown');clear hown' hgrow DY);go_roundw;case rel=>exact⟨k+1,_,by omega,by go_num,⟨aam.out,uh.out s1⟩,F1.out.1,F1.out.2⟩
         case measure=>exact Ai
    ·obtain rfl:ln=k:=by omega
     have dk:decide ((ln:Int)<(ln:Int))=false:=by simp
     have Nz:=A3 (show Fk cd G rl L []=.inl out from by rw [←Tn.out,K8 (by rw [N9.out];exact AH _)]);have Sl:=A3 (NT (l:=out) (by rw [HOL.out];exact sS.out));have BE:=A3 (BW.out.trans (hb.mono BW.out.size));clear hb;go_wp2_with fail;go_ret3;exact⟨⟨fun _=>by rw [Nz.out];exact⟨_,rfl,Sl.out⟩,fun h=>absurd OO.out h⟩,BE.out⟩
def Li:ByteArray:={ data:=#[116] }
theorem aem (v:Value) (l:List Ins) (w:World) (T:CO w) (H:ug w v l) (hl:l.length≤1000) (hop:∀x∈l,0≤x.op) :
  Calls Tryz.prog 29 #[v] w fun e w'=>(∃cv ev A cap,e=.returned (.agg #[cv,ev,.int .i64 0,.int .i64 0])∧cv=.slice A l.length cap∧w'.ownsRow w.heap.size 70 1 cv l.length (SE (l.map fun i=>(encI i).1))∧IZ w' ev [⟨Li,0,l.length,0⟩])∧Below w.heap.size w w':=by
 obtain⟨A,cap,rfl,h1,h2,h3⟩:=H.at_;have⟨HC,HT,IL⟩:=Bh h3 T hop;unfold maxLen at h2;clear h3 T hop H;obtain⟨iW,hiW,hW0,hW1,hW2⟩:=Dp zS;go_enter Tryz.func29,Tryz.ntmps29;go_upto_region 3 with fail;obtain⟨V,hV⟩:=A8 (((w.alloc (.cells #[.slice none 0 0,.slice none 0 0,.int .i64 0,.int .i64 0] 25)).alloc (.cells #[.string { data:=#[116] },.int .i64 0,.int .i64 (l.length:Int),.int .i64 0] 75)).alloc (.cells #[.slice none 0 0,.slice (some ⟨w.heap.size+1,0,none⟩) 1 1,.int .i64 0,.int .i64 0] 25));have sV:V.heap.size=w.heap.size+3:=by rw [←hV];simp
 have bV:Below w.heap.size w V:=hV▸(((AV _ _).alloc (AH _) _).alloc AR _).alloc CD _;have kr:V.heap[w.heap.size]?=some (.cells #[.slice none 0 0,.slice none 0 0,.int .i64 0,.int .i64 0] 25):=by rw [←hV,Bv _ _ (by simp;try omega),Bv _ _ AR];exact AY _ _
 have ke:V.heap[w.heap.size+1]?=some (.cells #[.string { data:=#[116] },.int .i64 0,.int .i64 (l.length:Int),.int .i64 0] 75):=by rw [←hV,Bv _ _ AR];exact Et _ _ AR
 have ki:V.heap[w.heap.size+1+1]?=some (.cells #[.slice none 0 0,.slice (some ⟨w.heap.size+1,0,none⟩) 1 1,.int .i64 0,.int .i64 0] 25):=by rw [←hV];exact Et _ _ AR
 have UW:=A3 (show IG V V (w.heap.size+1+1) (.slice none 0 0) (.slice (some ⟨w.heap.size+1,0,none⟩) 1 1) [] from⟨by omega,rfl,rfl,rfl,AH _,fun _ _ _=>rfl,ki,NK _ _ _ _⟩);rw [hV];obtain⟨ib,hib⟩:=A8 (w.heap.size+1+1);rw [hib] at UW ⊢;obtain⟨eb,heb⟩:=A8 (w.heap.size+1);rw [heb] at UW ke ⊢;have⟨BV,KR,KE⟩:=Bh bV kr ke;clear hV ki kr ke bV;go_loopw [4,5,6] (fun a4 a5 a6 wr=>∃(j:Nat) (cv:Value),j≤l.length∧a4=.int .i64 (j:Int)∧IG V wr ib cv (.slice (some ⟨eb,0,none⟩) 1 1) ((l.take j).map fun i=>(encI i).1)) (fun a4 _ _ _=>l.length - (intOf a4).toNat);case atStart=>exact⟨0,_,Ca _,rfl,UW.out⟩
 case round=>
  obtain⟨j,cv,hj,rfl,hG⟩:=hrel;clear UW;have HG:=A3 hG;have BW:=A3 (hG.base BV.out A0);have sB2:=hG.sz;clear hG;by_cases hlt:j<l.length
  ·obtain⟨b,off,rfl,hb,hc⟩:=HC.out A0
   obtain⟨i,hi⟩:=A8 (l[j]);have hx:l[j]?=some i:=by rw [Ab hlt,hi]
   obtain⟨c0,c1,c2,c3,c4⟩:=hc j i hx;have x0:wr.cell? ⟨b,off+j*5,none⟩=some (.int .u8 i.op):=by rw [BW.out.cell (p:=⟨b,_,none⟩) hb];exact c0
   have x1:wr.cell? ⟨b,off+j*5+1,none⟩=some (.int .i64 i.a):=by rw [BW.out.cell (p:=⟨b,_,none⟩) hb];exact c1
   have x2:wr.cell? ⟨b,off+j*5+2,none⟩=some (.int .i64 i.b):=by rw [BW.out.cell (p:=⟨b,_,none⟩) hb];exact c2
   have x3:wr.cell? ⟨b,off+j*5+3,none⟩=some (.int .i64 i.c):=by rw [BW.out.cell (p:=⟨b,_,none⟩) hb];exact c3
   have x4:wr.cell? ⟨b,off+j*5+4,none⟩=some (.int .i64 i.AD):=by rw [BW.out.cell (p:=⟨b,_,none⟩) hb];exact c4
   have HTS:=A3 (show (l.take (j+1)).map (fun i=>(encI i).1)=(l.take j).map (fun i=>(encI i).1)++[(encI i).1] by rw [I2 hx];simp);have hop:=IL.out i (Bj hx);have dl:decide ((j:Int)<(l.length:Int))=true:=by simpa using hlt
   have Kj:=A3 (uU i hop wr (HT.out.below BW.out));obtain⟨ec,er,hec⟩:∃ec er,encI i=(ec,er):=⟨_,_,rfl⟩;rw [hec] at Kj HTS;simp only at Kj HTS;obtain⟨ws,hws⟩:=A8 ((l.take j).map (fun i=>(encI i).1));have hwl:ws.length=j:=by rw [←hws];simp;omega
   rw [hws] at HG HTS;have HWL:=A3 hwl;clear hc c0 c1 c2 c3 c4 hx hi hec hws hwl hop;go_upto_region 6 with (go_at_call 23;refine Kj.out.mono ?_;rintro e Y ⟨rfl,hbY⟩);have Qr:=HG.out.below hbY;obtain⟨cA,Dv,rfl⟩:∃cA Dv,cv=.slice cA ws.length Dv:=by
    rcases Qr.row.2 with⟨h,h'⟩|⟨g,cap',cur,h,_⟩
    ·exact⟨_,_,by rw [h,h']⟩
    ·exact⟨_,_,h⟩
   have i0:Y.cell? ⟨ib,0,none⟩=some (.slice cA ws.length Dv):=by simp [World.cell?,Qr.im]
   have f0:Y.frozen? ⟨ib,0,none⟩=false:=by simp [World.frozen?,Qr.im]
   have HGY:=A3 Qr;have HNb:=A3 (show some ib≠Value.ownBlock (.slice cA ws.length Dv) from fun e'=>by have:=(Qr.row.lt ib e'.symm).1;have:=Qr.ib1;omega);have hiY:ib<Y.heap.size:=by have:=Qr.sz;have:=Qr.ib1;omega
   have hw5:ws.length≤1000:=by have:=HWL.out;omega
   clear Qr hbY Kj x0 x1 x2 x3 x4;go_upto_region 4 with (at_builtin;refine Lx _ rfl (.tmp 27) (.tmp 29) 22 rfl V.heap.size 70 iW (.int .u32 0) 1 4 Tryz.underlying22 hiW hW0 hW1 hW2 rfl AP (.slice cA ws.length Dv) _ _ rfl (HGY.out.row.alloc _) ⟨Y.heap.size,0,none⟩ 1 1 [.int .u32 ec] rfl rfl (Du _ _ _) Bd CJ A0 I7 ?_;intro v' W' hown' hgrow _ DY;obtain⟨g',cap',rfl⟩:=Mp hown';have hc1:=hgrow.cell (a:=⟨ib,0,none⟩) (v:=.slice cA ws.length Dv) Ga HNb.out;have hf1:W'.frozen? ⟨ib,0,none⟩=false:=(Oe (hgrow.block ib CD HNb.out)).trans Ga);have HA:=A3 (HGY.out.app (x:=ec) ((AV Y.heap.size Y).alloc (AH _) _) hgrow (by simpa [SE] using hown'));clear hc1 hf1 DY hgrow hown' i0 f0 HGY HNb;go_wp2_with fail;go_roundw;case rel=>
    refine⟨j+1,.slice (some ⟨g',0,none⟩) (ws.length+1) cap',by omega,by go_num,?_⟩;rw [HTS.out];exact HA.out
   case measure=>exact Ai
  ·obtain rfl:j=l.length:=by omega
   have dl:decide ((l.length:Int)<(l.length:Int))=false:=by simp
   rw [Gx] at HG;have hwl:(l.map fun i=>(encI i).1).length=l.length:=by simp
   have hrw:=HG.out.row;rw [hwl] at hrw;obtain⟨cA,Dv,rfl⟩:∃cA Dv,cv=.slice cA l.length Dv:=by
    rcases hrw.2 with⟨h,h'⟩|⟨g,cap',cur,h,_⟩
    ·exact⟨_,_,by rw [h,h']⟩
    ·exact⟨_,_,h⟩
   have i0:wr.cell? ⟨ib,0,none⟩=some (.slice cA l.length Dv):=by simp [World.cell?,HG.out.im]
   have i1:wr.cell? ⟨ib,1,none⟩=some (.slice (some ⟨eb,0,none⟩) 1 1):=by simp [World.cell?,HG.out.im]
   have i2:wr.cell? ⟨ib,2,none⟩=some (.int .i64 0):=by simp [World.cell?,HG.out.im]
   have i3:wr.cell? ⟨ib,3,none⟩=some (.int .i64 0):=by simp [World.cell?,HG.out.im]
   have kr:=(HG.out.blk w.heap.size A0 A0).trans KR.out;have ke:=(HG.out.blk eb A0 A0).trans KE.out;have r0:wr.cell? ⟨w.heap.size,0,none⟩=some (.slice none 0 0):=by simp [World.cell?,kr]
   have r1:wr.cell? ⟨w.heap.size,1,none⟩=some (.slice none 0 0):=by simp [World.cell?,kr]
   have r2:wr.cell? ⟨w.heap.size,2,none⟩=some (.int .i64 0):=by simp [World.cell?,kr]
   have r3:wr.cell? ⟨w.heap.size,3,none⟩=some (.int .i64 0):=by simp [World.cell?,kr]
   have f0:wr.frozen? ⟨w.heap.size,0,none⟩=false:=by simp [World.frozen?,kr]
   have f1:wr.frozen? ⟨w.heap.size,1,none⟩=false:=by simp [World.frozen?,kr]
   have f2:wr.frozen? ⟨w.heap.size,2,none⟩=false:=by simp [World.frozen?,kr]
   have f3:wr.frozen? ⟨w.heap.size,3,none⟩=false:=by simp [World.frozen?,kr]
   have⟨HRW,KE2⟩:=AQ hrw ke;clear hrw kr ke hwl;go_wp2_with fail;refine Af (v:=.agg #[.slice cA l.length Dv,.slice (some ⟨eb,0,none⟩) 1 1,.int .i64 0,.int .i64 0]) (by simp [results,Tryz.results29,go_sem, *]) rfl ⟨⟨_,_,_,_,rfl,rfl,?_,?_⟩,?_⟩
   ·refine ownsRow_base (base:=V.heap.size) ?_ A0
    have hne:∀q,(Value.slice cA l.length Dv).ownBlock=some q→q≠w.heap.size:=fun q hq=>by have:=(HRW.out.lt q hq).1;omega
    refine PW (PW (PW (PW HRW.out ?_ _) ?_ _) ?_ _) ?_ _<;>exact fun e=>hne _ e rfl
   ·refine⟨fun e he=>by simp at he;subst he;show Li.size≤maxLen;unfold maxLen;decide,_,1,rfl,AH _,by unfold maxLen;omega,fun _=>⟨eb,0,rfl,by simp;omega,fun i x hx=>?_⟩⟩
    obtain⟨rfl,rfl⟩:i=0∧x=⟨Li,0,l.length,0⟩:=by
     cases i with
     | zero=>simp at hx;exact⟨rfl,hx.symm⟩
     | succ i=>simp at hx
    have hb:((((wr.setCell ⟨w.heap.size,0,none⟩ (.slice cA l.length Dv)).setCell ⟨w.heap.size,1,none⟩ (.slice (some ⟨eb,0,none⟩) 1 1)).setCell ⟨w.heap.size,2,none⟩ (.int .i64 0)).setCell ⟨w.heap.size,3,none⟩ (.int .i64 0)).heap[eb]?=wr.heap[eb]?:=by
     have:eb≠w.heap.size:=by omega
     rw [Bb _ _ _ _ this,Bb _ _ _ _ this,Bb _ _ _ _ this,Bb _ _ _ _ this]
    have hb2:=hb.trans KE2.out;refine⟨?_,?_,?_,?_⟩<;>simp [World.cell?,hb2,Li]
   ·refine CY (CY (CY (CY BW.out ?_ _) ?_ _) ?_ _) ?_ _<;>exact AH _
section
def jA (nx:Nat→List Nat) (ord:List Nat) (a b:Nat):Prop:=a=b∨a∈ord∧Dom nx a b
structure Imm (n:Nat) (nx:Nat→List Nat) (ord:List Nat) (b a:Nat):Prop where
 b0:0<b
 hb:b∈ord
 ne:a≠b
 ha:a∈ord
 dom:jA nx ord a b
 all:∀c,c<n→c≠b→c≠a→c∈ord→jA nx ord c b→jA nx ord c a
section
variable {n:Nat} {nx:Nat→List Nat} {ord:List Nat} {pos:Nat→Nat} {D:List Int}
theorem JL.AD (g:Gr n nx ord pos) (t:JL n nx ord pos D) {b a:Nat} (e:D.getD b (-1)=(a:Int)) (x:Nat):Imm n nx ord b x↔x=a:=by
 have hu:=t.ti.up b a e;have hab:a≠b:=fun h=>by have:=hu.2.2.1;rw [h] at this;omega
 have hA:Ae D b a:=.up e (.self a);have hD:Dom nx a b:=(t.ex b hu.1 a).1 hA;constructor
 ·intro h
  have hx:Ae D b x:=(t.ex b hu.1 x).2 (by
   rcases h.dom with h1|h1
   ·exact absurd h1 h.ne
   ·exact h1.2)
  rcases (Ae.step e).1 hx with h1|h1
  ·exact absurd h1 h.ne
  ·by_cases Hv:x=a
   ·exact Hv
   ·rcases h.all a (g.lt a hu.2.1) hab (ED Hv) hu.2.1 (.inr ⟨hu.2.1,hD⟩) with h2|h2
    ·exact h2.symm
    ·have h3:=(t.ex x h.ha a).2 h2.2
     have h4:=t.ti.le h3;have h5:=(t.ti.OZ h1).2.2.2 (ED Hv);omega
 ·rintro rfl
  refine⟨?_,hu.1,hab,hu.2.1,.inr ⟨hu.2.1,hD⟩,fun c hc h1 h2 h3 h4=>?_⟩
  ·rcases UC b with h|h
   ·subst h
    rw [t.ti.z] at e;omega
   ·exact h
  ·rcases h4 with h4|h4
   ·exact absurd h4 h1
   ·have h5:=(t.ex b hu.1 c).2 h4.2
    rcases (Ae.step e).1 h5 with h6|h6
    ·exact absurd h6 h1
    ·exact .inr ⟨h3,(t.ex x hu.2.1 c).1 h6⟩
theorem JL.none (t:JL n nx ord pos D) {b:Nat} (e:D.getD b (-1) = -1) (x:Nat):¬Imm n nx ord b x:=by
 intro h;rcases t.all b h.hb with h1|h1
 ·have:=h.b0;omega
 ·omega
theorem JL.case (t:JL n nx ord pos D) (b:Nat):D.getD b (-1) = -1∨∃a:Nat,D.getD b (-1)=(a:Int):=by
 have:=t.ti.ge b;by_cases h:D.getD b (-1) = -1
 ·exact .inl h
 ·exact .inr ⟨(D.getD b (-1)).toNat,by omega⟩
end
def RA (nx:Nat→List Nat) (s:Int) (x:Nat):Prop:=∃l,Path nx x l∧∀z∈l,(z:Int)≠s
theorem RA.zero {nx:Nat→List Nat} {s:Int} (h:s≠0):RA nx s 0:=⟨[0],.nil,fun z hz=>by
 obtain rfl:z=0:=by simpa using hz
 exact ED h⟩
theorem RA.step {nx:Nat→List Nat} {s:Int} {x y:Nat} (h:RA nx s x) (hy:y∈nx x) (hs:(y:Int)≠s):RA nx s y:=by
 obtain⟨l,h1,h2⟩:=h;exact⟨y :: l,.step h1 hy,fun z hz=>by
  rcases Da.1 hz with rfl|hz
  ·exact hs
  ·exact h2 z hz⟩
theorem RA.no {nx:Nat→List Nat} {x:Nat}:¬RA nx 0 x:=fun ⟨l,h1,h2⟩=>h2 0 h1.zero rfl
theorem RA.all {n:Nat} {nx:Nat→List Nat} {ord:List Nat} {pos:Nat→Nat} (g:Gr n nx ord pos) {x:Nat}:RA nx (-1) x↔x∈ord:=
 ⟨fun ⟨l,h1,_⟩=>(g.mem h1).1,fun h=>by
  obtain⟨l,hl⟩:=g.path h
  exact⟨l,hl,fun z _=>by omega⟩⟩
theorem RA.dom {nx:Nat→List Nat} {a b:Nat}:¬RA nx (a:Int) b↔Dom nx a b:=by
 constructor
 ·intro h l hl
  by_cases ha:a∈l
  ·exact ha
  ·refine absurd (⟨l,hl,fun z hz e=>ha ?_⟩:RA nx (a:Int) b) h
   have:z=a:=by omega
   rwa [this] at hz
 ·rintro h ⟨l,hl,hs⟩
  exact hs a (h l hl) rfl
structure Rnd (nx:Nat→List Nat) (s:Int) (r:Nat) (S:Nat→Prop):Prop where
 only:∀x,S x→RA nx s x
 has:∀x l,Path nx x l→(∀z∈l,(z:Int)≠s)→l.length≤r+1→S x
theorem Rnd.done {n:Nat} {nx:Nat→List Nat} {s:Int} {S:Nat→Prop} (h:Rnd nx s n S) (hlt:∀x l,Path nx x l→∀z∈l,z<n) (x:Nat):S x↔RA nx s x:=by
 refine⟨h.only x,?_⟩;rintro⟨l,h1,h2⟩;obtain⟨l',h3,h4,h5⟩:=h1.simple;have:=Pz h4 (hlt x l' h3);exact h.has x l' h3 (fun z hz=>h2 z (h5 z hz)) A0
structure UT (nx:Nat→List Nat) (s:Int) (r:Nat) (Pr:Nat→Prop) (S:Nat→Prop):Prop where
 rnd:Rnd nx s r S
 cl:∀x l,Path nx x l→(∀z∈l,(z:Int)≠s)→l.length≤r+1→Pr x→∀y∈nx x,(y:Int)≠s→S y
theorem UT.start {nx:Nat→List Nat} {s:Int} {r:Nat} {S:Nat→Prop} (h:Rnd nx s r S):UT nx s r (fun _=>False) S:=⟨h,fun _ _ _ _ _ h=>h.elim⟩
theorem UT.done {nx:Nat→List Nat} {s:Int} {r:Nat} {S Pr:Nat→Prop} (h:UT nx s r Pr S) (hp:∀x l,Path nx x l→Pr x):Rnd nx s (r+1) S:=by
 refine⟨h.rnd.only,fun x l hl hs hn=>?_⟩;cases hl with
 | nil=>exact h.rnd.has 0 [0] .nil hs AR
 | @step p _ l h1 h2=>
  have h3:∀z∈l,(z:Int)≠s:=fun z hz=>hs z (Fu _ hz);exact h.cl p l h1 h3 (by simpa using hn) (hp p l h1) x h2 (hs x Lf)
theorem UT.next {nx:Nat→List Nat} {s:Int} {r:Nat} {S S' Pr Pr':Nat→Prop} (h:UT nx s r Pr S) (hg:∀x,S x→S' x) (ho:∀x,S' x→RA nx s x) (hi:∀x,Pr' x→Pr x∨(S x→∀y∈nx x,(y:Int)≠s→S' y)):UT nx s r Pr' S':=by
 refine⟨⟨ho,fun x l h1 h2 h3=>hg x (h.rnd.has x l h1 h2 h3)⟩,fun x l h1 h2 h3 h4 y hy h5=>?_⟩;rcases hi x h4 with h6|h6
 ·exact hg y (h.cl x l h1 h2 h3 h6 y hy h5)
 ·exact h6 (h.rnd.has x l h1 h2 h3) y hy h5
section
variable {nx:Nat→List Nat} {inb:Nat→Bool} {hd b:Nat}
end
end
def Rq:List Ins:=[⟨14,10,0,0,0⟩,⟨25,10,0,0,4⟩,⟨15,10,10,0,1⟩,⟨15,5,10,0,-4⟩,⟨23,5,0,0,-4⟩,⟨1,0,0,0,0⟩]
def bsC:List Int:=Rq.map fun i=>(encI i).1
def Al (i:Nat):Int:=bsC.getD i 0
theorem arh:∀x∈bsC,0≤x∧x<4294967296:=by decide +kernel
theorem bs0:Ba (Al 0)=(⟨14,10,0,0,0⟩,0):=by decide +kernel
theorem bs1:Ba (Al 1)=(⟨25,10,0,0,4⟩,0):=by decide +kernel
theorem bs2:Ba (Al 2)=(⟨15,10,10,0,1⟩,0):=by decide +kernel
theorem bs3:Ba (Al 3)=(⟨15,5,10,0,-4⟩,0):=by decide +kernel
theorem bs4:Ba (Al 4)=(⟨23,5,0,0,-4⟩,0):=by decide +kernel
theorem bs5:Ba (Al 5)=(⟨1,0,0,0,0⟩,0):=by decide +kernel
theorem cZ:AK Al 0=⟨14,10,0,0,0⟩:=by show (Ba (Al 0)).1=_;rw [bs0]
theorem cg:AK Al 1=⟨25,10,0,0,4⟩:=by show (Ba (Al 1)).1=_;rw [bs1]
theorem dM:AK Al 2=⟨15,10,10,0,1⟩:=by show (Ba (Al 2)).1=_;rw [bs2]
theorem Zj:AK Al 3=⟨15,5,10,0,-4⟩:=by show (Ba (Al 3)).1=_;rw [bs3]
theorem cU:AK Al 4=⟨23,5,0,0,-4⟩:=by show (Ba (Al 4)).1=_;rw [bs4]
theorem aa:AK Al 5=⟨1,0,0,0,0⟩:=by show (Ba (Al 5)).1=_;rw [bs5]
theorem abl:Q6 6 Al [⟨Li,0,6,0⟩] 0 0:=by
 refine⟨by omega,by simp,by omega,by omega,by simp,fun e he=>?_,⟨rfl,by simp,rfl⟩,fun e he k h1 h2=>?_⟩
 ·simp at he;subst he
  show 1≤Li.size∧Li.size≤12;decide
 ·simp at he;subst he
  simp only at h1 h2;obtain rfl|rfl|rfl|rfl|rfl|rfl:k=0∨k=1∨k=2∨k=3∨k=4∨k=5:=by omega
  ·refine⟨by show (Ba (Al 0)).2=0;rw [bs0],fun h=>?_,fun h=>?_⟩
   ·have:Cg (AK Al 0).op=true:=h
    rw [cZ] at this;simp [Cg] at this
   ·have:(AK Al 0).op=28∨(AK Al 0).op=29:=h
    rw [cZ] at this;simp at this
  ·refine⟨by show (Ba (Al 1)).2=0;rw [bs1],fun h=>?_,fun h=>?_⟩
   ·have:Cg (AK Al 1).op=true:=h
    rw [cg] at this;simp [Cg] at this
   ·have:(AK Al 1).op=28∨(AK Al 1).op=29:=h
    rw [cg] at this;simp at this
  ·refine⟨by show (Ba (Al 2)).2=0;rw [bs2],fun h=>?_,fun h=>?_⟩
   ·have:Cg (AK Al 2).op=true:=h
    rw [dM] at this;simp [Cg] at this
   ·have:(AK Al 2).op=28∨(AK Al 2).op=29:=h
    rw [dM] at this;simp at this
  ·refine⟨by show (Ba (Al 3)).2=0;rw [bs3],fun h=>?_,fun h=>?_⟩
   ·have:Cg (AK Al 3).op=true:=h
    rw [Zj] at this;simp [Cg] at this
   ·have:(AK Al 3).op=28∨(AK Al 3).op=29:=h
    rw [Zj] at this;simp at this
  ·refine⟨by show (Ba (Al 4)).2=0;rw [bs4],fun h=>?_,fun h=>?_⟩
   ·show (0:Int)≤4+1+(AK Al 4).AD∧4+1+(AK Al 4).AD<6
    rw [cU];decide
   ·have:(AK Al 4).op=28∨(AK Al 4).op=29:=h
    rw [cU] at this;simp at this
  ·refine⟨by show (Ba (Al 5)).2=0;rw [bs5],fun h=>?_,fun h=>?_⟩
   ·have:Cg (AK Al 5).op=true:=h
    rw [aa] at this;simp [Cg] at this
   ·have:(AK Al 5).op=28∨(AK Al 5).op=29:=h
    rw [aa] at this;simp at this
theorem vN:CN (AK Al 0) 0=[1]:=by rw [cZ];decide
theorem vU:CN (AK Al 1) 1=[2]:=by rw [cg];decide
theorem vO:CN (AK Al 2) 2=[3]:=by rw [dM];decide
theorem pX:CN (AK Al 3) 3=[4]:=by rw [Zj];decide
theorem tF:CN (AK Al 4) 4=[5,1]:=by rw [cU];decide
theorem zU:CN (AK Al 5) 5=[]:=by rw [aa];decide
theorem j9 (x:Int):Ek (AK Al) 0 6 x↔x∈[(0:Int),1,2,3,4,5]:=by
 constructor
 ·intro h
  have:=h.range _ _ _ A0;simp;omega
 ·intro h
  have r0:Ek (AK Al) 0 6 0:=Ek.start;have r1:Ek (AK Al) 0 6 1:=Ek.step r0 (by rw [vN];simp) A0 A0;have r2:Ek (AK Al) 0 6 2:=Ek.step r1 (by rw [vU];simp) A0 A0;have r3:Ek (AK Al) 0 6 3:=Ek.step r2 (by rw [vO];simp) A0 A0;have r4:Ek (AK Al) 0 6 4:=Ek.step r3 (by rw [pX];simp) A0 A0;have r5:Ek (AK Al) 0 6 5:=Ek.step r4 (by rw [tF];simp) A0 A0;simp at h;rcases h with rfl|rfl|rfl|rfl|rfl|rfl
  ·exact r0
  ·exact r1
  ·exact r2
  ·exact r3
  ·exact r4
  ·exact r5
theorem nk (x:Int) (h:x∈[(0:Int),1,2,3,4,5]):¬NP (AK Al) 0 6 x:=by
 rintro⟨t,ht,hn⟩;simp at h;rcases h with rfl|rfl|rfl|rfl|rfl|rfl
 ·rw [vN] at ht;simp at ht;omega
 ·rw [vU] at ht;simp at ht;omega
 ·rw [vO] at ht;simp at ht;omega
 ·rw [pX] at ht;simp at ht;omega
 ·rw [tF] at ht;simp at ht;omega
 ·rw [zU] at ht;simp at ht
def bsB:List (Int×Int):=[(0,1),(1,5),(5,6)]
theorem pH:blk (AK Al) 0 [0,1,2,3,4,5] 6=bsB:=by decide +kernel
def Ap:List AU:=[⟨0,1,[1]⟩,⟨1,5,[2,1]⟩,⟨5,6,[]⟩]
def JI:List (List Int):=[[],[0,1],[1]]
theorem uq:BP (AK Al) bsB=Ap:=by decide +kernel
theorem qd:Jc (AK Al) bsB=JI:=by decide +kernel
theorem mO:Dm Ap JI:=by
 refine⟨by simp [Ap],rfl,⟨6,⟨by simp,by simp,by simp,by simp [Ap],by simp [Ap]⟩,⟨by simp,by simp,by simp,by simp [Ap],by simp [Ap]⟩,⟨by simp,by simp,by simp,by simp [Ap],by simp [Ap]⟩,rfl⟩,by decide⟩
theorem ym {r:Res} (h:Out (AK Al) 0 6 r):r=⟨Ap,JI,-1,0⟩:=by
 cases h with
 | bad D bad hb hR=>
  rcases hR.b with h|h
  ·omega
  ·exact absurd h.2.1 (nk _ ((j9 _).1 (hR.dr _ h.1)))
 | ok D hR=>
  have hm:∀x,x∈D↔x∈[(0:Int),1,2,3,4,5]:=fun x=>(hR.mem AR x).trans (j9 x);rw [show ((6:Int) - 0).toNat=6 from rfl,l7 _ _ hm,pH,uq,qd]
def Lh:List AB:=[⟨[⟨14,10,0,0,0⟩],[1]⟩,⟨[⟨25,10,0,0,4⟩,⟨15,10,10,0,1⟩,⟨15,5,10,0,-4⟩,⟨23,5,0,0,-4⟩],[2,1]⟩,⟨[⟨1,0,0,0,0⟩],[]⟩]
def Oa (h:Int):RG:=(Aj.set 5 (-3,0)).set 10 (0,h)
def bsQ:RG:=Aj.set 10 (1,4)
theorem mN:D5 Lh (EI 3) 3=(⟨[true,true,false],[Aj,Oa 1,Aj],[0,1,0]⟩,true):=by kernel_rfl
theorem vK:D5 Lh (⟨[true,true,false],[Aj,Oa 1,Aj],[0,1,0]⟩) 3=(⟨[true,true,false],[Aj,Oa 2,Aj],[0,2,0]⟩,true):=by kernel_rfl
theorem sG:D5 Lh (⟨[true,true,false],[Aj,Oa 2,Aj],[0,2,0]⟩) 3=(⟨[true,true,false],[Aj,Oa 2147483647,Aj],[0,3,0]⟩,true):=by kernel_rfl
theorem tQ:D5 Lh (⟨[true,true,false],[Aj,Oa 2147483647,Aj],[0,3,0]⟩) 3=(⟨[true,true,true],[Aj,Oa 2147483647,bsQ],[0,3,0]⟩,true):=by kernel_rfl
def PX:AS:=⟨[true,true,true],[Aj,Oa 2147483647,bsQ],[0,3,0]⟩
theorem qN:D5 Lh PX 3=(PX,false):=by kernel_rfl
theorem zA:Ends Lh (EI 3) PX:=by
 have hl:Lh.length=3:=rfl;have e4:Ends Lh PX PX:=by
  have:=Ends.done (B:=Lh) (s:=PX) (by rw [hl,qN])
  rwa [hl,qN] at this
 have e3:Ends Lh (⟨[true,true,false],[Aj,Oa 2147483647,Aj],[0,3,0]⟩) PX:=Ends.more (by rw [hl,tQ]) (by rw [hl,tQ];exact e4);have e2:Ends Lh (⟨[true,true,false],[Aj,Oa 2,Aj],[0,2,0]⟩) PX:=Ends.more (by rw [hl,sG]) (by rw [hl,sG];exact e3);have e1:Ends Lh (⟨[true,true,false],[Aj,Oa 1,Aj],[0,1,0]⟩) PX:=Ends.more (by rw [hl,vK]) (by rw [hl,vK];exact e2);exact Ends.more (by rw [hl,mN]) (by rw [hl,mN];exact e1)
theorem rQ:BR Al Ap=Lh:=by
 have h0:codeFrom Al 0 1=[⟨14,10,0,0,0⟩]:=by
  show [AK Al (0+0)]=_;rw [show ((0:Int)+0)=0 by omega,cZ]
 have h1:codeFrom Al 1 4=[⟨25,10,0,0,4⟩,⟨15,10,10,0,1⟩,⟨15,5,10,0,-4⟩,⟨23,5,0,0,-4⟩]:=by
  show [AK Al (1+0),AK Al (1+1),AK Al (1+2),AK Al (1+3)]=_;rw [show ((1:Int)+0)=1 by omega,show ((1:Int)+1)=2 by omega,show ((1:Int)+2)=3 by omega,show ((1:Int)+3)=4 by omega,cg,dM,Zj,cU]
 have h2:codeFrom Al 5 1=[⟨1,0,0,0,0⟩]:=by
  show [AK Al (5+0)]=_;rw [show ((5:Int)+0)=5 by omega,aa]
 show [AB.mk (codeFrom Al 0 1) [1],AB.mk (codeFrom Al 1 4) [2,1],AB.mk (codeFrom Al 5 1) []]=Lh;rw [h0,h1,h2];rfl
theorem apa {s:AS} (h:Ends (BR Al Ap) (EI Ap.length) s):s=PX:=by
 rw [rQ] at h;exact Ends.RP h zA
theorem aeH:C6 3 (Aa Ap)=[0,1,2]:=by decide +kernel
theorem nD:Cw 3 (Aa Ap) 0=0:=by decide +kernel
theorem Zv:Cw 3 (Aa Ap) 1=1:=by decide +kernel
theorem rU:Cw 3 (Aa Ap) 2=2:=by decide +kernel
theorem p8:CP Ap 3 []=[(0,1),(1,2),(1,1)]:=by decide +kernel
theorem uo:Ty Ap:=by
 intro b hb;have hb:b<3:=hb;show b∈C6 3 (Aa Ap);rw [aeH];simp;omega
theorem aaB (D:List Int):LY (C6 Ap.length (Aa Ap)) (Cw Ap.length (Aa Ap)) D (CP Ap Ap.length []):=by
 show LY (C6 3 (Aa Ap)) (Cw 3 (Aa Ap)) D (CP Ap 3 []);rw [p8];intro e he;simp only [Da,WS,SL] at he;rcases he with rfl|rfl|rfl
 ·intro _ h
  have h:Cw 3 (Aa Ap) 1≤Cw 3 (Aa Ap) 0:=h;rw [nD,Zv] at h;omega
 ·intro _ h
  have h:Cw 3 (Aa Ap) 2≤Cw 3 (Aa Ap) 1:=h;rw [Zv,rU] at h;omega
 ·intro _ _
  exact .self 1
theorem kA:Dz (C6 3 (Aa Ap)) (Cw 3 (Aa Ap)) (CP Ap 3 []) 1=[1]:=by decide +kernel
theorem au1 (x:Nat) (h:Dz (C6 3 (Aa Ap)) (Cw 3 (Aa Ap)) (CP Ap 3 []) x≠[]):x=1:=by
 rw [p8] at h;by_cases e:x=1
 ·exact e
 ·refine absurd ?_ h
  unfold Dz;rw [List.map_eq_nil_iff,List.filter_eq_nil_iff];intro p hp;simp only [Da,WS,SL] at hp;rcases hp with rfl|rfl|rfl
  ·have:=nD;have:=Zv
   simp;omega
  ·have:=Zv;have:=rU
   simp;omega
  ·simp;omega
theorem vW {l:List Int} (h:l.Pairwise (· < ·)) (hm:∀x,x∈l↔x=1):l=[1]:=by
 cases l with
 | nil=>exact absurd ((hm 1).2 rfl) AR
 | cons a l=>
  obtain rfl:=(hm a).1 AR;cases l with
  | nil=>rfl
  | cons b l=>
   obtain rfl:=(hm b).1 AR;simp at h
theorem xL {D:List Int} {L:List Lp} (h:Hy JI (C6 Ap.length (Aa Ap)) (Cw Ap.length (Aa Ap)) (CP Ap Ap.length []) D L):L=[⟨1,[1],[1]⟩]:=by
 have h1:L.map (·.h)=[1]:=vW h.Ry fun x=>by
  rw [h.mem];show 0≤x∧Dz (C6 3 (Aa Ap)) (Cw 3 (Aa Ap)) (CP Ap 3 []) x.toNat≠[]↔x=1;constructor
  ·rintro⟨a,b⟩
   have:=au1 _ b;omega
  ·rintro rfl
   refine⟨by omega,?_⟩;rw [show (1:Int).toNat=1 from rfl,kA];simp
 obtain⟨x,rfl⟩:∃x,L=[x]:=by
  cases L with
  | nil=>simp at h1
  | cons x M=>
   cases M with
   | nil=>exact⟨x,rfl⟩
   | cons y M=>simp at h1
 ·obtain⟨xh,xb,xl⟩:=x
  obtain rfl:xh=1:=by simpa using h1
  obtain⟨h2,h3⟩:=h.each ⟨1,xb,xl⟩ AR;have h2:xl=Bg (Dz (C6 3 (Aa Ap)) (Cw 3 (Aa Ap)) (CP Ap 3 []) 1):=h2;rw [kA] at h2;have h4:XL (Ck JI) (·∈C6 3 (Aa Ap)) 1 (Dz (C6 3 (Aa Ap)) (Cw 3 (Aa Ap)) (CP Ap 3 []) 1) xb:=h3;rw [kA] at h4;have h5:xb=[1]:=vW h4.Ry fun x=>by
   rw [h4.mem];constructor
   ·rintro⟨a,b⟩
    have key:∀y,Ic (Ck JI) (·∈C6 3 (Aa Ap)) 1 [1] y→y=1:=fun y hy=>by
     induction hy with
     | hd=>rfl
     | lt h _=>simpa using h
     | up _ h1 _ _ ih=>exact absurd ih h1
    have:=key _ b;omega
   ·rintro rfl
    exact⟨by omega,.hd⟩
  rw [h2,h5];rfl
def Fl:Lp:=⟨1,[1],[1]⟩
theorem wM:KF Al Ap=[[⟨14,10,0,0,0⟩],[⟨25,10,0,0,4⟩,⟨15,10,10,0,1⟩,⟨15,5,10,0,-4⟩,⟨23,5,0,0,-4⟩],[⟨1,0,0,0,0⟩]]:=by
 have h:=congrArg (List.map AB.code) rQ;exact h
theorem xw:Fz Al Ap=[true,true,false]∨Fz Al Ap=[false,true,false]:=by
 unfold Fz;rw [wM];decide
theorem aeb:Vg Al Ap Fl=[false,true,false]:=by
 have hr:(Fz Al Ap).getD 1 false=true:=by
  rcases xw with h|h<;>rw [h]<;>rfl
 have h1:pB Ap (Fz Al Ap) (O9 Ap) 1 [1] [1] 3 1=true:=TC.2 ⟨by omega,⟨by simp,hr,fun l hl=>by
  obtain rfl:l=1:=by simpa using hl
  exact .self 1,fun h=>h.1 rfl⟩⟩
 have h0:∀b,b≠1→pB Ap (Fz Al Ap) (O9 Ap) 1 [1] [1] 3 b=false:=fun b hb=>by
  cases e:pB Ap (Fz Al Ap) (O9 Ap) 1 [1] [1] 3 b with
  | false=>rfl
  | true=>
   have:=(TC.1 e).2.1;simp at this;omega
 show (List.range 3).map (pB Ap (Fz Al Ap) (O9 Ap) 1 [1] [1] 3)=_;show [pB Ap (Fz Al Ap) (O9 Ap) 1 [1] [1] 3 0,pB Ap (Fz Al Ap) (O9 Ap) 1 [1] [1] 3 1,pB Ap (Fz Al Ap) (O9 Ap) 1 [1] [1] 3 2]=_;rw [h1,h0 0 A0,h0 2 A0]
theorem aG (r:Int):Eb Al Ap Fl r=Mg r (Df r [false,true,false] [false,true,false] [[⟨14,10,0,0,0⟩],[⟨25,10,0,0,4⟩,⟨15,10,10,0,1⟩,⟨15,5,10,0,-4⟩,⟨23,5,0,0,-4⟩],[⟨1,0,0,0,0⟩]] 3):=by
 unfold Eb;rw [aeb,wM];rfl
theorem qO:Eb Al Ap Fl 10=(4,true):=by rw [aG];decide +kernel
theorem xM:Eb Al Ap Fl 11=(0,false):=by rw [aG];decide +kernel
theorem aqO:Eb Al Ap Fl 12=(0,false):=by rw [aG];decide +kernel
theorem ak5:Eb Al Ap Fl 13=(0,false):=by rw [aG];decide +kernel
theorem aqG:Fk Al Ap [true,true,true] [Fl] []=.inl [4]:=by
 have h:Ii Al Ap [true,true,true] Fl=(4,true):=by
  unfold Ii;rw [A9 (by rfl)];show FA (FA (FA (FA (0,false) (Eb Al Ap Fl 10)) (Eb Al Ap Fl 11)) (Eb Al Ap Fl 12)) (Eb Al Ap Fl 13)=_;rw [qO,xM,aqO,ak5];decide
 unfold Fk;rw [h];rfl
theorem sD:Mx 6 Al Ap:=by
 have key:∀a:Nat,a<6→a<6∧(Ba (Al a)).2=0:=fun a ha=>by
  obtain rfl|rfl|rfl|rfl|rfl|rfl:a=0∨a=1∨a=2∨a=3∨a=4∨a=5:=by omega
  ·exact⟨by omega,by rw [bs0]⟩
  ·exact⟨by omega,by rw [bs1]⟩
  ·exact⟨by omega,by rw [bs2]⟩
  ·exact⟨by omega,by rw [bs3]⟩
  ·exact⟨by omega,by rw [bs4]⟩
  ·exact⟨by omega,by rw [bs5]⟩
 intro x hx a h1 h2;simp only [Ap,Da,WS,SL] at hx;rcases hx with rfl|rfl|rfl
 ·exact key a (by simp only at h2;omega)
 ·exact key a (by simp only at h2;omega)
 ·exact key a (by simp only at h2;omega)
theorem oY:Kq Ap.length Fl=true:=by decide
theorem asK:Oq (H6 6 Al Ap JI Fl) Kc=(10,4,true):=by
 have h:H6 6 Al Ap JI Fl 10=(4,true):=by
  unfold H6;rw [A9 ⟨mO,sD,oY⟩,qO]
 show (if (H6 6 Al Ap JI Fl 10).2=true then (10,(H6 6 Al Ap JI Fl 10).1,true) else Oq (H6 6 Al Ap JI Fl) [11,12,13])=_;rw [h];rfl
section
theorem Pj.j6 {w w':World} {v:Value} {n:Nat} {cd:Nat→Int} (h:Pj w v n cd) (hb:Below w.heap.size w w'):Pj w' v n cd:=by
 obtain⟨A,cap,h1,h2,h3,h4⟩:=h.at_;refine⟨h.wd,A,cap,h1,h2,h3,fun h0=>?_⟩;obtain⟨b,off,ha,hlt,hc⟩:=h4 h0;exact⟨b,off,ha,by have:=hb.size;omega,fun i hi=>(hb.cell (p:=⟨b,off+i,none⟩) hlt).trans (hc i hi)⟩
section
variable {w w':World} {q B:Nat} {T:TypeId} (hk:w.heap[q]?=some (.cells #[.slice none 0 0,.slice none 0 0] T (0,0))) (hw:∀p,p≠q→w'.heap[p]?=w.heap[p]?) (hs:w.heap.size≤w'.heap.size) (hqB:q<B)
include hk hw hs
include hqB
end
theorem Dg.mem {n:Nat}:∀ {l:List AU} {a z:Int},Dg n a l z→∀x∈l,∃e,Ra n e x
 | [],a,z,_,x,hx=>by cases hx
 | y :: l,a,z,h,x,hx=>by
  rcases Da.1 hx with rfl|hx
  ·exact⟨a,h.1⟩
  ·exact Dg.mem h.2 x hx
structure Grf (w:World) (cv bv pv:Value) (n:Nat) (cd:Nat→Int) (AO:List Bt) (sh lk:Int) (k:Nat) (G:List AU) (P:List (List Int)):Prop where
 wd:Words w cv n cd
 n3:n≤300
 gd:Q6 n cd AO sh lk
 Kg:E7 w bv G
 lls:Dk w pv P
 val:Dm G P
 pos:0<G.length
 len:G.length≤1000
 ok:∀x∈G,M6 n cd G x
 run:∃(en:Bt) (D:List Int) (L:List (Int×Int)),AO[k]?=some en∧De (AK cd) en.st en.en D L∧en.st∈D∧blk (AK cd) en.st D (en.en - en.st).toNat=L∧G=BP (AK cd) L
end
section
structure Pt (w w':World) (S:Nat→Prop):Prop where
 hk:∀q,S q→∀o v,w.cell? ⟨q,o,none⟩=some v→∃A n c,v=.slice A n c
 hw:∀p,¬S p→w'.heap[p]?=w.heap[p]?
 hs:w.heap.size≤w'.heap.size
section
variable {w w':World} {S:Nat→Prop}
theorem Pt.cell (h:Pt w w' S) {b o:Nat} {v:Value} (hc:w.cell? ⟨b,o,none⟩=some v) (hv:∀A n c,v≠.slice A n c):w'.cell? ⟨b,o,none⟩=some v∧¬S b:=by
 have hne:¬S b:=fun hs=>by
  obtain⟨A,n,c,e⟩:=h.hk b hs o v hc;exact hv A n c e
 exact⟨(N3 (h.hw b hne)).trans hc,hne⟩
theorem Pt.at_ (h:Pt w w' S) {b o:Nat} (hb:¬S b):w'.cell? ⟨b,o,none⟩=w.cell? ⟨b,o,none⟩:=N3 (h.hw b hb)
theorem Ints.pt (k:Pt w w' S) {v:Value} {l:List Int} (h:Ints w v l):Ints w' v l:=by
 obtain⟨A,cap,h1,h2,h3,h4⟩:=h;refine⟨A,cap,h1,h2,h3,fun h0=>?_⟩;obtain⟨b,off,ha,hlt,hc⟩:=h4 h0;have hne:=(k.cell (hc 0 h0) AR).2;exact⟨b,off,ha,by have:=k.hs;omega,fun i hi=>(k.at_ hne).trans (hc i hi)⟩
theorem E7.pt (k:Pt w w' S) {v:Value} {G:List AU} (h:E7 w v G):E7 w' v G:=by
 obtain⟨A,cap,h1,h2,h3,h4⟩:=h;refine⟨A,cap,h1,h2,h3,fun h0=>?_⟩;obtain⟨b,off,ha,hlt,hc⟩:=h4 h0;have hne:=(k.cell (hc 0 _ (Ab h0)).1 AR).2;refine⟨b,off,ha,by have:=k.hs;omega,fun i x hx=>?_⟩;obtain⟨c0,c1,nv,c2,c3⟩:=hc i x hx;exact⟨(k.at_ hne).trans c0,(k.at_ hne).trans c1,nv,(k.at_ hne).trans c2,c3.pt k⟩
theorem Dk.pt (k:Pt w w' S) {v:Value} {P:List (List Int)} (h:Dk w v P) (hn:∀p,v.ownBlock=some p→¬S p):Dk w' v P:=by
 obtain⟨A,cap,h1,h2,h3,h4⟩:=h;refine⟨A,cap,h1,h2,h3,fun h0=>?_⟩;obtain⟨b,off,ha,hlt,hc⟩:=h4 h0;have hne:¬S b:=hn b (by rw [h1,ha];rfl);refine⟨b,off,ha,by have:=k.hs;omega,fun i x hx=>?_⟩;obtain⟨nv,c2,c3⟩:=hc i x hx;exact⟨nv,(k.at_ hne).trans c2,c3.pt k⟩
theorem IW.pt (k:Pt w w' S) {v:Value} {L:List Lp} (h:IW w v L):IW w' v L:=by
 obtain⟨A,cap,h1,h2,h3,h4⟩:=h;refine⟨A,cap,h1,h2,h3,fun h0=>?_⟩;obtain⟨b,off,ha,hlt,hc⟩:=h4 h0;have hne:=(k.cell (hc 0 _ (Ab h0)).1 AR).2;refine⟨b,off,ha,by have:=k.hs;omega,fun i x hx=>?_⟩;obtain⟨c0,⟨u,c1,c2⟩,⟨u',c3,c4⟩,p,c5⟩:=hc i x hx;exact⟨(k.at_ hne).trans c0,⟨u,(k.at_ hne).trans c1,c2.pt k⟩,⟨u',(k.at_ hne).trans c3,c4.pt k⟩,p,(k.at_ hne).trans c5⟩
theorem Hq.pt (k:Pt w w' S) {v:Value} {l:List Bool} (h:Hq w v l):Hq w' v l:=by
 obtain⟨A,cap,h1,h2,h3,h4⟩:=h;refine⟨A,cap,h1,h2,h3,fun h0=>?_⟩;obtain⟨b,off,ha,hlt,hc⟩:=h4 h0;have hne:=(k.cell (hc 0 h0) AR).2;exact⟨b,off,ha,by have:=k.hs;omega,fun i hi=>(k.at_ hne).trans (hc i hi)⟩
end
theorem xO {cd:Nat→Int} {G:List AU} {b:AB} (h:b∈BR cd G):∃x∈G,b=⟨codeFrom cd x.lo (x.hi - x.lo).toNat,x.nx⟩:=by
 unfold BR at h;obtain⟨x,hx,e⟩:=C5.1 h;exact⟨x,hx,e.symm⟩
theorem qy {n:Nat} {cd:Nat→Int} {G:List AU} {s:AS} (h0:0<G.length) (hok:∀x∈G,M6 n cd G x) (hE:Ends (BR cd G) (EI G.length) s):Fx G.length s:=by
 have hl:=dZ cd G;have h:=Ends.fx (B:=BR cd G) (fun b hb=>by
  obtain⟨x,hx,rfl⟩:=xO hb;rw [hl]
  exact⟨(hok x hx).abw.f,(hok x hx).abw.nx⟩) hE
 rw [hl] at h;exact h (ao5 h0)
theorem TQ.bls {w:World} {rv iv:Value} {rl:List Bool} {il:List RG} (h:TQ w rv iv rl il):Hq w rv rl∧∃A cap,iv=.slice A il.length cap∧il.length≤cap∧cap≤maxLen:=by
 obtain⟨h1,A,cap,h2,h3,h4,_⟩:=h;exact⟨h1,A,cap,h2,h3,h4⟩
structure DT (n:Nat) (cd:Nat→Int) (AO:List Bt) (sh lk:Int) (k:Nat) (en:Bt) (G:List AU) (P:List (List Int)):Prop where
 he:AO[k]?=some en
 gd:Q6 n cd AO sh lk
 out:Out (AK cd) en.st en.en ⟨G,P,-1,0⟩
section
variable {n:Nat} {cd:Nat→Int} {AO:List Bt} {sh lk:Int} {k:Nat} {en:Bt} {G:List AU} {P:List (List Int)}
theorem DT.range (h:DT n cd AO sh lk k en G P):0≤en.st∧en.st<en.en∧en.en≤(n:Int):=ET.bounds h.gd.ch en (Bj h.he)
theorem DT.inv (h:DT n cd AO sh lk k en G P):∃(D:List Int) (L:List (Int×Int)),Ex (AK cd) en.st en.en D [] (-1)∧L=blk (AK cd) en.st D (en.en - en.st).toNat∧De (AK cd) en.st en.en D L∧en.st∈D∧G=BP (AK cd) L∧P=Jc (AK cd) L:=by
 have hr:=h.range;cases h.out with
 | ok D hR=>
  refine⟨D,_,hR,rfl,De.of hr.1 hr.2.1 hR,?_,rfl,rfl⟩;rcases hR.s with h|h
  ·exact h
  ·cases h
theorem DT.val (h:DT n cd AO sh lk k en G P):Dm G P:=by
 obtain⟨D,L,hR,hL,hG,hst,rfl,rfl⟩:=h.inv;exact hG.valid hst
theorem DT.bP (h:DT n cd AO sh lk k en G P) (hn:G.length≤5000):Ty G:=by
 have hv:=h.val;obtain⟨D,L,hR,hL,hG,hst,rfl,rfl⟩:=h.inv;obtain⟨gr,-⟩:=Nb (Gk.2 hv.ne) (GB.of hv hn).lt;intro b hb;have key:∀i,GR (BP (AK cd) L) i→i∈C6 (BP (AK cd) L).length (Aa (BP (AK cd) L)):=fun i hi=>by
  induction hi with
  | start=>exact gr.zero
  | @step b t x _ hx ht ih=>
   refine gr.closed b ih t ?_;rw [V8 hx];exact C5.2 ⟨(t:Int),ht,by simp⟩
 exact key b (De.reached hL.symm hG hst b hb)
theorem DT.len (h:DT n cd AO sh lk k en G P):G.length≤n:=by
 have hr:=h.range;obtain⟨D,L,hR,hL,hG,hst,rfl,rfl⟩:=h.inv;rw [O8,hL];have:=eG (AK cd) en.st D (en.en - en.st).toNat;omega
theorem DT.in_ (h:DT n cd AO sh lk k en G P):∀x∈G,en.st≤x.lo∧x.lo<x.hi∧x.hi≤en.en:=by
 have hv:=h.val;obtain⟨D,L,hR,hL,hG,hst,rfl,rfl⟩:=h.inv;intro x hx;obtain⟨z,hz⟩:=hv.ok;obtain⟨e,he⟩:=hz.each x hx;unfold BP at hx;obtain⟨j,hj,EE⟩:=C5.1 hx;have hj:=Gp.1 hj;have hLj:L.getD j (0,0)∈L:=by
  rw [List.getD_eq_getElem?_getD,Ab hj];exact CQ hj
 have hlo:=hG.b.lo _ hLj;have e1:x.lo=(L.getD j (0,0)).1:=by rw [←EE]
 have e2:x.hi=(L.getD j (0,0)).2:=by rw [←EE]
 exact⟨by omega,by omega,by omega⟩
theorem DT.MK (h:DT n cd AO sh lk k en G P):Mx n cd G:=by
 intro x hx a h1 h2;have hi:=h.in_ x hx;have hr:=h.range;refine⟨by omega,?_⟩;have:=(h.gd.ins en (Bj h.he) a A0 A0).dec
 rwa [Cu] at this
theorem DT.nx2 (h:DT n cd AO sh lk k en G P):∀x∈G,x.nx.length≤2:=by
 obtain⟨z,hz⟩:=h.val.ok;intro x hx;obtain⟨e,he⟩:=hz.each x hx;exact he.two
theorem DT.gok (h:DT n cd AO sh lk k en G P) (hwd:∀i,i<n→0≤cd i∧cd i<4294967296):∀x∈G,M6 n cd G x:=by
 intro x hx;have hi:=h.in_ x hx;have hr:=h.range;obtain⟨z,hz⟩:=h.val.ok;obtain⟨e,he⟩:=hz.each x hx;have h2:=he.two;refine⟨by omega,by omega,by omega,he.nx,fun a h3 h4=>?_⟩;have hc:=h.MK x hx a h3 h4;refine⟨hc.1,hc.2,?_⟩;obtain⟨q,hq,_⟩:=UU (hwd a hc.1).1 hc.2;have h5:=hq.op;unfold AK;rw [Cu];omega
theorem DT.same {P':List (List Int)} {G':List AU} (h:DT n cd AO sh lk k en G P) (h':Out (AK cd) en.st en.en ⟨G',P',-1,0⟩):G'=G∧P'=P:=by
 have hr:=h.range;have e:=Out.same hr.1 hr.2.1 (fun _ _ _=>rfl) h' h.out;cases e;exact⟨rfl,rfl⟩
end
end
def oV (n:Nat) (cd:Nat→Int) (AO:List Bt) (sh lk task:Int):Prop:=∃(k:Nat) (en:Bt) (G:List AU) (P:List (List Int)),task=(k:Int)∧DT n cd AO sh lk k en G P
def ald (w:World) (B:Nat) (n:Nat) (cd:Nat→Int) (AO:List Bt) (sh lk task:Int) (e:Ending):Prop:=∃(k:Nat) (en:Bt) (G:List AU) (P:List (List Int)) (A A':Option Addr) (c c':Nat),task=(k:Int)∧DT n cd AO sh lk k en G P∧e=.returned (.tuple #[.agg #[.slice A G.length c,.slice A' P.length c'],.int .i64 (-1),.int .i64 0])∧E7 w (.slice A G.length c) G∧Dk w (.slice A' P.length c') P∧lQ B (.slice A G.length c) (.slice A' P.length c')
def aqm (e:Ending):Prop:=∃at_ er:Int,er≠0∧e=.returned (.tuple #[.agg #[.slice none 0 0,.slice none 0 0],.int .i64 at_,.int .i64 er])
theorem yH (cv ev:Value) (sh lk:Int) (n:Nat) (cd:Nat→Int) (AO:List Bt) (task:Int) (w:World) (T:CO w) (HW:Words w cv n cd) (HE:IZ w ev AO) :
  Calls Tryz.prog 12 #[.agg #[cv,ev,.int .i64 sh,.int .i64 lk],.int .i64 task] w fun e w'=>((oV n cd AO sh lk task∧ald w' w.heap.size n cd AO sh lk task e)∨(¬oV n cd AO sh lk task∧aqm e))∧Below w.heap.size w w':=by
 refine (arS cv ev sh lk n cd AO task w T HW HE).mono ?_;intro e w' h;rcases h with⟨hng,rfl,hb1⟩|⟨hGd,hrg,rfl,hb1⟩|⟨hGd,k,en,D,bad,hk,hen,hbd,hR,rfl,hb1⟩|⟨hGd,k,en,D,L,bv,pv,rfl,hen,hR,hL,rfl,hG,hP,hb1,hNG⟩
 ·exact⟨.inr ⟨fun ⟨_,_,_,_,_,g⟩=>hng g.gd,_,_,by decide,rfl⟩,hb1⟩
 ·refine⟨.inr ⟨fun ⟨k,_,_,_,e1,g⟩=>?_,_,_,by decide,rfl⟩,hb1⟩
  have:=(Bc.1 g.he).1;omega
 ·refine⟨.inr ⟨fun ⟨k',en',G,P,e1,g⟩=>?_,_,_,by decide,rfl⟩,hb1⟩
  obtain rfl:k=k':=by omega
  have h1:=g.he;rw [hen] at h1;cases h1;have hr:=g.range;have e:=Out.same hr.1 hr.2.1 (fun _ _ _=>rfl) (Out.bad D bad hbd hR) g.out;cases e
 ·have hbe:=ET.bounds hGd.ch en (Bj hen)
  subst hL;have g:DT n cd AO sh lk k en (BP (AK cd) (blk (AK cd) en.st D (en.en - en.st).toNat)) (Jc (AK cd) (blk (AK cd) en.st D (en.en - en.st).toNat)):=⟨hen,hGd,.ok D hR⟩;obtain⟨GA,BH,rfl,-,-⟩:=hG.slice;obtain⟨PA,B7,rfl,-,-⟩:=hP.slice;exact⟨.inl ⟨⟨k,en,_,_,rfl,g⟩,⟨k,en,_,_,GA,PA,BH,B7,rfl,g,rfl,hG,hP,hNG⟩⟩,hb1⟩
end Go.Proofs.YtlmgkipmfgijiaaGreatDoor
