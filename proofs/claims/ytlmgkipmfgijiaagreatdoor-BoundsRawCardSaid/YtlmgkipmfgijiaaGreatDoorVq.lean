/-
  What is proved here: parts dAnz.
-/
import Derived.Test.YtlmgkipmfgijiaaGreatDoorVa
import Derived.Test.YtlmgkipmfgijiaaGreatDoorVp
import Derived.Test.YtlmgkipmfgijiaaGreatDoorVf
import Derived.Test.YtlmgkipmfgijiaaGreatDoorVb
import Derived.Laws.CopyOwn
import Derived.Deep.RegionHeld3
namespace Go.Proofs.YtlmgkipmfgijiaaGreatDoor
set_option linter.unusedVariables false
set_option linter.unusedSimpArgs false
set_option maxRecDepth 100000
set_option maxHeartbeats 8000000
open Go.RowKit
theorem mK {P:Program} {fn:Func} {a u b v:Tmp} {ty tz:TypeId} (h:fn.results=#[.cell a ty,.tmp u,.cell b tz,.tmp v]) (tmps:Array Value) (w:World) (p q:Nat) (cs ds:List Value) (d d':TypeDesc) (ha:tmps.getD a undef=.pointer (some ⟨p,0,none⟩)) (hc:w.rangeAt p 0 cs) (hb:tmps.getD b undef=.pointer (some ⟨q,0,none⟩)) (hd':w.rangeAt q 0 ds)
  (hu:P.underlying ty=some d) (hd:d.isRow=true) (hi:(P.info? ty).map (·.size)=some cs.length) (hu':P.underlying tz=some d') (hdd:d'.isRow=true) (hi':(P.info? tz).map (·.size)=some ds.length):(results fn tmps).run P w=.ok (.tuple #[.agg cs.toArray,tmps.getD u undef,.agg ds.toArray,tmps.getD v undef]) w:=by
 have h1:=WT (P:=P) w p 0 ty cs d hc hu hd hi;have h2:=WT (P:=P) w q 0 tz ds d' hd' hu' hdd hi';simp only [results,h];simp only [ng,bC,jl,ha,hb,PI,Zy,TE,Z6,h1,h2,Sem.run_map,pure_bind,bind_pure];simp [h1,h2,TE]
theorem ac4 {w F:World} {q4 q6:Nat} {a b c d e:Value} {T U:TypeId} {z:Value} (h4:w.heap[q4]?=some (.cells #[z,z] T (0,0))) (h6:w.heap[q6]?=some (.cells #[z,z,z] U (0,0))) (hne:q4≠q6)
  (hF:F=((((w.setCell ⟨q4,0,none⟩ a).setCell ⟨q4,1,none⟩ b).setCell ⟨q6,0,none⟩ c).setCell ⟨q6,1,none⟩ d).setCell ⟨q6,2,none⟩ e) :
  F.heap[q4]?=some (.cells #[a,b] T (0,0))∧F.heap[q6]?=some (.cells #[c,d,e] U (0,0))∧(∀p,¬(p=q4∨p=q6)→F.heap[p]?=w.heap[p]?)∧w.heap.size≤F.heap.size∧(∀(B:Nat) (V:World),Below B V w→B≤q4→B≤q6→Below B V F):=by
 have a1:=Ej w q4 0 _ _ a h4;have a2:=Ej _ q4 1 _ _ b a1;have c0:((w.setCell ⟨q4,0,none⟩ a).setCell ⟨q4,1,none⟩ b).heap[q6]?=_:=(BL _ _ _ _ (Ds hne)).trans ((BL _ _ _ _ (Ds hne)).trans h6);have c1:=Ej _ q6 0 _ _ c c0;have c2:=Ej _ q6 1 _ _ d c1;have c3:=Ej _ q6 2 _ _ e c2;subst hF;refine⟨?_,?_,fun p hp=>?_,by simp,fun B V h h4 h6=>?_⟩
 ·rw [BL _ _ _ _ (by show q4≠q6;exact hne),BL _ _ _ _ (by show q4≠q6;exact hne),BL _ _ _ _ (by show q4≠q6;exact hne)]
  exact a2
 ·exact c3
 ·have p4:p≠q4:=fun e=>hp (.inl e)
  have p6:p≠q6:=fun e=>hp (.inr e);rw [BL _ _ _ _ (by show p≠q6;exact p6),BL _ _ _ _ (by show p≠q6;exact p6),BL _ _ _ _ (by show p≠q6;exact p6),BL _ _ _ _ (by show p≠q4;exact p4),BL _ _ _ _ (by show p≠q4;exact p4)]
 ·exact (((((h.setCell (p:=⟨q4,0,none⟩) h4 _).setCell (p:=⟨q4,1,none⟩) h4 _).setCell (p:=⟨q6,0,none⟩) h6 _).setCell (p:=⟨q6,1,none⟩) h6 _).setCell (p:=⟨q6,2,none⟩) h6 _)
structure XI (w:World) (cd:Nat→Int) (G:List AV) (P:List (List Int)) (bv pv lv rv iv dv:Value) (D:List Int) (L:List Lp) (s:AS):Prop where
 Ou:Dc w bv G
 lls:CO w pv P
 Si:Ih w lv L
 tree:Ff G D
 loops:LB P (CR G.length (Ar G)) (Dq G.length (Ar G)) (Cf G G.length []) D L
 ends:Ends (Bh cd G) (EW G.length) s
 Mv:Ho w rv s.reach
 Af:∃A cap,iv=.slice A s.Af.length cap∧s.Af.length≤cap∧cap≤maxLen
 l1:s.reach.length=G.length
 l2:s.Af.length=G.length
 dvs:∃A n c,dv=.slice A n c
def Uu (v:Value):Prop:=∃A n c,v=Value.slice A n c
def Qm (n:Nat) (cd:Nat→Int) (AU:List CP) (sh lk task:Int):Prop:=∃(k:Nat) (en:CP) (G:List AV) (P:List (List Int)),task=(k:Int)∧Cv n cd AU sh lk k en G P∧∀D,Ff G D→Le (CR G.length (Ar G)) (Dq G.length (Ar G)) D (Cf G G.length [])
def gT (w:World) (n:Nat) (cd:Nat→Int) (AU:List CP) (sh lk task:Int) (e:Ending):Prop:=∃(k:Nat) (en:CP) (G:List AV) (P:List (List Int)) (bv pv lv rv iv dv:Value) (D:List Int) (L:List Lp) (s:AS),task=(k:Int)∧Cv n cd AU sh lk k en G P∧XI w cd G P bv pv lv rv iv dv D L s∧e=.returned (.tuple #[.agg #[bv,pv],lv,.agg #[rv,iv,dv],.bool true])
def zV (e:Ending):Prop:=∃bv pv lv rv iv dv:Value,(Uu bv∧Uu pv∧Uu lv∧Uu rv∧Uu iv∧Uu dv)∧e=.returned (.tuple #[.agg #[bv,pv],lv,.agg #[rv,iv,dv],.bool false])
theorem Ff.len {G:List AV} {D:List Int} (h:Ff G D):D.length=G.length:=h.ti.len
theorem Qm.tree {n:Nat} {cd:Nat→Int} {AU:List CP} {sh lk:Int} {k:Nat} {en:CP} {G:List AV} {P:List (List Int)} {D:List Int} (h:Qm n cd AU sh lk (k:Int)) (g:Cv n cd AU sh lk k en G P) (hn:G.length≤5000) (t:Ff G D):Le (CR G.length (Ar G)) (Dq G.length (Ar G)) D (Cf G G.length []):=by
 obtain⟨k',en',G',P',e1,g',h'⟩:=h;obtain rfl:k=k':=by omega
 have h1:=g.he;rw [g'.he] at h1;cases h1;obtain⟨rfl,rfl⟩:=g.same g'.out;exact h' D t
theorem adb (AZ:WV) (cv ev:Value) (sh lk:Int) (n:Nat) (cd:Nat→Int) (AU:List CP) (task:Int) (w:World) (T:C8 w) (HW:Words w cv n cd) (hn:n≤1000) (HE:Il w ev AU) :
  Calls Tryz.prog 19 #[.agg #[cv,ev,.int .i64 sh,.int .i64 lk],.int .i64 task] w fun e w'=>((Qm n cd AU sh lk task∧gT w' n cd AU sh lk task e)∨(¬Qm n cd AU sh lk task∧zV e))∧Below w.heap.size w w':=by
 obtain⟨V,hV,k0,k1,k2,bV,sV⟩:=Nf w #[cv,ev,.int .i64 sh,.int .i64 lk] #[.slice none 0 0,.slice none 0 0] #[.slice none 0 0,.slice none 0 0,.slice none 0 0] 25 31 59;have YQ:V.heap.size=w.heap.size+1+1+1:=by rw [←hV];simp
 obtain⟨y0,y1,y2,y3,y4⟩:=Ep k0;have⟨J7,BV,SV,K1,K2,Pk,TV,Sl⟩:=Ki (oM cv ev sh lk n cd AU task V (T.below bV) (HW.below bV) (HE.below bV)) bV YQ k1 k2 (HW.below bV) (T.below bV) HW.wd;have HN:=A3 hn;clear bV sV YQ k0 k1 k2 T HW HE hn;go_enter Tryz.func19,Tryz.ntmps19;go_wp2_with fail;refine J7.out.mono ?_;rintro e W1 ⟨h,hb1⟩;have B1:=A3 hb1;have x0:=(hb1.cell (p:=⟨w.heap.size,0,none⟩) y4).trans y0;have x1:=(hb1.cell (p:=⟨w.heap.size,1,none⟩) y4).trans y1;have x2:=(hb1.cell (p:=⟨w.heap.size,2,none⟩) y4).trans y2;have x3:=(hb1.cell (p:=⟨w.heap.size,3,none⟩) y4).trans y3;have x4:w.heap.size<W1.heap.size:=by have:=hb1.size;omega
 have K1W:=A3 ((hb1.block _ YS).trans K1.out);have K2W:=A3 ((hb1.block _ YS).trans K2.out);have S1:=A3 (show w.heap.size+1+1<W1.heap.size by have:=hb1.size;have:=SV.out;omega);have IV:=A3 (BV.out.trans (hb1.mono BV.out.size));clear hb1 y0 y1 y2 y3 y4 hV J7;rcases h with⟨hh,k,en,G,P,GA,PA,B9,B7,hk,hg,rfl,hG,hP,aY⟩|⟨hno,at_,er,her,rfl⟩;case inr=>
  have der:(er != 0)=true:=by simp [her]
  have Xq:=A3 (show ¬Qm n cd AU sh lk task from fun ⟨k,en,G,P,e1,g,_⟩=>hno ⟨k,en,G,P,e1,g⟩);clear hno her;have K1':=A3 (show (W1.alloc (.cells #[.slice none 0 0,.slice none 0 0] 31)).heap[w.heap.size+1]?=some (.cells #[.slice none 0 0,.slice none 0 0] 31 (0,0)) by rw [Bb _ _ YF];exact K1W.out);have K2':=A3 (show (W1.alloc (.cells #[.slice none 0 0,.slice none 0 0] 31)).heap[w.heap.size+1+1]?=some (.cells #[.slice none 0 0,.slice none 0 0,.slice none 0 0] 59 (0,0)) by rw [Bb _ _ YF];exact K2W.out);have BU:=A3 (show Below w.heap.size w (W1.alloc (.cells #[.slice none 0 0,.slice none 0 0] 31)) from IV.out.alloc IV.out.size _);go_wp2_with (first|(refine Bp rfl 31 (.tmp 4) (.tmp 25) rfl (w.heap.size+1) #[.slice none 0 0,.slice none 0 0] rfl rfl 31 _ K1'.out A6 rfl BS ?_)|(refine Bp rfl 59 (.tmp 6) (.tmp 26) rfl (w.heap.size+1+1) #[.slice none 0 0,.slice none 0 0,.slice none 0 0] rfl rfl 59 _ ((Tw _ _ _ _ A0).trans K2'.out) A6 rfl BS ?_));refine Al (mK (P:=Tryz.prog) Tryz.results19 _ _ (w.heap.size+1) (w.heap.size+1+1) [.slice none 0 0,.slice none 0 0] [.slice none 0 0,.slice none 0 0,.slice none 0 0] _ _ rfl (FM ((Tw _ _ _ _ A0).trans (IJ _ _ _ _ _ _ K1'.out))) rfl (FM (IJ _ _ _ _ _ _ ((Tw _ _ _ _ A0).trans K2'.out))) Zl rfl A6 iG rfl A6) rfl ⟨.inr ⟨Xq.out,_,_,_,_,_,_,⟨⟨_,_,_,rfl⟩,⟨_,_,_,rfl⟩,⟨_,_,_,rfl⟩,⟨_,_,_,rfl⟩,⟨_,_,_,rfl⟩,⟨_,_,_,rfl⟩⟩,rfl⟩,Bt (Bt BU.out A0 _) A0 _⟩
 have tS:G.length≤1000:=by have:=hg.len;have:=HN.out;omega
 have⟨RL,Fw,Vr,xA,HK,NG⟩:=I2 hg hg.val (Ic.2 hg.val.ne) (hg.gok Sl.out) hk aY;obtain⟨gn,hgn⟩:∃m,G.length=m:=⟨_,rfl⟩;obtain⟨pn,Gz⟩:∃m,P.length=m:=⟨_,rfl⟩;rw [hgn,Gz];rw [hgn] at hG tS;rw [Gz] at hP;rw [hgn,Gz] at NG;have Cj:=A3 hgn;obtain⟨U,hU⟩:=AA (W1.alloc (.cells #[.slice GA gn B9,.slice PA pn B7] 31));obtain⟨b8,hb8⟩:∃b,W1.heap.size=b:=⟨_,rfl⟩;have bU:Below W1.heap.size W1 U:=hU▸(AP _ _).alloc (AH _) _;have kU:U.heap[b8]?=some (.cells #[.slice GA gn B9,.slice PA pn B7] 31 (0,0)):=by rw [←hb8];exact hU▸Ai _ _
 have u0:U.cell? ⟨b8,0,none⟩=some (.slice GA gn B9):=by simp [World.cell?,kU]
 have u1:U.cell? ⟨b8,1,none⟩=some (.slice PA pn B7):=by simp [World.cell?,kU]
 have u2:b8<U.heap.size:=BR kU;have⟨HGU,HPU,BU1⟩:=B8 (hG.below bU) (hP.below bU) bU;have O4:=A3 ((oQ _ _ G P U (hG.below bU) (hP.below bU) hg.val (by rw [hgn];omega)).mono fun e w' h=>(show ∃(D:List Int) (lA:Option Addr) (ln lc:Nat) (tg er:Int) (S6:Bool),e=.returned (.tuple #[.slice lA ln lc,.int .i64 tg,.int .i64 er])∧(er==0)=S6∧Ff G D∧(S6=true→∃L,Ih w' (.slice lA ln lc) L∧LB P (CR G.length (Ar G)) (Dq G.length (Ar G)) (Cf G G.length []) D L)∧(S6=false→¬Le (CR G.length (Ar G)) (Dq G.length (Ar G)) D (Cf G G.length []))∧Below U.heap.size U w' from by
  obtain⟨⟨D,hT,h1⟩,h2⟩:=h;rcases h1 with⟨lv,L,rfl,hL,Ox⟩|⟨tg,rfl,hne⟩
  ·obtain⟨lA,lc,rfl,-,-⟩:=hL.slice
   exact⟨D,lA,_,lc,_,_,true,rfl,rfl,hT,fun _=>⟨L,hL,Ox⟩,fun h=>UD,h2⟩
  ·exact⟨D,_,_,_,tg,_,false,rfl,rfl,hT,fun h=>UD,fun _=>hne,h2⟩))
 clear kU bU hG hP hg hk aY hgn Gz hh;go_wp2_with fail;refine O4.out.mono ?_;rintro e W2 ⟨D,lA,ln,lc,tg,er,S6,rfl,hok,hT,hyes,hno,hb2⟩;have⟨HT,Ng,DU,B2,BU2⟩:=Fi hT hyes hno (BU1.out.trans (hb2.mono BU1.out.size)) hb2;have s2:=B2.out.size;have v0:=(hb2.cell (p:=⟨b8,0,none⟩) u2).trans u0;have v1:=(hb2.cell (p:=⟨b8,1,none⟩) u2).trans u1;have v2:b8<W2.heap.size:=by have:=hb2.size;omega
 have i0:=(B2.out.cell (p:=⟨w.heap.size,0,none⟩) x4).trans x0;have i1:=(B2.out.cell (p:=⟨w.heap.size,1,none⟩) x4).trans x1;have i2:=(B2.out.cell (p:=⟨w.heap.size,2,none⟩) x4).trans x2;have i3:=(B2.out.cell (p:=⟨w.heap.size,3,none⟩) x4).trans x3;have i4:w.heap.size<W2.heap.size:=by omega
 have B12:=A3 (B1.out.trans (B2.out.mono B1.out.size));have HAZ:=A3 (AZ cv ev _ _ sh lk n cd G P W2 (TV.out.below B12.out) (Pk.out.below B12.out) (HGU.out.below hb2) (HPU.out.below hb2) Fw.out Vr.out (by rw [Cj.out];exact tS) xA.out);clear hT hyes hno hb2 u0 u1 u2 x0 x1 x2 x3 x4 O4 hU;go_wp2_with fail;refine HAZ.out.mono ?_;rintro e W3 ⟨⟨s,rv,iv,dv,hE,rfl,hR,hD,hN⟩,hb3⟩;have FX:=aiT (n:=n) Vr.out xA.out hE;have P7:=A3 hE;obtain⟨JM,Gp,MK,hr1,hr2,hr3⟩:=hR.bls.1;obtain⟨IA,Dx,hiv,hi1,hi2⟩:=hR.bls.2;obtain⟨DA,Km,Ws,-,-,-⟩:=hD;have hl1:=FX.Ez.l1;have hl2:=FX.Ez.l2;have Y5:=A3 (Dt hl1 hl2);have PW:=hR.bls.1;obtain⟨dn,hdn⟩:∃d,(GY (Bh cd G) s G.length).length=d:=⟨_,rfl⟩;rw [hdn] at Ws;rw [hl1,Cj.out] at MK hr1;rw [hl2,Cj.out] at hiv hi1;subst MK hiv Ws;have⟨vK,UG⟩:=AL PW (Dt hi1 hi2);obtain⟨Y,hY⟩:=AA (W3.alloc (.cells #[.slice JM gn Gp,.slice IA gn Dx,.slice DA dn Km] 59));obtain⟨b14,DX⟩:∃b,W3.heap.size=b:=⟨_,rfl⟩;have bY:Below W3.heap.size W3 Y:=hY▸(AP _ _).alloc (AH _) _;have kY:Y.heap[b14]?=some (.cells #[.slice JM gn Gp,.slice IA gn Dx,.slice DA dn Km] 59 (0,0)):=by rw [←DX];exact hY▸Ai _ _
 have WO:Below W2.heap.size W2 Y:=hb3.trans (bY.mono hb3.size);have y0:Y.cell? ⟨b14,0,none⟩=some (.slice JM gn Gp):=by simp [World.cell?,kY]
 have y1:Y.cell? ⟨b14,1,none⟩=some (.slice IA gn Dx):=by simp [World.cell?,kY]
 have y2:Y.cell? ⟨b14,2,none⟩=some (.slice DA dn Km):=by simp [World.cell?,kY]
 have y3:b14<Y.heap.size:=BR kY;have z0:=(WO.cell (p:=⟨b8,0,none⟩) v2).trans v0;have z1:=(WO.cell (p:=⟨b8,1,none⟩) v2).trans v1;have⟨BY,BUY,B2Y,S3,HRY⟩:=Fi (B2.out.trans (WO.mono B2.out.size)) (BU2.out.trans (WO.mono BU2.out.size)) WO hb3.size (vK.out.below bY);clear hE hR hN hb3 FX hr3 PW kY WO bY v0 v1 v2 i0 i1 i2 i3 i4 HAZ hl1 hl2 hdn hr2 hi2;go_upto_region 6 with fail;have Ja:=A3 (show Y.drew.heap[w.heap.size+1]?=some (.cells #[.slice none 0 0,.slice none 0 0] 31 (0,0))∧Y.drew.heap[w.heap.size+1+1]?=some (.cells #[.slice none 0 0,.slice none 0 0,.slice none 0 0] 59 (0,0)) from
  ⟨(BY.out.block _ YF).trans K1W.out,(BY.out.block _ YF).trans K2W.out⟩)
 have HS:=A3 (show ∀(F:World),F=((((Y.drew.setCell ⟨w.heap.size+1,0,none⟩ (.slice GA gn B9)).setCell ⟨w.heap.size+1,1,none⟩ (.slice PA pn B7)).setCell ⟨w.heap.size+1+1,0,none⟩ (.slice JM gn Gp)).setCell ⟨w.heap.size+1+1,1,none⟩ (.slice IA gn Dx)).setCell ⟨w.heap.size+1+1,2,none⟩ (.slice DA dn Km)→Below w.heap.size w F∧(F.heap[w.heap.size+1]?=some (.cells #[.slice GA gn B9,.slice PA pn B7] 31 (0,0))∧F.heap[w.heap.size+1+1]?=some (.cells #[.slice JM gn Gp,.slice IA gn Dx,.slice DA dn Km] 59 (0,0)))∧(S6=true→gT F n cd AU sh lk task (.returned (.tuple #[.agg #[.slice GA gn B9,.slice PA pn B7],.slice lA ln lc,.agg #[.slice JM gn Gp,.slice IA gn Dx,.slice DA dn Km],.bool true]))) from fun F hF=>by
  obtain⟨f1,f2⟩:=Ja.out;have hd:Below Y.heap.size Y Y.drew:=Gg (AP _ _);have hb:Below w.heap.size w Y.drew:=IV.out.trans ((BY.out.trans (hd.mono BY.out.size)).mono IV.out.size);obtain⟨t1,t2,t3,t4,t5⟩:=ac4 f1 f2 A0 hF;refine⟨t5 _ _ hb A0 A0,⟨t1,t2⟩,fun ho=>?_⟩;obtain⟨L,hL,Ox⟩:=Ng.out ho;have hpt:Pt Y.drew F (fun q=>q=w.heap.size+1∨q=w.heap.size+1+1):=by
   refine⟨fun q hq o v hv=>?_,fun p hp=>t3 p hp,t4⟩
   ·rcases hq with rfl|rfl
    ·simp only [World.cell?,f1] at hv
     match o,hv with
     | 0,hv=>simp at hv;exact⟨_,_,_,hv.symm⟩
     | 1,hv=>simp at hv;exact⟨_,_,_,hv.symm⟩
     | o+2,hv=>simp at hv
    ·simp only [World.cell?,f2] at hv
     match o,hv with
     | 0,hv=>simp at hv;exact⟨_,_,_,hv.symm⟩
     | 1,hv=>simp at hv;exact⟨_,_,_,hv.symm⟩
     | 2,hv=>simp at hv;exact⟨_,_,_,hv.symm⟩
     | o+3,hv=>simp at hv
  have hux:=BUY.out.trans (hd.mono BUY.out.size);have h2x:=B2Y.out.trans (hd.mono B2Y.out.size);refine⟨k,en,G,P,_,_,_,_,_,_,D,L,s,HK.out,RL.out,⟨(HGU.out.below hux).pt hpt,(HPU.out.below hux).pt hpt (fun p hp hq=>?_),(hL.below h2x).pt hpt,HT.out,Ox,P7.out,(HRY.out.below hd).pt hpt,⟨IA,Dx,by rw [Y5.out.2,Cj.out],by rw [Y5.out.2,Cj.out];exact UG.out.1,UG.out.2⟩,Y5.out.1,Y5.out.2,⟨_,_,_,rfl⟩⟩,rfl⟩;have:=NG.out.2 p hp;have:=SV.out
  rcases hq with rfl|rfl<;>omega)
 have Xq:=A3 (show S6=false→¬Qm n cd AU sh lk task from fun h hc=>by
  rw [HK.out] at hc
  exact DU.out h (hc.tree RL.out KN HT.out))
 have HYC:=A3 (show S6=true→Qm n cd AU sh lk task from fun h=>by
  obtain⟨L,hL,Ox⟩:=Ng.out h;refine⟨k,en,G,P,HK.out,RL.out,fun D' h'=>?_⟩;rw [←Ff.eq Fw.out KN h',Ff.eq Fw.out KN HT.out]
  exact Ox.ok)
 have g4:Y.heap[w.heap.size+1]?=some (.cells #[.slice none 0 0,.slice none 0 0] 31 (0,0)):=by
  exact (BY.out.block _ YF).trans K1W.out
 have g6:Y.heap[w.heap.size+1+1]?=some (.cells #[.slice none 0 0,.slice none 0 0,.slice none 0 0] 59 (0,0)):=by
  exact (BY.out.block _ YF).trans K2W.out
 have a0:Y.cell? ⟨w.heap.size+1,0,none⟩=some (.slice none 0 0):=by simp [World.cell?,g4]
 have a1:Y.cell? ⟨w.heap.size+1,1,none⟩=some (.slice none 0 0):=by simp [World.cell?,g4]
 have a2:Y.frozen? ⟨w.heap.size+1,0,none⟩=false:=by simp [World.frozen?,g4]
 have a3:Y.frozen? ⟨w.heap.size+1,1,none⟩=false:=by simp [World.frozen?,g4]
 have c0:Y.cell? ⟨w.heap.size+1+1,0,none⟩=some (.slice none 0 0):=by simp [World.cell?,g6]
 have c1:Y.cell? ⟨w.heap.size+1+1,1,none⟩=some (.slice none 0 0):=by simp [World.cell?,g6]
 have c2:Y.cell? ⟨w.heap.size+1+1,2,none⟩=some (.slice none 0 0):=by simp [World.cell?,g6]
 have c3:Y.frozen? ⟨w.heap.size+1+1,0,none⟩=false:=by simp [World.frozen?,g6]
 have c4:Y.frozen? ⟨w.heap.size+1+1,1,none⟩=false:=by simp [World.frozen?,g6]
 have c5:Y.frozen? ⟨w.heap.size+1+1,2,none⟩=false:=by simp [World.frozen?,g6]
 have n1:w.heap.size+1≠w.heap.size+1+1:=by omega
 have n2:b8≠w.heap.size+1:=by have:=S1.out;omega
 have n3:b8≠w.heap.size+1+1:=by have:=S1.out;omega
 have n4:b14≠w.heap.size+1:=by have:=S1.out;have:=S3.out;omega
 have n5:b14≠w.heap.size+1+1:=by have:=S1.out;have:=S3.out;omega
 have n2':=n2.symm;have n3':=n3.symm;have n4':=n4.symm;have n5':=n5.symm;clear g4 g6 Ja HRY B2Y BUY BY P7 Y5 vK UG Ng DU;rcases S6 with _|_
 ·refine Yq ?_
  refine YN (S:=fun w'=>w'.cell? ⟨b8,0,none⟩=some (.slice GA gn B9)∧w'.cell? ⟨b8,1,none⟩=some (.slice PA pn B7)∧w'.cell? ⟨b14,0,none⟩=some (.slice JM gn Gp)∧w'.cell? ⟨b14,1,none⟩=some (.slice IA gn Dx)∧w'.cell? ⟨b14,2,none⟩=some (.slice DA dn Km)) A6 ?_ (fun hHeld=>?_)
  ·go_keep
  refine BI (i:=0) (oi:=_) (v:=?_) rfl A6 A6 A6 (fun _ _ _ h=>h) (Bq ⟨by rfl,?_⟩) hHeld ?_;rotate_left
  ·intro w hSw
   (try dsimp only at hSw);go_simp
   (try with_reducible rfl)
  (try simp only [AX,Ad,Ac,Act.put,AW,Ab,AY]);refine BI (i:=1) (oi:=_) (v:=?_) rfl A6 A6 A6 (fun _ _ _ h=>h) (Bq ⟨by rfl,?_⟩) hHeld ?_;rotate_left
  ·intro w hSw
   (try dsimp only at hSw);go_simp
   (try with_reducible rfl)
  (try simp only [AX,Ad,Ac,Act.put,AW,Ab,AY]);refine BI (i:=2) (oi:=_) (v:=?_) rfl A6 A6 A6 (fun _ _ _ h=>h) (Bq ⟨by rfl,?_⟩) hHeld ?_;rotate_left
  ·intro w hSw
   (try dsimp only at hSw);go_simp
   (try with_reducible rfl)
  (try simp only [AX,Ad,Ac,Act.put,AW,Ab,AY]);refine BI (i:=3) (oi:=_) (v:=?_) rfl A6 A6 A6 (fun _ _ _ h=>h) (Bq ⟨by rfl,?_⟩) hHeld ?_;rotate_left
  ·intro w hSw
   (try dsimp only at hSw);go_simp
   (try with_reducible rfl)
  (try simp only [AX,Ad,Ac,Act.put,AW,Ab,AY]);refine BI (i:=4) (oi:=_) (v:=?_) rfl A6 A6 A6 (fun _ _ _ h=>h) (Bq ⟨by rfl,?_⟩) hHeld ?_;rotate_left
  ·intro w hSw
   (try dsimp only at hSw);go_simp
   (try with_reducible rfl)
  (try simp only [AX,Ad,Ac,Act.put,AW,Ab,AY]);refine BI (i:=5) (oi:=_) (v:=?_) rfl A6 A6 A6 (fun _ _ _ h=>h) (Bq ⟨by rfl,?_⟩) hHeld ?_;rotate_left
  ·intro w hSw
   (try dsimp only at hSw);go_simp
   (try with_reducible rfl)
  (try simp only [AX,Ad,Ac,Act.put,AW,Ab,AY]);refine BI (i:=6) (oi:=_) (v:=undef) rfl A6 A6 A6 (fun _ _ _ h=>h) (Jk ⟨by rfl,rfl⟩) hHeld ?_;(try simp only [AX,Ad,Ac,Act.put,AW,Ab,AY]);refine BI (i:=7) (oi:=_) (v:=undef) rfl A6 A6 A6 (fun _ _ _ h=>h) (Jk ⟨by rfl,rfl⟩) hHeld ?_;(try simp only [AX,Ad,Ac,Act.put,AW,Ab,AY]);refine BI (i:=8) (oi:=_) (v:=?_) rfl A6 A6 A6 (fun _ _ _ h=>h) (Bq ⟨by rfl,?_⟩) hHeld ?_;rotate_left
  ·intro w hSw
   (try dsimp only at hSw);go_simp
   (try with_reducible rfl)
  (try simp only [AX,Ad,Ac,Act.put,AW,Ab,AY]);refine BI (i:=9) (oi:=_) (v:=?_) rfl A6 A6 A6 (fun _ _ _ h=>h) (Bq ⟨by rfl,?_⟩) hHeld ?_;rotate_left
  ·intro w hSw
   (try dsimp only at hSw);go_simp
   (try with_reducible rfl)
  (try simp only [AX,Ad,Ac,Act.put,AW,Ab,AY]);refine BI (i:=10) (oi:=_) (v:=undef) rfl A6 A6 A6 (fun _ _ _ h=>h) (Jk ⟨by rfl,rfl⟩) hHeld ?_;(try simp only [AX,Ad,Ac,Act.put,AW,Ab,AY]);refine BI (i:=11) (oi:=_) (v:=undef) rfl A6 A6 A6 (fun _ _ _ h=>h) (Jk ⟨by rfl,rfl⟩) hHeld ?_;(try simp only [AX,Ad,Ac,Act.put,AW,Ab,AY]);refine BI (i:=12) (oi:=_) (v:=undef) rfl A6 A6 A6 (fun _ _ _ h=>h) (Jk ⟨by rfl,rfl⟩) hHeld ?_;(try simp only [AX,Ad,Ac,Act.put,AW,Ab,AY]);refine BI (i:=13) (oi:=_) (v:=undef) rfl A6 A6 A6 (fun _ _ _ h=>h) (Jk ⟨by rfl,rfl⟩) hHeld ?_;(try simp only [AX,Ad,Ac,Act.put,AW,Ab,AY]);refine BI (i:=14) (oi:=_) (v:=undef) rfl A6 A6 A6 (fun _ _ _ h=>h) (Jk ⟨by rfl,rfl⟩) hHeld ?_;(try simp only [AX,Ad,Ac,Act.put,AW,Ab,AY]);refine BI (i:=15) (oi:=_) (v:=undef) rfl A6 A6 A6 (fun _ _ _ h=>h) (Jk ⟨by rfl,rfl⟩) hHeld ?_;(try simp only [AX,Ad,Ac,Act.put,AW,Ab,AY]);refine BI (i:=16) (oi:=_) (v:=undef) rfl A6 A6 A6 (fun _ _ _ h=>h) (Jk ⟨by rfl,rfl⟩) hHeld ?_;(try simp only [AX,Ad,Ac,Act.put,AW,Ab,AY]);refine BI (i:=17) (oi:=_) (v:=?_) rfl A6 A6 A6 (fun _ _ _ h=>h) (Bq ⟨by rfl,?_⟩) hHeld ?_;rotate_left
  ·intro w hSw
   (try dsimp only at hSw);go_simp
   (try with_reducible rfl)
  (try simp only [AX,Ad,Ac,Act.put,AW,Ab,AY]);refine BI (i:=18) (oi:=_) (v:=?_) rfl A6 A6 A6 (fun _ _ _ h=>h) (Bq ⟨by rfl,?_⟩) hHeld ?_;rotate_left
  ·intro w hSw
   (try dsimp only at hSw);go_simp
   (try with_reducible rfl)
  (try simp only [AX,Ad,Ac,Act.put,AW,Ab,AY]);refine BI (i:=19) (oi:=_) (v:=undef) rfl A6 A6 A6 (fun _ _ _ h=>h) (Jk ⟨by rfl,rfl⟩) hHeld ?_;(try simp only [AX,Ad,Ac,Act.put,AW,Ab,AY]);refine BI (i:=20) (oi:=_) (v:=undef) rfl A6 A6 A6 (fun _ _ _ h=>h) (Jk ⟨by rfl,rfl⟩) hHeld ?_;(try simp only [AX,Ad,Ac,Act.put,AW,Ab,AY]);refine BI (i:=21) (oi:=_) (v:=undef) rfl A6 A6 A6 (fun _ _ _ h=>h) (Jk ⟨by rfl,rfl⟩) hHeld ?_;(try simp only [AX,Ad,Ac,Act.put,AW,Ab,AY]);refine BI (i:=22) (oi:=_) (v:=undef) rfl A6 A6 A6 (fun _ _ _ h=>h) (Jk ⟨by rfl,rfl⟩) hHeld ?_;(try simp only [AX,Ad,Ac,Act.put,AW,Ab,AY]);refine BI (i:=23) (oi:=_) (v:=undef) rfl A6 A6 A6 (fun _ _ _ h=>h) (Jk ⟨by rfl,rfl⟩) hHeld ?_;(try simp only [AX,Ad,Ac,Act.put,AW,Ab,AY]);refine BI (i:=24) (oi:=_) (v:=undef) rfl A6 A6 A6 (fun _ _ _ h=>h) (Jk ⟨by rfl,rfl⟩) hHeld ?_;(try simp only [AX,Ad,Ac,Act.put,AW,Ab,AY]);refine BI (i:=25) (oi:=_) (v:=undef) rfl A6 A6 A6 (fun _ _ _ h=>h) (Jk ⟨by rfl,rfl⟩) hHeld ?_;(try simp only [AX,Ad,Ac,Act.put,AW,Ab,AY]);refine BI (i:=26) (oi:=_) (v:=?_) rfl A6 A6 A6 (fun _ _ _ h=>h) (Bq ⟨by rfl,?_⟩) hHeld ?_;rotate_left
  ·intro w hSw
   (try dsimp only at hSw);go_simp
   (try with_reducible rfl)
  (try simp only [AX,Ad,Ac,Act.put,AW,Ab,AY]);refine GZ (rs:=[27]) A6 AO ?_;refine Eg (o:=_) rfl (fun K hK=>?_) GV;go_simp
  refine hK.out _ _ ?_ (fun hHeld=>?_)
  ·go_keep
  clear hK K;(try simp only [AX,Ad,Ac,Act.put,AW,Ab,AY]);refine BI (i:=28) (oi:=_) (v:=?_) rfl A6 A6 A6 (fun _ _ _ h=>h) (Bq ⟨by rfl,?_⟩) hHeld ?_;rotate_left
  ·intro w hSw
   (try dsimp only at hSw);go_simp
   (try with_reducible rfl)
  (try simp only [AX,Ad,Ac,Act.put,AW,Ab,AY]);refine GZ (rs:=[29]) A6 AO ?_;refine Eg (o:=_) rfl (fun K hK=>?_) GV;go_simp
  refine hK.out _ _ ?_ (fun hHeld=>?_)
  ·go_keep
  clear hK K;(try simp only [AX,Ad,Ac,Act.put,AW,Ab,AY]);refine BI (i:=30) (oi:=_) (v:=?_) rfl A6 A6 A6 (fun _ _ _ h=>h) (Bq ⟨by rfl,?_⟩) hHeld ?_;rotate_left
  ·intro w hSw
   (try dsimp only at hSw);go_simp
   (try with_reducible rfl)
  (try simp only [AX,Ad,Ac,Act.put,AW,Ab,AY]);refine VJ A6 ?_ _;refine Yn ?_;go_wp2_with fail;have RN:=HS.out _ rfl;refine Al (mK (P:=Tryz.prog) Tryz.results19 _ _ (w.heap.size+1) (w.heap.size+1+1) [.slice GA gn B9,.slice PA pn B7] [.slice JM gn Gp,.slice IA gn Dx,.slice DA dn Km] _ _ rfl (FM RN.2.1.1) rfl (FM RN.2.1.2) Zl rfl A6 iG rfl A6) rfl ?_;exact⟨.inr ⟨Xq.out Lz,.slice GA gn B9,.slice PA pn B7,.slice lA ln lc,.slice JM gn Gp,.slice IA gn Dx,.slice DA dn Km,⟨⟨_,_,_,rfl⟩,⟨_,_,_,rfl⟩,⟨_,_,_,rfl⟩,⟨_,_,_,rfl⟩,⟨_,_,_,rfl⟩,⟨_,_,_,rfl⟩⟩,rfl⟩,RN.1⟩
 ·refine Yq ?_
  refine YN (S:=fun w'=>w'.cell? ⟨b8,0,none⟩=some (.slice GA gn B9)∧w'.cell? ⟨b8,1,none⟩=some (.slice PA pn B7)∧w'.cell? ⟨b14,0,none⟩=some (.slice JM gn Gp)∧w'.cell? ⟨b14,1,none⟩=some (.slice IA gn Dx)∧w'.cell? ⟨b14,2,none⟩=some (.slice DA dn Km)) A6 ?_ (fun hHeld=>?_)
  ·go_keep
  refine BI (i:=0) (oi:=_) (v:=?_) rfl A6 A6 A6 (fun _ _ _ h=>h) (Bq ⟨by rfl,?_⟩) hHeld ?_;rotate_left
  ·intro w hSw
   (try dsimp only at hSw);go_simp
   (try with_reducible rfl)
  (try simp only [AX,Ad,Ac,Act.put,AW,Ab,AY]);refine BI (i:=1) (oi:=_) (v:=?_) rfl A6 A6 A6 (fun _ _ _ h=>h) (Bq ⟨by rfl,?_⟩) hHeld ?_;rotate_left
  ·intro w hSw
   (try dsimp only at hSw);go_simp
   (try with_reducible rfl)
  (try simp only [AX,Ad,Ac,Act.put,AW,Ab,AY]);refine BI (i:=2) (oi:=_) (v:=?_) rfl A6 A6 A6 (fun _ _ _ h=>h) (Bq ⟨by rfl,?_⟩) hHeld ?_;rotate_left
  ·intro w hSw
   (try dsimp only at hSw);go_simp
   (try with_reducible rfl)
  (try simp only [AX,Ad,Ac,Act.put,AW,Ab,AY]);refine BI (i:=3) (oi:=_) (v:=?_) rfl A6 A6 A6 (fun _ _ _ h=>h) (Bq ⟨by rfl,?_⟩) hHeld ?_;rotate_left
  ·intro w hSw
   (try dsimp only at hSw);go_simp
   (try with_reducible rfl)
  (try simp only [AX,Ad,Ac,Act.put,AW,Ab,AY]);refine BI (i:=4) (oi:=_) (v:=?_) rfl A6 A6 A6 (fun _ _ _ h=>h) (Bq ⟨by rfl,?_⟩) hHeld ?_;rotate_left
  ·intro w hSw
   (try dsimp only at hSw);go_simp
   (try with_reducible rfl)
  (try simp only [AX,Ad,Ac,Act.put,AW,Ab,AY]);refine BI (i:=5) (oi:=_) (v:=?_) rfl A6 A6 A6 (fun _ _ _ h=>h) (Bq ⟨by rfl,?_⟩) hHeld ?_;rotate_left
  ·intro w hSw
   (try dsimp only at hSw);go_simp
   (try with_reducible rfl)
  (try simp only [AX,Ad,Ac,Act.put,AW,Ab,AY]);refine BI (i:=6) (oi:=_) (v:=?_) rfl A6 A6 A6 (fun _ _ _ h=>h) (Bq ⟨by rfl,?_⟩) hHeld ?_;rotate_left
  ·intro w hSw
   (try dsimp only at hSw);go_simp
   (try with_reducible rfl)
  (try simp only [AX,Ad,Ac,Act.put,AW,Ab,AY]);refine BI (i:=7) (oi:=_) (v:=?_) rfl A6 A6 A6 (fun _ _ _ h=>h) (Bq ⟨by rfl,?_⟩) hHeld ?_;rotate_left
  ·intro w hSw
   (try dsimp only at hSw);go_simp
   (try with_reducible rfl)
  (try simp only [AX,Ad,Ac,Act.put,AW,Ab,AY]);refine BI (i:=8) (oi:=_) (v:=?_) rfl A6 A6 A6 (fun _ _ _ h=>h) (Bq ⟨by rfl,?_⟩) hHeld ?_;rotate_left
  ·intro w hSw
   (try dsimp only at hSw);go_simp
   (try with_reducible rfl)
  (try simp only [AX,Ad,Ac,Act.put,AW,Ab,AY]);refine BI (i:=9) (oi:=_) (v:=?_) rfl A6 A6 A6 (fun _ _ _ h=>h) (Bq ⟨by rfl,?_⟩) hHeld ?_;rotate_left
  ·intro w hSw
   (try dsimp only at hSw);go_simp
   (try with_reducible rfl)
  (try simp only [AX,Ad,Ac,Act.put,AW,Ab,AY]);refine BI (i:=10) (oi:=_) (v:=?_) rfl A6 A6 A6 (fun _ _ _ h=>h) (Bq ⟨by rfl,?_⟩) hHeld ?_;rotate_left
  ·intro w hSw
   (try dsimp only at hSw);go_simp
   (try with_reducible rfl)
  (try simp only [AX,Ad,Ac,Act.put,AW,Ab,AY]);refine BI (i:=11) (oi:=_) (v:=?_) rfl A6 A6 A6 (fun _ _ _ h=>h) (Bq ⟨by rfl,?_⟩) hHeld ?_;rotate_left
  ·intro w hSw
   (try dsimp only at hSw);go_simp
   (try with_reducible rfl)
  (try simp only [AX,Ad,Ac,Act.put,AW,Ab,AY]);refine BI (i:=12) (oi:=_) (v:=?_) rfl A6 A6 A6 (fun _ _ _ h=>h) (Bq ⟨by rfl,?_⟩) hHeld ?_;rotate_left
  ·intro w hSw
   (try dsimp only at hSw);go_simp
   (try with_reducible rfl)
  (try simp only [AX,Ad,Ac,Act.put,AW,Ab,AY]);refine BI (i:=13) (oi:=_) (v:=?_) rfl A6 A6 A6 (fun _ _ _ h=>h) (Bq ⟨by rfl,?_⟩) hHeld ?_;rotate_left
  ·intro w hSw
   (try dsimp only at hSw);go_simp
   (try with_reducible rfl)
  (try simp only [AX,Ad,Ac,Act.put,AW,Ab,AY]);refine BI (i:=14) (oi:=_) (v:=?_) rfl A6 A6 A6 (fun _ _ _ h=>h) (Bq ⟨by rfl,?_⟩) hHeld ?_;rotate_left
  ·intro w hSw
   (try dsimp only at hSw);go_simp
   (try with_reducible rfl)
  (try simp only [AX,Ad,Ac,Act.put,AW,Ab,AY]);refine BI (i:=15) (oi:=_) (v:=?_) rfl A6 A6 A6 (fun _ _ _ h=>h) (Bq ⟨by rfl,?_⟩) hHeld ?_;rotate_left
  ·intro w hSw
   (try dsimp only at hSw);go_simp
   (try with_reducible rfl)
  (try simp only [AX,Ad,Ac,Act.put,AW,Ab,AY]);refine BI (i:=16) (oi:=_) (v:=?_) rfl A6 A6 A6 (fun _ _ _ h=>h) (Bq ⟨by rfl,?_⟩) hHeld ?_;rotate_left
  ·intro w hSw
   (try dsimp only at hSw);go_simp
   (try with_reducible rfl)
  (try simp only [AX,Ad,Ac,Act.put,AW,Ab,AY]);refine BI (i:=17) (oi:=_) (v:=?_) rfl A6 A6 A6 (fun _ _ _ h=>h) (Bq ⟨by rfl,?_⟩) hHeld ?_;rotate_left
  ·intro w hSw
   (try dsimp only at hSw);go_simp
   (try with_reducible rfl)
  (try simp only [AX,Ad,Ac,Act.put,AW,Ab,AY]);refine BI (i:=18) (oi:=_) (v:=?_) rfl A6 A6 A6 (fun _ _ _ h=>h) (Bq ⟨by rfl,?_⟩) hHeld ?_;rotate_left
  ·intro w hSw
   (try dsimp only at hSw);go_simp
   (try with_reducible rfl)
  (try simp only [AX,Ad,Ac,Act.put,AW,Ab,AY]);refine BI (i:=19) (oi:=_) (v:=?_) rfl A6 A6 A6 (fun _ _ _ h=>h) (Bq ⟨by rfl,?_⟩) hHeld ?_;rotate_left
  ·intro w hSw
   (try dsimp only at hSw);go_simp
   (try with_reducible rfl)
  (try simp only [AX,Ad,Ac,Act.put,AW,Ab,AY]);refine BI (i:=20) (oi:=_) (v:=?_) rfl A6 A6 A6 (fun _ _ _ h=>h) (Bq ⟨by rfl,?_⟩) hHeld ?_;rotate_left
  ·intro w hSw
   (try dsimp only at hSw);go_simp
   (try with_reducible rfl)
  (try simp only [AX,Ad,Ac,Act.put,AW,Ab,AY]);refine BI (i:=21) (oi:=_) (v:=?_) rfl A6 A6 A6 (fun _ _ _ h=>h) (Bq ⟨by rfl,?_⟩) hHeld ?_;rotate_left
  ·intro w hSw
   (try dsimp only at hSw);go_simp
   (try with_reducible rfl)
  (try simp only [AX,Ad,Ac,Act.put,AW,Ab,AY]);refine BI (i:=22) (oi:=_) (v:=?_) rfl A6 A6 A6 (fun _ _ _ h=>h) (Bq ⟨by rfl,?_⟩) hHeld ?_;rotate_left
  ·intro w hSw
   (try dsimp only at hSw);go_simp
   (try with_reducible rfl)
  (try simp only [AX,Ad,Ac,Act.put,AW,Ab,AY]);refine BI (i:=23) (oi:=_) (v:=?_) rfl A6 A6 A6 (fun _ _ _ h=>h) (Bq ⟨by rfl,?_⟩) hHeld ?_;rotate_left
  ·intro w hSw
   (try dsimp only at hSw);go_simp
   (try with_reducible rfl)
  (try simp only [AX,Ad,Ac,Act.put,AW,Ab,AY]);refine BI (i:=24) (oi:=_) (v:=?_) rfl A6 A6 A6 (fun _ _ _ h=>h) (Bq ⟨by rfl,?_⟩) hHeld ?_;rotate_left
  ·intro w hSw
   (try dsimp only at hSw);go_simp
   (try with_reducible rfl)
  (try simp only [AX,Ad,Ac,Act.put,AW,Ab,AY]);refine BI (i:=25) (oi:=_) (v:=?_) rfl A6 A6 A6 (fun _ _ _ h=>h) (Bq ⟨by rfl,?_⟩) hHeld ?_;rotate_left
  ·intro w hSw
   (try dsimp only at hSw);go_simp
   (try with_reducible rfl)
  (try simp only [AX,Ad,Ac,Act.put,AW,Ab,AY]);refine BI (i:=26) (oi:=_) (v:=?_) rfl A6 A6 A6 (fun _ _ _ h=>h) (Bq ⟨by rfl,?_⟩) hHeld ?_;rotate_left
  ·intro w hSw
   (try dsimp only at hSw);go_simp
   (try with_reducible rfl)
  (try simp only [AX,Ad,Ac,Act.put,AW,Ab,AY]);refine GZ (rs:=[27]) A6 AO ?_;refine Eg (o:=_) rfl (fun K hK=>?_) GV;go_simp
  refine hK.out _ _ ?_ (fun hHeld=>?_)
  ·go_keep
  clear hK K;(try simp only [AX,Ad,Ac,Act.put,AW,Ab,AY]);refine BI (i:=28) (oi:=_) (v:=?_) rfl A6 A6 A6 (fun _ _ _ h=>h) (Bq ⟨by rfl,?_⟩) hHeld ?_;rotate_left
  ·intro w hSw
   (try dsimp only at hSw);go_simp
   (try with_reducible rfl)
  (try simp only [AX,Ad,Ac,Act.put,AW,Ab,AY]);refine GZ (rs:=[29]) A6 AO ?_;refine Eg (o:=_) rfl (fun K hK=>?_) GV;go_simp
  refine hK.out _ _ ?_ (fun hHeld=>?_)
  ·go_keep
  clear hK K;(try simp only [AX,Ad,Ac,Act.put,AW,Ab,AY]);refine BI (i:=30) (oi:=_) (v:=?_) rfl A6 A6 A6 (fun _ _ _ h=>h) (Bq ⟨by rfl,?_⟩) hHeld ?_;rotate_left
  ·intro w hSw
   (try dsimp only at hSw);go_simp
   (try with_reducible rfl)
  (try simp only [AX,Ad,Ac,Act.put,AW,Ab,AY]);refine VJ A6 ?_ _;refine Yn ?_;go_wp2_with fail;have RN:=HS.out _ rfl;refine Al (mK (P:=Tryz.prog) Tryz.results19 _ _ (w.heap.size+1) (w.heap.size+1+1) [.slice GA gn B9,.slice PA pn B7] [.slice JM gn Gp,.slice IA gn Dx,.slice DA dn Km] _ _ rfl (FM RN.2.1.1) rfl (FM RN.2.1.2) Zl rfl A6 iG rfl A6) rfl ?_;exact⟨.inl ⟨HYC.out Lz,RN.2.2 Lz⟩,RN.1⟩
end Go.Proofs.YtlmgkipmfgijiaaGreatDoor
