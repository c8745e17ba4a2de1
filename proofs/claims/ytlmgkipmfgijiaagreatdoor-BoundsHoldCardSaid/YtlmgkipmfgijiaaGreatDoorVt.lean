/-
  What is proved here: parts dAnz.
-/
import Derived.Test.YtlmgkipmfgijiaaGreatDoorVa
import Derived.Test.YtlmgkipmfgijiaaGreatDoorVs
import Derived.Test.YtlmgkipmfgijiaaGreatDoorVf
import Derived.Test.YtlmgkipmfgijiaaGreatDoorVb
import Derived.Laws.CopyOwn
import Derived.Deep.RegionHeld3
namespace Go.Proofs.YtlmgkipmfgijiaaGreatDoor
set_option linter.unusedVariables false
set_option linter.unusedSimpArgs false
set_option maxRecDepth 100000
set_option maxHeartbeats 8000000
open Go.RowKit
theorem fJ {P:Program} {fn:Func} {a u b v:Tmp} {ty tz:TypeId} (h:fn.results=#[.cell a ty,.tmp u,.cell b tz,.tmp v]) (tmps:Array Value) (w:World) (p q:Nat) (cs ds:List Value) (d d':TypeDesc) (ha:tmps.getD a undef=.pointer (some ⟨p,0,none⟩)) (hc:w.rangeAt p 0 cs) (hb:tmps.getD b undef=.pointer (some ⟨q,0,none⟩)) (hd':w.rangeAt q 0 ds)
  (hu:P.underlying ty=some d) (hd:d.isRow=true) (hi:(P.info? ty).map (·.size)=some cs.length) (hu':P.underlying tz=some d') (hdd:d'.isRow=true) (hi':(P.info? tz).map (·.size)=some ds.length):(results fn tmps).run P w=.ok (.tuple #[.agg cs.toArray,tmps.getD u undef,.agg ds.toArray,tmps.getD v undef]) w:=by
 have h1:=aP (P:=P) w p 0 ty cs d hc hu hd hi;have h2:=aP (P:=P) w q 0 tz ds d' hd' hu' hdd hi';simp only [results,h];simp only [List.mapM_toArray,jP,List.mapM_nil,ha,hb,QH,eX,Yz,cO,h1,h2,Sem.run_map,pure_bind,bind_pure];simp [h1,h2,Yz]
theorem atO {w F:World} {q4 q6:Nat} {a b c d e:Value} {T U:TypeId} {z:Value} (h4:w.heap[q4]?=some (.cells #[z,z] T (0,0))) (h6:w.heap[q6]?=some (.cells #[z,z,z] U (0,0))) (hne:q4≠q6)
  (hF:F=((((w.setCell ⟨q4,0,none⟩ a).setCell ⟨q4,1,none⟩ b).setCell ⟨q6,0,none⟩ c).setCell ⟨q6,1,none⟩ d).setCell ⟨q6,2,none⟩ e) :
  F.heap[q4]?=some (.cells #[a,b] T (0,0))∧F.heap[q6]?=some (.cells #[c,d,e] U (0,0))∧(∀p,¬(p=q4∨p=q6)→F.heap[p]?=w.heap[p]?)∧w.heap.size≤F.heap.size∧(∀(B:Nat) (V:World),Below B V w→B≤q4→B≤q6→Below B V F):=by
 have a1:=Cl w q4 0 _ _ a h4;have a2:=Cl _ q4 1 _ _ b a1;have c0:((w.setCell ⟨q4,0,none⟩ a).setCell ⟨q4,1,none⟩ b).heap[q6]?=_:=(Bb _ _ _ _ (ED hne)).trans ((Bb _ _ _ _ (ED hne)).trans h6);have c1:=Cl _ q6 0 _ _ c c0;have c2:=Cl _ q6 1 _ _ d c1;have c3:=Cl _ q6 2 _ _ e c2;subst hF;refine⟨?_,?_,fun p hp=>?_,by simp,fun B V h h4 h6=>?_⟩
 ·rw [Bb _ _ _ _ (by show q4≠q6;exact hne),Bb _ _ _ _ (by show q4≠q6;exact hne),Bb _ _ _ _ (by show q4≠q6;exact hne)]
  exact a2
 ·exact c3
 ·have p4:p≠q4:=fun e=>hp (.inl e)
  have p6:p≠q6:=fun e=>hp (.inr e);rw [Bb _ _ _ _ (by show p≠q6;exact p6),Bb _ _ _ _ (by show p≠q6;exact p6),Bb _ _ _ _ (by show p≠q6;exact p6),Bb _ _ _ _ (by show p≠q4;exact p4),Bb _ _ _ _ (by show p≠q4;exact p4)]
 ·exact (((((h.setCell (p:=⟨q4,0,none⟩) h4 _).setCell (p:=⟨q4,1,none⟩) h4 _).setCell (p:=⟨q6,0,none⟩) h6 _).setCell (p:=⟨q6,1,none⟩) h6 _).setCell (p:=⟨q6,2,none⟩) h6 _)
structure VK (w:World) (cd:Nat→Int) (G:List AU) (P:List (List Int)) (bv pv lv rv iv dv:Value) (D:List Int) (L:List Lp) (s:AS):Prop where
 Kg:E7 w bv G
 lls:Dk w pv P
 Ox:IW w lv L
 tree:Ec G D
 loops:Hy P (C6 G.length (Aa G)) (Cw G.length (Aa G)) (CP G G.length []) D L
 ends:Ends (BR cd G) (EI G.length) s
 Ji:Hq w rv s.reach
 AG:∃A cap,iv=.slice A s.AG.length cap∧s.AG.length≤cap∧cap≤maxLen
 l1:s.reach.length=G.length
 l2:s.AG.length=G.length
 dvs:∃A n c,dv=.slice A n c
def VN (v:Value):Prop:=∃A n c,v=Value.slice A n c
def R9 (n:Nat) (cd:Nat→Int) (AO:List Bt) (sh lk task:Int):Prop:=∃(k:Nat) (en:Bt) (G:List AU) (P:List (List Int)),task=(k:Int)∧DT n cd AO sh lk k en G P∧∀D,Ec G D→LY (C6 G.length (Aa G)) (Cw G.length (Aa G)) D (CP G G.length [])
def cQ (w:World) (n:Nat) (cd:Nat→Int) (AO:List Bt) (sh lk task:Int) (e:Ending):Prop:=∃(k:Nat) (en:Bt) (G:List AU) (P:List (List Int)) (bv pv lv rv iv dv:Value) (D:List Int) (L:List Lp) (s:AS),task=(k:Int)∧DT n cd AO sh lk k en G P∧VK w cd G P bv pv lv rv iv dv D L s∧e=.returned (.tuple #[.agg #[bv,pv],lv,.agg #[rv,iv,dv],.bool true])
def yD (e:Ending):Prop:=∃bv pv lv rv iv dv:Value,(VN bv∧VN pv∧VN lv∧VN rv∧VN iv∧VN dv)∧e=.returned (.tuple #[.agg #[bv,pv],lv,.agg #[rv,iv,dv],.bool false])
theorem Ec.len {G:List AU} {D:List Int} (h:Ec G D):D.length=G.length:=h.ti.len
theorem R9.tree {n:Nat} {cd:Nat→Int} {AO:List Bt} {sh lk:Int} {k:Nat} {en:Bt} {G:List AU} {P:List (List Int)} {D:List Int} (h:R9 n cd AO sh lk (k:Int)) (g:DT n cd AO sh lk k en G P) (hn:G.length≤5000) (t:Ec G D):LY (C6 G.length (Aa G)) (Cw G.length (Aa G)) D (CP G G.length []):=by
 obtain⟨k',en',G',P',e1,g',h'⟩:=h;obtain rfl:k=k':=by omega
 have h1:=g.he;rw [g'.he] at h1;cases h1;obtain⟨rfl,rfl⟩:=g.same g'.out;exact h' D t
theorem pN (AZ:bR) (cv ev:Value) (sh lk:Int) (n:Nat) (cd:Nat→Int) (AO:List Bt) (task:Int) (w:World) (T:CO w) (HW:Words w cv n cd) (hn:n≤1000) (HE:IZ w ev AO) :
  Calls Tryz.prog 19 #[.agg #[cv,ev,.int .i64 sh,.int .i64 lk],.int .i64 task] w fun e w'=>((R9 n cd AO sh lk task∧cQ w' n cd AO sh lk task e)∨(¬R9 n cd AO sh lk task∧yD e))∧Below w.heap.size w w':=by
 obtain⟨V,hV,k0,k1,k2,bV,sV⟩:=O7 w #[cv,ev,.int .i64 sh,.int .i64 lk] #[.slice none 0 0,.slice none 0 0] #[.slice none 0 0,.slice none 0 0,.slice none 0 0] 25 31 59;have YQ:V.heap.size=w.heap.size+1+1+1:=by rw [←hV];simp
 obtain⟨y0,y1,y2,y3,y4⟩:=FY k0;have⟨Ow,BV,SV,K1,K2,PO,TV,VE⟩:=OI (yH cv ev sh lk n cd AO task V (T.below bV) (HW.below bV) (HE.below bV)) bV YQ k1 k2 (HW.below bV) (T.below bV) HW.wd;have HN:=A3 hn;clear bV sV YQ k0 k1 k2 T HW HE hn;go_enter Tryz.func19,Tryz.ntmps19;go_wp2_with fail;refine Ow.out.mono ?_;rintro e W1 ⟨h,hb1⟩;have B1:=A3 hb1;have x0:=(hb1.cell (p:=⟨w.heap.size,0,none⟩) y4).trans y0;have x1:=(hb1.cell (p:=⟨w.heap.size,1,none⟩) y4).trans y1;have x2:=(hb1.cell (p:=⟨w.heap.size,2,none⟩) y4).trans y2;have x3:=(hb1.cell (p:=⟨w.heap.size,3,none⟩) y4).trans y3;have x4:w.heap.size<W1.heap.size:=by have:=hb1.size;omega
 have K1W:=A3 ((hb1.block _ Y5).trans K1.out);have K2W:=A3 ((hb1.block _ Y5).trans K2.out);have S1:=A3 (show w.heap.size+1+1<W1.heap.size by have:=hb1.size;have:=SV.out;omega);have Ib:=A3 (BV.out.trans (hb1.mono BV.out.size));clear hb1 y0 y1 y2 y3 y4 hV Ow;rcases h with⟨hh,k,en,G,P,GA,PA,BH,B7,hk,hg,rfl,hG,hP,hNG⟩|⟨hno,at_,er,her,rfl⟩;case inr=>
  have der:(er != 0)=true:=by simp [her]
  have HNC:=A3 (show ¬R9 n cd AO sh lk task from fun ⟨k,en,G,P,e1,g,_⟩=>hno ⟨k,en,G,P,e1,g⟩);clear hno her;have K1':=A3 (show (W1.alloc (.cells #[.slice none 0 0,.slice none 0 0] 31)).heap[w.heap.size+1]?=some (.cells #[.slice none 0 0,.slice none 0 0] 31 (0,0)) by rw [Bv _ _ Z4];exact K1W.out);have K2':=A3 (show (W1.alloc (.cells #[.slice none 0 0,.slice none 0 0] 31)).heap[w.heap.size+1+1]?=some (.cells #[.slice none 0 0,.slice none 0 0,.slice none 0 0] 59 (0,0)) by rw [Bv _ _ Z4];exact K2W.out);have BU:=A3 (show Below w.heap.size w (W1.alloc (.cells #[.slice none 0 0,.slice none 0 0] 31)) from Ib.out.alloc Ib.out.size _);go_wp2_with (first|(refine Bk rfl 31 (.tmp 4) (.tmp 25) rfl (w.heap.size+1) #[.slice none 0 0,.slice none 0 0] rfl rfl 31 _ K1'.out A4 rfl Bd ?_)|(refine Bk rfl 59 (.tmp 6) (.tmp 26) rfl (w.heap.size+1+1) #[.slice none 0 0,.slice none 0 0,.slice none 0 0] rfl rfl 59 _ ((Rh _ _ _ _ A0).trans K2'.out) A4 rfl Bd ?_));refine Af (fJ (P:=Tryz.prog) Tryz.results19 _ _ (w.heap.size+1) (w.heap.size+1+1) [.slice none 0 0,.slice none 0 0] [.slice none 0 0,.slice none 0 0,.slice none 0 0] _ _ rfl (Ev ((Rh _ _ _ _ A0).trans (Fg _ _ _ _ _ _ K1'.out))) rfl (Ev (Fg _ _ _ _ _ _ ((Rh _ _ _ _ A0).trans K2'.out))) pM rfl A4 gh rfl A4) rfl ⟨.inr ⟨HNC.out,_,_,_,_,_,_,⟨⟨_,_,_,rfl⟩,⟨_,_,_,rfl⟩,⟨_,_,_,rfl⟩,⟨_,_,_,rfl⟩,⟨_,_,_,rfl⟩,⟨_,_,_,rfl⟩⟩,rfl⟩,Bu (Bu BU.out A0 _) A0 _⟩
 have uF:G.length≤1000:=by have:=hg.len;have:=HN.out;omega
 have⟨Vl,GQ,WQ,sK,HK,NG⟩:=Lt hg hg.val (Gk.2 hg.val.ne) (hg.gok VE.out) hk hNG;obtain⟨gn,hgn⟩:∃m,G.length=m:=⟨_,rfl⟩;obtain⟨pn,I3⟩:∃m,P.length=m:=⟨_,rfl⟩;rw [hgn,I3];rw [hgn] at hG uF;rw [I3] at hP;rw [hgn,I3] at NG;have DU:=A3 hgn;obtain⟨U,hU⟩:=A8 (W1.alloc (.cells #[.slice GA gn BH,.slice PA pn B7] 31));obtain⟨b8,hb8⟩:∃b,W1.heap.size=b:=⟨_,rfl⟩;have bU:Below W1.heap.size W1 U:=hU▸(AV _ _).alloc (AH _) _;have kU:U.heap[b8]?=some (.cells #[.slice GA gn BH,.slice PA pn B7] 31 (0,0)):=by rw [←hb8];exact hU▸AY _ _
 have u0:U.cell? ⟨b8,0,none⟩=some (.slice GA gn BH):=by simp [World.cell?,kU]
 have u1:U.cell? ⟨b8,1,none⟩=some (.slice PA pn B7):=by simp [World.cell?,kU]
 have u2:b8<U.heap.size:=Ak kU;have⟨HGU,HPU,BU1⟩:=Bh (hG.below bU) (hP.below bU) bU;have Mb:=A3 ((ady _ _ G P U (hG.below bU) (hP.below bU) hg.val (by rw [hgn];omega)).mono fun e w' h=>(show ∃(D:List Int) (lA:Option Addr) (ln lc:Nat) (tg er:Int) (SK:Bool),e=.returned (.tuple #[.slice lA ln lc,.int .i64 tg,.int .i64 er])∧(er==0)=SK∧Ec G D∧(SK=true→∃L,IW w' (.slice lA ln lc) L∧Hy P (C6 G.length (Aa G)) (Cw G.length (Aa G)) (CP G G.length []) D L)∧(SK=false→¬LY (C6 G.length (Aa G)) (Cw G.length (Aa G)) D (CP G G.length []))∧Below U.heap.size U w' from by
  obtain⟨⟨D,hT,h1⟩,h2⟩:=h;rcases h1 with⟨lv,L,rfl,hL,Ya⟩|⟨tg,rfl,hne⟩
  ·obtain⟨lA,lc,rfl,-,-⟩:=hL.slice
   exact⟨D,lA,_,lc,_,_,true,rfl,rfl,hT,fun _=>⟨L,hL,Ya⟩,fun h=>(by cases h),h2⟩
  ·exact⟨D,_,_,_,tg,_,false,rfl,rfl,hT,fun h=>(by cases h),fun _=>hne,h2⟩))
 clear kU bU hG hP hg hk hNG hgn I3 hh;go_wp2_with fail;refine Mb.out.mono ?_;rintro e W2 ⟨D,lA,ln,lc,tg,er,SK,rfl,hok,hT,hyes,hno,hb2⟩;have⟨HT,OO,D6,B2,BU2⟩:=FP hT hyes hno (BU1.out.trans (hb2.mono BU1.out.size)) hb2;have s2:=B2.out.size;have v0:=(hb2.cell (p:=⟨b8,0,none⟩) u2).trans u0;have v1:=(hb2.cell (p:=⟨b8,1,none⟩) u2).trans u1;have v2:b8<W2.heap.size:=by have:=hb2.size;omega
 have i0:=(B2.out.cell (p:=⟨w.heap.size,0,none⟩) x4).trans x0;have i1:=(B2.out.cell (p:=⟨w.heap.size,1,none⟩) x4).trans x1;have i2:=(B2.out.cell (p:=⟨w.heap.size,2,none⟩) x4).trans x2;have i3:=(B2.out.cell (p:=⟨w.heap.size,3,none⟩) x4).trans x3;have i4:w.heap.size<W2.heap.size:=by omega
 have B12:=A3 (B1.out.trans (B2.out.mono B1.out.size));have HAZ:=A3 (AZ cv ev _ _ sh lk n cd G P W2 (TV.out.below B12.out) (PO.out.below B12.out) (HGU.out.below hb2) (HPU.out.below hb2) GQ.out WQ.out (by rw [DU.out];exact uF) sK.out);clear hT hyes hno hb2 u0 u1 u2 x0 x1 x2 x3 x4 Mb hU;go_wp2_with fail;refine HAZ.out.mono ?_;rintro e W3 ⟨⟨s,rv,iv,dv,hE,rfl,hR,hD,hN⟩,hb3⟩;have FX:=qy (n:=n) WQ.out sK.out hE;have Kj:=A3 hE;obtain⟨JX,H8,Jr,hr1,hr2,hr3⟩:=hR.bls.1;obtain⟨IA,EF,hiv,hi1,hi2⟩:=hR.bls.2;obtain⟨DA,Ik,YV,-,-,-⟩:=hD;have hl1:=FX.El.l1;have hl2:=FX.El.l2;have Y7:=A3 (Eg hl1 hl2);have HRB:=hR.bls.1;obtain⟨dn,hdn⟩:∃d,(Em (BR cd G) s G.length).length=d:=⟨_,rfl⟩;rw [hdn] at YV;rw [hl1,DU.out] at Jr hr1;rw [hl2,DU.out] at hiv hi1;subst Jr hiv YV;have⟨qF,HI2⟩:=AQ HRB (Eg hi1 hi2);obtain⟨Y,hY⟩:=A8 (W3.alloc (.cells #[.slice JX gn H8,.slice IA gn EF,.slice DA dn Ik] 59));obtain⟨b14,je⟩:∃b,W3.heap.size=b:=⟨_,rfl⟩;have bY:Below W3.heap.size W3 Y:=hY▸(AV _ _).alloc (AH _) _;have kY:Y.heap[b14]?=some (.cells #[.slice JX gn H8,.slice IA gn EF,.slice DA dn Ik] 59 (0,0)):=by rw [←je];exact hY▸AY _ _
 have Ut:Below W2.heap.size W2 Y:=hb3.trans (bY.mono hb3.size);have y0:Y.cell? ⟨b14,0,none⟩=some (.slice JX gn H8):=by simp [World.cell?,kY]
 have y1:Y.cell? ⟨b14,1,none⟩=some (.slice IA gn EF):=by simp [World.cell?,kY]
 have y2:Y.cell? ⟨b14,2,none⟩=some (.slice DA dn Ik):=by simp [World.cell?,kY]
 have y3:b14<Y.heap.size:=Ak kY;have z0:=(Ut.cell (p:=⟨b8,0,none⟩) v2).trans v0;have z1:=(Ut.cell (p:=⟨b8,1,none⟩) v2).trans v1;have⟨BY,BUY,Ve,S3,HRY⟩:=FP (B2.out.trans (Ut.mono B2.out.size)) (BU2.out.trans (Ut.mono BU2.out.size)) Ut hb3.size (qF.out.below bY);clear hE hR hN hb3 FX hr3 HRB kY Ut bY v0 v1 v2 i0 i1 i2 i3 i4 HAZ hl1 hl2 hdn hr2 hi2;go_upto_region 6 with fail;have Jn:=A3 (show Y.drew.heap[w.heap.size+1]?=some (.cells #[.slice none 0 0,.slice none 0 0] 31 (0,0))∧Y.drew.heap[w.heap.size+1+1]?=some (.cells #[.slice none 0 0,.slice none 0 0,.slice none 0 0] 59 (0,0)) from
  ⟨(BY.out.block _ Z4).trans K1W.out,(BY.out.block _ Z4).trans K2W.out⟩)
 have HS:=A3 (show ∀(F:World),F=((((Y.drew.setCell ⟨w.heap.size+1,0,none⟩ (.slice GA gn BH)).setCell ⟨w.heap.size+1,1,none⟩ (.slice PA pn B7)).setCell ⟨w.heap.size+1+1,0,none⟩ (.slice JX gn H8)).setCell ⟨w.heap.size+1+1,1,none⟩ (.slice IA gn EF)).setCell ⟨w.heap.size+1+1,2,none⟩ (.slice DA dn Ik)→Below w.heap.size w F∧(F.heap[w.heap.size+1]?=some (.cells #[.slice GA gn BH,.slice PA pn B7] 31 (0,0))∧F.heap[w.heap.size+1+1]?=some (.cells #[.slice JX gn H8,.slice IA gn EF,.slice DA dn Ik] 59 (0,0)))∧(SK=true→cQ F n cd AO sh lk task (.returned (.tuple #[.agg #[.slice GA gn BH,.slice PA pn B7],.slice lA ln lc,.agg #[.slice JX gn H8,.slice IA gn EF,.slice DA dn Ik],.bool true]))) from fun F hF=>by
  obtain⟨f1,f2⟩:=Jn.out;have hd:Below Y.heap.size Y Y.drew:=Dl (AV _ _);have hb:Below w.heap.size w Y.drew:=Ib.out.trans ((BY.out.trans (hd.mono BY.out.size)).mono Ib.out.size);obtain⟨t1,t2,t3,t4,t5⟩:=atO f1 f2 A0 hF;refine⟨t5 _ _ hb A0 A0,⟨t1,t2⟩,fun ho=>?_⟩;obtain⟨L,hL,Ya⟩:=OO.out ho;have hpt:Pt Y.drew F (fun q=>q=w.heap.size+1∨q=w.heap.size+1+1):=by
   refine⟨fun q hq o v hv=>?_,fun p hp=>t3 p hp,t4⟩
   ·rcases hq with rfl|rfl
    ·simp only [World.cell?,f1] at hv
     match o,hv with
     | 0,hv=>simp at hv;exact⟨_,_,_,hv.symm⟩
     | 1,hv=>simp at hv;exact⟨_,_,_,hv.symm⟩
     | o+2,hv=>simp at hv
    ·simp only [World.cell?,f2] at hv
     match o,hv with
     | 0,hv=>simp at hv;exact⟨_,_,_,hv.symm⟩
     | 1,hv=>simp at hv;exact⟨_,_,_,hv.symm⟩
     | 2,hv=>simp at hv;exact⟨_,_,_,hv.symm⟩
     | o+3,hv=>simp at hv
  have hux:=BUY.out.trans (hd.mono BUY.out.size);have h2x:=Ve.out.trans (hd.mono Ve.out.size);refine⟨k,en,G,P,_,_,_,_,_,_,D,L,s,HK.out,Vl.out,⟨(HGU.out.below hux).pt hpt,(HPU.out.below hux).pt hpt (fun p hp hq=>?_),(hL.below h2x).pt hpt,HT.out,Ya,Kj.out,(HRY.out.below hd).pt hpt,⟨IA,EF,by rw [Y7.out.2,DU.out],by rw [Y7.out.2,DU.out];exact HI2.out.1,HI2.out.2⟩,Y7.out.1,Y7.out.2,⟨_,_,_,rfl⟩⟩,rfl⟩;have:=NG.out.2 p hp;have:=SV.out
  rcases hq with rfl|rfl<;>omega)
 have HNC:=A3 (show SK=false→¬R9 n cd AO sh lk task from fun h hc=>by
  rw [HK.out] at hc
  exact D6.out h (hc.tree Vl.out Tb HT.out))
 have HYC:=A3 (show SK=true→R9 n cd AO sh lk task from fun h=>by
  obtain⟨L,hL,Ya⟩:=OO.out h;refine⟨k,en,G,P,HK.out,Vl.out,fun D' h'=>?_⟩;rw [←Ec.eq GQ.out Tb h',Ec.eq GQ.out Tb HT.out]
  exact Ya.ok)
 have g4:Y.heap[w.heap.size+1]?=some (.cells #[.slice none 0 0,.slice none 0 0] 31 (0,0)):=by
  exact (BY.out.block _ Z4).trans K1W.out
 have g6:Y.heap[w.heap.size+1+1]?=some (.cells #[.slice none 0 0,.slice none 0 0,.slice none 0 0] 59 (0,0)):=by
  exact (BY.out.block _ Z4).trans K2W.out
 have a0:Y.cell? ⟨w.heap.size+1,0,none⟩=some (.slice none 0 0):=by simp [World.cell?,g4]
 have a1:Y.cell? ⟨w.heap.size+1,1,none⟩=some (.slice none 0 0):=by simp [World.cell?,g4]
 have a2:Y.frozen? ⟨w.heap.size+1,0,none⟩=false:=by simp [World.frozen?,g4]
 have a3:Y.frozen? ⟨w.heap.size+1,1,none⟩=false:=by simp [World.frozen?,g4]
 have c0:Y.cell? ⟨w.heap.size+1+1,0,none⟩=some (.slice none 0 0):=by simp [World.cell?,g6]
 have c1:Y.cell? ⟨w.heap.size+1+1,1,none⟩=some (.slice none 0 0):=by simp [World.cell?,g6]
 have c2:Y.cell? ⟨w.heap.size+1+1,2,none⟩=some (.slice none 0 0):=by simp [World.cell?,g6]
 have c3:Y.frozen? ⟨w.heap.size+1+1,0,none⟩=false:=by simp [World.frozen?,g6]
 have c4:Y.frozen? ⟨w.heap.size+1+1,1,none⟩=false:=by simp [World.frozen?,g6]
 have c5:Y.frozen? ⟨w.heap.size+1+1,2,none⟩=false:=by simp [World.frozen?,g6]
 have n1:w.heap.size+1≠w.heap.size+1+1:=by omega
 have n2:b8≠w.heap.size+1:=by have:=S1.out;omega
 have n3:b8≠w.heap.size+1+1:=by have:=S1.out;omega
 have n4:b14≠w.heap.size+1:=by have:=S1.out;have:=S3.out;omega
 have n5:b14≠w.heap.size+1+1:=by have:=S1.out;have:=S3.out;omega
 have n2':=n2.symm;have n3':=n3.symm;have n4':=n4.symm;have n5':=n5.symm;clear g4 g6 Jn HRY Ve BUY BY Kj Y7 qF HI2 OO D6;rcases SK with _|_
 ·refine Yl ?_
  refine r8 (S:=fun w'=>w'.cell? ⟨b8,0,none⟩=some (.slice GA gn BH)∧w'.cell? ⟨b8,1,none⟩=some (.slice PA pn B7)∧w'.cell? ⟨b14,0,none⟩=some (.slice JX gn H8)∧w'.cell? ⟨b14,1,none⟩=some (.slice IA gn EF)∧w'.cell? ⟨b14,2,none⟩=some (.slice DA dn Ik)) A4 ?_ (fun hHeld=>?_)
  ·go_keep
  refine Bf (i:=0) (oi:=_) (v:=?_) rfl A4 A4 A4 (fun _ _ _ h=>h) (CZ ⟨by rfl,?_⟩) hHeld ?_;rotate_left
  ·intro w hSw
   (try dsimp only at hSw);go_simp
   (try with_reducible rfl)
  (try simp only [Az,B9,BB,Act.put,Ax,B8,Aw]);refine Bf (i:=1) (oi:=_) (v:=?_) rfl A4 A4 A4 (fun _ _ _ h=>h) (CZ ⟨by rfl,?_⟩) hHeld ?_;rotate_left
  ·intro w hSw
   (try dsimp only at hSw);go_simp
   (try with_reducible rfl)
  (try simp only [Az,B9,BB,Act.put,Ax,B8,Aw]);refine Bf (i:=2) (oi:=_) (v:=?_) rfl A4 A4 A4 (fun _ _ _ h=>h) (CZ ⟨by rfl,?_⟩) hHeld ?_;rotate_left
  ·intro w hSw
   (try dsimp only at hSw);go_simp
   (try with_reducible rfl)
  (try simp only [Az,B9,BB,Act.put,Ax,B8,Aw]);refine Bf (i:=3) (oi:=_) (v:=?_) rfl A4 A4 A4 (fun _ _ _ h=>h) (CZ ⟨by rfl,?_⟩) hHeld ?_;rotate_left
  ·intro w hSw
   (try dsimp only at hSw);go_simp
   (try with_reducible rfl)
  (try simp only [Az,B9,BB,Act.put,Ax,B8,Aw]);refine Bf (i:=4) (oi:=_) (v:=?_) rfl A4 A4 A4 (fun _ _ _ h=>h) (CZ ⟨by rfl,?_⟩) hHeld ?_;rotate_left
  ·intro w hSw
   (try dsimp only at hSw);go_simp
   (try with_reducible rfl)
  (try simp only [Az,B9,BB,Act.put,Ax,B8,Aw]);refine Bf (i:=5) (oi:=_) (v:=?_) rfl A4 A4 A4 (fun _ _ _ h=>h) (CZ ⟨by rfl,?_⟩) hHeld ?_;rotate_left
  ·intro w hSw
   (try dsimp only at hSw);go_simp
   (try with_reducible rfl)
  (try simp only [Az,B9,BB,Act.put,Ax,B8,Aw]);refine Bf (i:=6) (oi:=_) (v:=undef) rfl A4 A4 A4 (fun _ _ _ h=>h) (Jl ⟨by rfl,rfl⟩) hHeld ?_;(try simp only [Az,B9,BB,Act.put,Ax,B8,Aw]);refine Bf (i:=7) (oi:=_) (v:=undef) rfl A4 A4 A4 (fun _ _ _ h=>h) (Jl ⟨by rfl,rfl⟩) hHeld ?_;(try simp only [Az,B9,BB,Act.put,Ax,B8,Aw]);refine Bf (i:=8) (oi:=_) (v:=?_) rfl A4 A4 A4 (fun _ _ _ h=>h) (CZ ⟨by rfl,?_⟩) hHeld ?_;rotate_left
  ·intro w hSw
   (try dsimp only at hSw);go_simp
   (try with_reducible rfl)
  (try simp only [Az,B9,BB,Act.put,Ax,B8,Aw]);refine Bf (i:=9) (oi:=_) (v:=?_) rfl A4 A4 A4 (fun _ _ _ h=>h) (CZ ⟨by rfl,?_⟩) hHeld ?_;rotate_left
  ·intro w hSw
   (try dsimp only at hSw);go_simp
   (try with_reducible rfl)
  (try simp only [Az,B9,BB,Act.put,Ax,B8,Aw]);refine Bf (i:=10) (oi:=_) (v:=undef) rfl A4 A4 A4 (fun _ _ _ h=>h) (Jl ⟨by rfl,rfl⟩) hHeld ?_;(try simp only [Az,B9,BB,Act.put,Ax,B8,Aw]);refine Bf (i:=11) (oi:=_) (v:=undef) rfl A4 A4 A4 (fun _ _ _ h=>h) (Jl ⟨by rfl,rfl⟩) hHeld ?_;(try simp only [Az,B9,BB,Act.put,Ax,B8,Aw]);refine Bf (i:=12) (oi:=_) (v:=undef) rfl A4 A4 A4 (fun _ _ _ h=>h) (Jl ⟨by rfl,rfl⟩) hHeld ?_;(try simp only [Az,B9,BB,Act.put,Ax,B8,Aw]);refine Bf (i:=13) (oi:=_) (v:=undef) rfl A4 A4 A4 (fun _ _ _ h=>h) (Jl ⟨by rfl,rfl⟩) hHeld ?_;(try simp only [Az,B9,BB,Act.put,Ax,B8,Aw]);refine Bf (i:=14) (oi:=_) (v:=undef) rfl A4 A4 A4 (fun _ _ _ h=>h) (Jl ⟨by rfl,rfl⟩) hHeld ?_;(try simp only [Az,B9,BB,Act.put,Ax,B8,Aw]);refine Bf (i:=15) (oi:=_) (v:=undef) rfl A4 A4 A4 (fun _ _ _ h=>h) (Jl ⟨by rfl,rfl⟩) hHeld ?_;(try simp only [Az,B9,BB,Act.put,Ax,B8,Aw]);refine Bf (i:=16) (oi:=_) (v:=undef) rfl A4 A4 A4 (fun _ _ _ h=>h) (Jl ⟨by rfl,rfl⟩) hHeld ?_;(try simp only [Az,B9,BB,Act.put,Ax,B8,Aw]);refine Bf (i:=17) (oi:=_) (v:=?_) rfl A4 A4 A4 (fun _ _ _ h=>h) (CZ ⟨by rfl,?_⟩) hHeld ?_;rotate_left
  ·intro w hSw
   (try dsimp only at hSw);go_simp
   (try with_reducible rfl)
  (try simp only [Az,B9,BB,Act.put,Ax,B8,Aw]);refine Bf (i:=18) (oi:=_) (v:=?_) rfl A4 A4 A4 (fun _ _ _ h=>h) (CZ ⟨by rfl,?_⟩) hHeld ?_;rotate_left
  ·intro w hSw
   (try dsimp only at hSw);go_simp
   (try with_reducible rfl)
  (try simp only [Az,B9,BB,Act.put,Ax,B8,Aw]);refine Bf (i:=19) (oi:=_) (v:=undef) rfl A4 A4 A4 (fun _ _ _ h=>h) (Jl ⟨by rfl,rfl⟩) hHeld ?_;(try simp only [Az,B9,BB,Act.put,Ax,B8,Aw]);refine Bf (i:=20) (oi:=_) (v:=undef) rfl A4 A4 A4 (fun _ _ _ h=>h) (Jl ⟨by rfl,rfl⟩) hHeld ?_;(try simp only [Az,B9,BB,Act.put,Ax,B8,Aw]);refine Bf (i:=21) (oi:=_) (v:=undef) rfl A4 A4 A4 (fun _ _ _ h=>h) (Jl ⟨by rfl,rfl⟩) hHeld ?_;(try simp only [Az,B9,BB,Act.put,Ax,B8,Aw]);refine Bf (i:=22) (oi:=_) (v:=undef) rfl A4 A4 A4 (fun _ _ _ h=>h) (Jl ⟨by rfl,rfl⟩) hHeld ?_;(try simp only [Az,B9,BB,Act.put,Ax,B8,Aw]);refine Bf (i:=23) (oi:=_) (v:=undef) rfl A4 A4 A4 (fun _ _ _ h=>h) (Jl ⟨by rfl,rfl⟩) hHeld ?_;(try simp only [Az,B9,BB,Act.put,Ax,B8,Aw]);refine Bf (i:=24) (oi:=_) (v:=undef) rfl A4 A4 A4 (fun _ _ _ h=>h) (Jl ⟨by rfl,rfl⟩) hHeld ?_;(try simp only [Az,B9,BB,Act.put,Ax,B8,Aw]);refine Bf (i:=25) (oi:=_) (v:=undef) rfl A4 A4 A4 (fun _ _ _ h=>h) (Jl ⟨by rfl,rfl⟩) hHeld ?_;(try simp only [Az,B9,BB,Act.put,Ax,B8,Aw]);refine Bf (i:=26) (oi:=_) (v:=?_) rfl A4 A4 A4 (fun _ _ _ h=>h) (CZ ⟨by rfl,?_⟩) hHeld ?_;rotate_left
  ·intro w hSw
   (try dsimp only at hSw);go_simp
   (try with_reducible rfl)
  (try simp only [Az,B9,BB,Act.put,Ax,B8,Aw]);refine RD (rs:=[27]) A4 AR ?_;refine QK (o:=_) rfl (fun K hK=>?_) S4;go_simp
  refine hK.out _ _ ?_ (fun hHeld=>?_)
  ·go_keep
  clear hK K;(try simp only [Az,B9,BB,Act.put,Ax,B8,Aw]);refine Bf (i:=28) (oi:=_) (v:=?_) rfl A4 A4 A4 (fun _ _ _ h=>h) (CZ ⟨by rfl,?_⟩) hHeld ?_;rotate_left
  ·intro w hSw
   (try dsimp only at hSw);go_simp
   (try with_reducible rfl)
  (try simp only [Az,B9,BB,Act.put,Ax,B8,Aw]);refine RD (rs:=[29]) A4 AR ?_;refine QK (o:=_) rfl (fun K hK=>?_) S4;go_simp
  refine hK.out _ _ ?_ (fun hHeld=>?_)
  ·go_keep
  clear hK K;(try simp only [Az,B9,BB,Act.put,Ax,B8,Aw]);refine Bf (i:=30) (oi:=_) (v:=?_) rfl A4 A4 A4 (fun _ _ _ h=>h) (CZ ⟨by rfl,?_⟩) hHeld ?_;rotate_left
  ·intro w hSw
   (try dsimp only at hSw);go_simp
   (try with_reducible rfl)
  (try simp only [Az,B9,BB,Act.put,Ax,B8,Aw]);refine wpAnyH_done A4 ?_ _;refine ZM ?_;go_wp2_with fail;have Rz:=HS.out _ rfl;refine Af (fJ (P:=Tryz.prog) Tryz.results19 _ _ (w.heap.size+1) (w.heap.size+1+1) [.slice GA gn BH,.slice PA pn B7] [.slice JX gn H8,.slice IA gn EF,.slice DA dn Ik] _ _ rfl (Ev Rz.2.1.1) rfl (Ev Rz.2.1.2) pM rfl A4 gh rfl A4) rfl ?_;exact⟨.inr ⟨HNC.out Z6,.slice GA gn BH,.slice PA pn B7,.slice lA ln lc,.slice JX gn H8,.slice IA gn EF,.slice DA dn Ik,⟨⟨_,_,_,rfl⟩,⟨_,_,_,rfl⟩,⟨_,_,_,rfl⟩,⟨_,_,_,rfl⟩,⟨_,_,_,rfl⟩,⟨_,_,_,rfl⟩⟩,rfl⟩,Rz.1⟩
 ·refine Yl ?_
  refine r8 (S:=fun w'=>w'.cell? ⟨b8,0,none⟩=some (.slice GA gn BH)∧w'.cell? ⟨b8,1,none⟩=some (.slice PA pn B7)∧w'.cell? ⟨b14,0,none⟩=some (.slice JX gn H8)∧w'.cell? ⟨b14,1,none⟩=some (.slice IA gn EF)∧w'.cell? ⟨b14,2,none⟩=some (.slice DA dn Ik)) A4 ?_ (fun hHeld=>?_)
  ·go_keep
  refine Bf (i:=0) (oi:=_) (v:=?_) rfl A4 A4 A4 (fun _ _ _ h=>h) (CZ ⟨by rfl,?_⟩) hHeld ?_;rotate_left
  ·intro w hSw
   (try dsimp only at hSw);go_simp
   (try with_reducible rfl)
  (try simp only [Az,B9,BB,Act.put,Ax,B8,Aw]);refine Bf (i:=1) (oi:=_) (v:=?_) rfl A4 A4 A4 (fun _ _ _ h=>h) (CZ ⟨by rfl,?_⟩) hHeld ?_;rotate_left
  ·intro w hSw
   (try dsimp only at hSw);go_simp
   (try with_reducible rfl)
  (try simp only [Az,B9,BB,Act.put,Ax,B8,Aw]);refine Bf (i:=2) (oi:=_) (v:=?_) rfl A4 A4 A4 (fun _ _ _ h=>h) (CZ ⟨by rfl,?_⟩) hHeld ?_;rotate_left
  ·intro w hSw
   (try dsimp only at hSw);go_simp
   (try with_reducible rfl)
  (try simp only [Az,B9,BB,Act.put,Ax,B8,Aw]);refine Bf (i:=3) (oi:=_) (v:=?_) rfl A4 A4 A4 (fun _ _ _ h=>h) (CZ ⟨by rfl,?_⟩) hHeld ?_;rotate_left
  ·intro w hSw
   (try dsimp only at hSw);go_simp
   (try with_reducible rfl)
  (try simp only [Az,B9,BB,Act.put,Ax,B8,Aw]);refine Bf (i:=4) (oi:=_) (v:=?_) rfl A4 A4 A4 (fun _ _ _ h=>h) (CZ ⟨by rfl,?_⟩) hHeld ?_;rotate_left
  ·intro w hSw
   (try dsimp only at hSw);go_simp
   (try with_reducible rfl)
  (try simp only [Az,B9,BB,Act.put,Ax,B8,Aw]);refine Bf (i:=5) (oi:=_) (v:=?_) rfl A4 A4 A4 (fun _ _ _ h=>h) (CZ ⟨by rfl,?_⟩) hHeld ?_;rotate_left
  ·intro w hSw
   (try dsimp only at hSw);go_simp
   (try with_reducible rfl)
  (try simp only [Az,B9,BB,Act.put,Ax,B8,Aw]);refine Bf (i:=6) (oi:=_) (v:=?_) rfl A4 A4 A4 (fun _ _ _ h=>h) (CZ ⟨by rfl,?_⟩) hHeld ?_;rotate_left
  ·intro w hSw
   (try dsimp only at hSw);go_simp
   (try with_reducible rfl)
  (try simp only [Az,B9,BB,Act.put,Ax,B8,Aw]);refine Bf (i:=7) (oi:=_) (v:=?_) rfl A4 A4 A4 (fun _ _ _ h=>h) (CZ ⟨by rfl,?_⟩) hHeld ?_;rotate_left
  ·intro w hSw
   (try dsimp only at hSw);go_simp
   (try with_reducible rfl)
  (try simp only [Az,B9,BB,Act.put,Ax,B8,Aw]);refine Bf (i:=8) (oi:=_) (v:=?_) rfl A4 A4 A4 (fun _ _ _ h=>h) (CZ ⟨by rfl,?_⟩) hHeld ?_;rotate_left
  ·intro w hSw
   (try dsimp only at hSw);go_simp
   (try with_reducible rfl)
  (try simp only [Az,B9,BB,Act.put,Ax,B8,Aw]);refine Bf (i:=9) (oi:=_) (v:=?_) rfl A4 A4 A4 (fun _ _ _ h=>h) (CZ ⟨by rfl,?_⟩) hHeld ?_;rotate_left
  ·intro w hSw
   (try dsimp only at hSw);go_simp
   (try with_reducible rfl)
  (try simp only [Az,B9,BB,Act.put,Ax,B8,Aw]);refine Bf (i:=10) (oi:=_) (v:=?_) rfl A4 A4 A4 (fun _ _ _ h=>h) (CZ ⟨by rfl,?_⟩) hHeld ?_;rotate_left
  ·intro w hSw
   (try dsimp only at hSw);go_simp
   (try with_reducible rfl)
  (try simp only [Az,B9,BB,Act.put,Ax,B8,Aw]);refine Bf (i:=11) (oi:=_) (v:=?_) rfl A4 A4 A4 (fun _ _ _ h=>h) (CZ ⟨by rfl,?_⟩) hHeld ?_;rotate_left
  ·intro w hSw
   (try dsimp only at hSw);go_simp
   (try with_reducible rfl)
  (try simp only [Az,B9,BB,Act.put,Ax,B8,Aw]);refine Bf (i:=12) (oi:=_) (v:=?_) rfl A4 A4 A4 (fun _ _ _ h=>h) (CZ ⟨by rfl,?_⟩) hHeld ?_;rotate_left
  ·intro w hSw
   (try dsimp only at hSw);go_simp
   (try with_reducible rfl)
  (try simp only [Az,B9,BB,Act.put,Ax,B8,Aw]);refine Bf (i:=13) (oi:=_) (v:=?_) rfl A4 A4 A4 (fun _ _ _ h=>h) (CZ ⟨by rfl,?_⟩) hHeld ?_;rotate_left
  ·intro w hSw
   (try dsimp only at hSw);go_simp
   (try with_reducible rfl)
  (try simp only [Az,B9,BB,Act.put,Ax,B8,Aw]);refine Bf (i:=14) (oi:=_) (v:=?_) rfl A4 A4 A4 (fun _ _ _ h=>h) (CZ ⟨by rfl,?_⟩) hHeld ?_;rotate_left
  ·intro w hSw
   (try dsimp only at hSw);go_simp
   (try with_reducible rfl)
  (try simp only [Az,B9,BB,Act.put,Ax,B8,Aw]);refine Bf (i:=15) (oi:=_) (v:=?_) rfl A4 A4 A4 (fun _ _ _ h=>h) (CZ ⟨by rfl,?_⟩) hHeld ?_;rotate_left
  ·intro w hSw
   (try dsimp only at hSw);go_simp
   (try with_reducible rfl)
  (try simp only [Az,B9,BB,Act.put,Ax,B8,Aw]);refine Bf (i:=16) (oi:=_) (v:=?_) rfl A4 A4 A4 (fun _ _ _ h=>h) (CZ ⟨by rfl,?_⟩) hHeld ?_;rotate_left
  ·intro w hSw
   (try dsimp only at hSw);go_simp
   (try with_reducible rfl)
  (try simp only [Az,B9,BB,Act.put,Ax,B8,Aw]);refine Bf (i:=17) (oi:=_) (v:=?_) rfl A4 A4 A4 (fun _ _ _ h=>h) (CZ ⟨by rfl,?_⟩) hHeld ?_;rotate_left
  ·intro w hSw
   (try dsimp only at hSw);go_simp
   (try with_reducible rfl)
  (try simp only [Az,B9,BB,Act.put,Ax,B8,Aw]);refine Bf (i:=18) (oi:=_) (v:=?_) rfl A4 A4 A4 (fun _ _ _ h=>h) (CZ ⟨by rfl,?_⟩) hHeld ?_;rotate_left
  ·intro w hSw
   (try dsimp only at hSw);go_simp
   (try with_reducible rfl)
  (try simp only [Az,B9,BB,Act.put,Ax,B8,Aw]);refine Bf (i:=19) (oi:=_) (v:=?_) rfl A4 A4 A4 (fun _ _ _ h=>h) (CZ ⟨by rfl,?_⟩) hHeld ?_;rotate_left
  ·intro w hSw
   (try dsimp only at hSw);go_simp
   (try with_reducible rfl)
  (try simp only [Az,B9,BB,Act.put,Ax,B8,Aw]);refine Bf (i:=20) (oi:=_) (v:=?_) rfl A4 A4 A4 (fun _ _ _ h=>h) (CZ ⟨by rfl,?_⟩) hHeld ?_;rotate_left
  ·intro w hSw
   (try dsimp only at hSw);go_simp
   (try with_reducible rfl)
  (try simp only [Az,B9,BB,Act.put,Ax,B8,Aw]);refine Bf (i:=21) (oi:=_) (v:=?_) rfl A4 A4 A4 (fun _ _ _ h=>h) (CZ ⟨by rfl,?_⟩) hHeld ?_;rotate_left
  ·intro w hSw
   (try dsimp only at hSw);go_simp
   (try with_reducible rfl)
  (try simp only [Az,B9,BB,Act.put,Ax,B8,Aw]);refine Bf (i:=22) (oi:=_) (v:=?_) rfl A4 A4 A4 (fun _ _ _ h=>h) (CZ ⟨by rfl,?_⟩) hHeld ?_;rotate_left
  ·intro w hSw
   (try dsimp only at hSw);go_simp
   (try with_reducible rfl)
  (try simp only [Az,B9,BB,Act.put,Ax,B8,Aw]);refine Bf (i:=23) (oi:=_) (v:=?_) rfl A4 A4 A4 (fun _ _ _ h=>h) (CZ ⟨by rfl,?_⟩) hHeld ?_;rotate_left
  ·intro w hSw
   (try dsimp only at hSw);go_simp
   (try with_reducible rfl)
  (try simp only [Az,B9,BB,Act.put,Ax,B8,Aw]);refine Bf (i:=24) (oi:=_) (v:=?_) rfl A4 A4 A4 (fun _ _ _ h=>h) (CZ ⟨by rfl,?_⟩) hHeld ?_;rotate_left
  ·intro w hSw
   (try dsimp only at hSw);go_simp
   (try with_reducible rfl)
  (try simp only [Az,B9,BB,Act.put,Ax,B8,Aw]);refine Bf (i:=25) (oi:=_) (v:=?_) rfl A4 A4 A4 (fun _ _ _ h=>h) (CZ ⟨by rfl,?_⟩) hHeld ?_;rotate_left
  ·intro w hSw
   (try dsimp only at hSw);go_simp
   (try with_reducible rfl)
  (try simp only [Az,B9,BB,Act.put,Ax,B8,Aw]);refine Bf (i:=26) (oi:=_) (v:=?_) rfl A4 A4 A4 (fun _ _ _ h=>h) (CZ ⟨by rfl,?_⟩) hHeld ?_;rotate_left
  ·intro w hSw
   (try dsimp only at hSw);go_simp
   (try with_reducible rfl)
  (try simp only [Az,B9,BB,Act.put,Ax,B8,Aw]);refine RD (rs:=[27]) A4 AR ?_;refine QK (o:=_) rfl (fun K hK=>?_) S4;go_simp
  refine hK.out _ _ ?_ (fun hHeld=>?_)
  ·go_keep
  clear hK K;(try simp only [Az,B9,BB,Act.put,Ax,B8,Aw]);refine Bf (i:=28) (oi:=_) (v:=?_) rfl A4 A4 A4 (fun _ _ _ h=>h) (CZ ⟨by rfl,?_⟩) hHeld ?_;rotate_left
  ·intro w hSw
   (try dsimp only at hSw);go_simp
   (try with_reducible rfl)
  (try simp only [Az,B9,BB,Act.put,Ax,B8,Aw]);refine RD (rs:=[29]) A4 AR ?_;refine QK (o:=_) rfl (fun K hK=>?_) S4;go_simp
  refine hK.out _ _ ?_ (fun hHeld=>?_)
  ·go_keep
  clear hK K;(try simp only [Az,B9,BB,Act.put,Ax,B8,Aw]);refine Bf (i:=30) (oi:=_) (v:=?_) rfl A4 A4 A4 (fun _ _ _ h=>h) (CZ ⟨by rfl,?_⟩) hHeld ?_;rotate_left
  ·intro w hSw
   (try dsimp only at hSw);go_simp
   (try with_reducible rfl)
  (try simp only [Az,B9,BB,Act.put,Ax,B8,Aw]);refine wpAnyH_done A4 ?_ _;refine ZM ?_;go_wp2_with fail;have Rz:=HS.out _ rfl;refine Af (fJ (P:=Tryz.prog) Tryz.results19 _ _ (w.heap.size+1) (w.heap.size+1+1) [.slice GA gn BH,.slice PA pn B7] [.slice JX gn H8,.slice IA gn EF,.slice DA dn Ik] _ _ rfl (Ev Rz.2.1.1) rfl (Ev Rz.2.1.2) pM rfl A4 gh rfl A4) rfl ?_;exact⟨.inl ⟨HYC.out Z6,Rz.2.2 Z6⟩,Rz.1⟩
end Go.Proofs.YtlmgkipmfgijiaaGreatDoor
