/-
  What is proved here: parts yPlain, dDef, dRef, dMem, dCyc, dCyc2, dCnt, dPas, dPas2, dWr, dCoP, dEq, dCo, dPm, dPrM.
-/
import Derived.Test.YtlmgkipmfgijiaaGreatDoorVa
import Derived.Test.YtlmgkipmfgijiaaGreatDoorVe
import Derived.Test.YtlmgkipmfgijiaaGreatDoorVf
import Derived.Laws.EntriesVeiled
import Derived.Test.YtlmgkipmfgijiaaGreatDoorVl
namespace Go.Proofs.YtlmgkipmfgijiaaGreatDoor
set_option linter.unusedVariables false
set_option linter.unusedSimpArgs false
set_option maxRecDepth 100000
set_option maxHeartbeats 8000000
open Go.RowKit
section
inductive Rb (nx:Nat→List Nat) (Af:Nat→Prop) (hd b:Nat):Nat→Prop
 | self:Rb nx Af hd b b
 | step {x y:Nat}:Rb nx Af hd b x→y∈nx x→y≠hd→Af y→Rb nx Af hd b y
def MG (nx:Nat→List Nat) (Af:Nat→Prop) (hd b:Nat):Prop:=∃x,Rb nx Af hd b x∧b∈nx x
def Vw (Af:Nat→Prop) (hd b:Nat) (S:Nat→Prop) (y:Nat):Prop:=y≠b∧(y≠hd→Af y→S y)
theorem Vw.more {Af:Nat→Prop} {hd b:Nat} {S S':Nat→Prop} {y:Nat} (h:Vw Af hd b S y) (hg:∀x,S x→S' x):Vw Af hd b S' y:=⟨h.1,fun h1 h2=>hg y (h.2 h1 h2)⟩
structure RZ (nx:Nat→List Nat) (Af:Nat→Prop) (hd b E6:Nat) (S S':Nat→Prop) (r:Bool):Prop where
 grow:∀x,S x→S' x
 sub:∀x,S' x→S x∨Af x
 yes:r=true→∀Q:Nat→Prop,Q E6→(∀x,Q x→∀y∈nx x,y≠hd→Af y→Q y)→∃x,Q x∧b∈nx x
 no:r=false→∀x,(x=E6∨S' x∧¬S x)→∀y∈nx x,Vw Af hd b S' y
structure Jf (nx:Nat→List Nat) (Af:Nat→Prop) (hd b:Nat) (ts:List Nat) (S S':Nat→Prop):Prop where
 grow:∀x,S x→S' x
 sub:∀x,S' x→S x∨Af x
 ts:∀y∈ts,Vw Af hd b S' y
 no:∀x,S' x∧¬S x→∀y∈nx x,Vw Af hd b S' y
section
variable {nx:Nat→List Nat} {Af:Nat→Prop} {hd b E6 y:Nat} {ts:List Nat} {S S' Qs:Nat→Prop}
theorem Jf.nil:Jf nx Af hd b [] S S:=⟨fun _ h=>h,fun _ h=>.inl h,by simp,fun x h=>absurd h.1 h.2⟩
theorem Jf.skip (h:Jf nx Af hd b ts S S') (hb:y≠b) (hs:y=hd∨¬Af y∨S' y):Jf nx Af hd b (ts++[y]) S S':=by
 refine⟨h.grow,h.sub,fun z hz=>?_,h.no⟩;rcases CG.1 hz with hz|hz
 ·exact h.ts z hz
 ·obtain rfl:z=y:=by simpa using hz
  refine⟨hb,fun h1 h2=>?_⟩;rcases hs with h3|h3|h3
  ·exact absurd h3 h1
  ·exact absurd h2 h3
  ·exact h3
theorem Jf.into (h:Jf nx Af hd b ts S S') (hb:y≠b) (hi:Af y) (k:RZ nx Af hd b y (fun x=>S' x∨x=y) Qs false):Jf nx Af hd b (ts++[y]) S Qs:=by
 have hg:∀x,S' x→Qs x:=fun x hx=>k.grow x (.inl hx);refine⟨fun x hx=>hg x (h.grow x hx),fun x hx=>?_,fun z hz=>?_,fun x hx z hz=>?_⟩
 ·rcases k.sub x hx with (h1|rfl)|h1
  ·exact h.sub x h1
  ·exact .inr hi
  ·exact .inr h1
 ·rcases CG.1 hz with hz|hz
  ·exact (h.ts z hz).more hg
  ·obtain rfl:z=y:=by simpa using hz
   exact⟨hb,fun _ _=>k.grow z (.inr rfl)⟩
 ·by_cases h1:S' x
  ·exact (h.no x ⟨h1,hx.2⟩ z hz).more hg
  ·by_cases h2:x=y
   ·exact k.no rfl x (.inl h2) z hz
   ·exact k.no rfl x (.inr ⟨hx.1,fun h3=>h3.elim h1 h2⟩) z hz
theorem Jf.all (h:Jf nx Af hd b (nx E6) S S'):RZ nx Af hd b E6 S S' false:=by
 refine⟨h.grow,h.sub,fun h=>UD,fun _ x hx z hz=>?_⟩;rcases hx with rfl|hx
 ·exact h.ts z hz
 ·exact h.no x hx z hz
theorem Jf.found (h:Jf nx Af hd b ts S S') (hb:b∈nx E6):RZ nx Af hd b E6 S S' true:=
 ⟨h.grow,h.sub,fun _ Q hQ _=>⟨E6,hQ,hb⟩,fun h=>UD⟩
theorem Jf.yes (h:Jf nx Af hd b ts S S') (hy:y∈nx E6) (hh:y≠hd) (hi:Af y) (k:RZ nx Af hd b y (fun x=>S' x∨x=y) Qs true):RZ nx Af hd b E6 S Qs true:=by
 refine⟨fun x hx=>k.grow x (.inl (h.grow x hx)),fun x hx=>?_,fun _ Q hQ hc=>k.yes rfl Q (hc E6 hQ y hy hh hi) hc,fun h=>by cases h⟩;rcases k.sub x hx with (h1|rfl)|h1
 ·exact h.sub x h1
 ·exact .inr hi
 ·exact .inr h1
theorem RZ.cyc {r:Bool} (h:RZ nx Af hd b b (fun _=>False) S' r):r=true↔MG nx Af hd b:=by
 constructor
 ·intro hr
  exact h.yes hr (Rb nx Af hd b) .self fun x hx y hy h1 h2=>.step hx hy h1 h2
 ·rintro⟨x,hx,hb⟩
  cases r with
  | true=>rfl
  | false=>
   have key:∀z,Rb nx Af hd b z→z=b∨S' z:=fun z hz=>by
    induction hz with
    | self=>exact .inl rfl
    | @step x y _ hy h1 h2 ih=>exact .inr ((h.no rfl x (ih.imp_right fun h=>⟨h,id⟩) y hy).2 h1 h2)
   have:=h.no rfl x ((key x hx).imp_right fun h=>⟨h,id⟩) b hb;exact absurd rfl this.1
end
end
section
def Ho (w:World) (v:Value) (l:List Bool):Prop:=
 ∃A cap,v=.slice A l.length cap∧l.length≤cap∧cap≤maxLen∧(0<l.length→∃b off,A=some ⟨b,off,none⟩∧b<w.heap.size∧∀k,k<l.length→w.cell? ⟨b,off+k,none⟩=some (.bool (l.getD k false)))
theorem Ho.below {w w':World} {v:Value} {l:List Bool} (h:Ho w v l) (hb:Below w.heap.size w w'):Ho w' v l:=by
 obtain⟨A,cap,h1,h2,h3,h4⟩:=h;refine⟨A,cap,h1,h2,h3,fun h0=>?_⟩;obtain⟨b,off,e,hl,hc⟩:=h4 h0;exact⟨b,off,e,by have:=hb.size;omega,fun k hk=>(hb.cell (p:=⟨b,_,none⟩) hl).trans (hc k hk)⟩
theorem eZ {w:World} {B:Nat} {v:Value} {l:List Bool} (h:w.ownsRow B 4 1 v l.length (Dg l)):Ho w v l:=by
 rcases h.2 with⟨rfl,h0⟩|⟨g,cap',cur,rfl,h1,h2,h3,h4,_,_⟩
 ·exact⟨none,0,by rw [h0],by omega,by unfold maxLen;omega,fun h=>by omega⟩
 ·refine⟨_,cap',rfl,h3,h4,fun _=>⟨g,0,rfl,(Be.1 h2).1,fun k hk=>?_⟩⟩
  rw [EU,h.cellAt _ A0,Dg,Cr,List.getD,Aj hk];rfl
def Mq (c:Ins):List Value:=[.int .u8 c.op,.int .i64 c.a,.int .i64 c.b,.int .i64 c.c,.int .i64 c.AG]
def VT (w:World) (v:Value) (l:List Ins):Prop:=
 ∃A cap,v=.slice A l.length cap∧l.length≤cap∧cap≤maxLen∧(0<l.length→∃b off,A=some ⟨b,off,none⟩∧b<w.heap.size∧∀k c,l[k]?=some c→∀j u,(Mq c)[j]?=some u→w.cell? ⟨b,off+k*5+j,none⟩=some u)
def Yt (w:World) (v:Value) (C:List (List Ins)):Prop:=
 ∃A cap,v=.slice A C.length cap∧C.length≤cap∧cap≤maxLen∧(0<C.length→∃b off,A=some ⟨b,off,none⟩∧b<w.heap.size∧∀k x,C[k]?=some x→∃u,w.cell? ⟨b,off+k,none⟩=some u∧VT w u x)
theorem VT.below {w w':World} {v:Value} {l:List Ins} (h:VT w v l) (hb:Below w.heap.size w w'):VT w' v l:=by
 obtain⟨A,cap,h1,h2,h3,h4⟩:=h;refine⟨A,cap,h1,h2,h3,fun h0=>?_⟩;obtain⟨b,off,e,hl,hc⟩:=h4 h0;exact⟨b,off,e,by have:=hb.size;omega,fun k c hk j u hu=>(hb.cell (p:=⟨b,_,none⟩) hl).trans (hc k c hk j u hu)⟩
theorem Yt.below {w w':World} {v:Value} {C:List (List Ins)} (h:Yt w v C) (hb:Below w.heap.size w w'):Yt w' v C:=by
 obtain⟨A,cap,h1,h2,h3,h4⟩:=h;refine⟨A,cap,h1,h2,h3,fun h0=>?_⟩;obtain⟨b,off,e,hl,hc⟩:=h4 h0;exact⟨b,off,e,by have:=hb.size;omega,fun k x hk=>by
  obtain⟨u,h5,h6⟩:=hc k x hk
  exact⟨u,(hb.cell (p:=⟨b,_,none⟩) hl).trans h5,h6.below hb⟩⟩
structure Lx (w:World) (sp:Nat) (bv pv cv rv dv:Value) (G:List AV) (C:List (List Ins)) (rel:List Bool) (D:List Int):Prop where
 blk:w.heap[sp]?=some (.cells #[bv,pv,cv,rv,dv] 159 (0,0))
 Ou:Dc w bv G
 Na:Yt w cv C
 rls:Ho w rv rel
 dom:Ints w dv D
 lc:C.length=G.length
 lr:rel.length=G.length
 ld:D.length=G.length
section
variable {w w':World} {sp:Nat} {bv pv cv rv dv:Value} {G:List AV} {C:List (List Ins)} {rel:List Bool} {D:List Int}
theorem Lx.below (h:Lx w sp bv pv cv rv dv G C rel D) (hb:Below w.heap.size w w'):Lx w' sp bv pv cv rv dv G C rel D:=
 ⟨(hb.block sp (Be.1 h.blk).1).trans h.blk,h.Ou.below hb,h.Na.below hb,h.rls.below hb,h.dom.below hb,h.lc,h.lr,h.ld⟩
theorem Lx.cells (h:Lx w sp bv pv cv rv dv G C rel D):w.cell? ⟨sp,0,none⟩=some bv∧w.cell? ⟨sp,1,none⟩=some pv∧w.cell? ⟨sp,2,none⟩=some cv∧w.cell? ⟨sp,3,none⟩=some rv∧w.cell? ⟨sp,4,none⟩=some dv∧sp<w.heap.size:=
 ⟨by simp [World.cell?,h.blk],by simp [World.cell?,h.blk],by simp [World.cell?,h.blk],by simp [World.cell?,h.blk],by simp [World.cell?,h.blk],(Be.1 h.blk).1⟩
end
def Hl (n:Nat) (l:List Int):Bool:=l.all fun x=>decide (0≤x) && decide (x<(n:Int))
theorem ju (v:Value) (l:List Int) (n q:Nat) (w:World) (HI:Ints w v l) (hq:q<w.heap.size) (hc:w.cell? ⟨q,0,none⟩=some (.int .i64 (n:Int))) :
  Calls Tryz.prog 76 #[v,.pointer (some ⟨q,0,none⟩)] w fun e w'=>e=.returned (.bool (Hl n l))∧w=w':=by
 obtain⟨A,cap,rfl,hc1,hc2⟩:=HI.slice;have HH:=A3 HI;obtain⟨m,hm⟩:=AA l.length;rw [hm] at hc1 ⊢;have HM:=A3 hm;obtain⟨kn,hkn⟩:∃b,Hl n l=b:=⟨_,rfl⟩;rw [hkn];have HK:=A3 hkn;clear hm HI hkn;go_enter Tryz.func76,Tryz.ntmps76;go_upto_region 2 with fail;go_loopw [8] (fun a8 wr=>∃k:Nat,k≤m∧a8=.int .i64 (k:Int)∧w=wr∧∀x∈l.take k,0≤x∧x<(n:Int)) (fun a8 _=>m - (intOf a8).toNat);case atStart=>exact⟨0,Ck _,rfl,rfl,by simp⟩
 case round=>
  obtain⟨k,hk,rfl,rfl,hal⟩:=hrel;have HAL:=A3 hal;clear hal;by_cases hlt:k<m
  ·have dl:decide ((k:Int)<(m:Int))=true:=AR A0
   obtain⟨x,b,o,hx,e,hb,c1⟩:=(HM.out▸HH.out:Ints w (.slice A l.length cap) l).at_ (AP _ _) (j:=k) VG;subst e;have⟨HX,cU⟩:=AL (show l.take (k+1)=l.take k++[x] by rw [G4,hx];rfl) (Bf hx);clear hx;by_cases h0:x<0
   ·have d0:decide (x<0)=true:=AR h0
    have HF:=A3 (show kn=false by
     rw [←HK.out];unfold Hl
     exact uw.2 ⟨x,cU.out,by simp;omega⟩)
    clear h0;go_wp2_with fail;go_ret;exact⟨by rw [HF.out];rfl,rfl⟩
   ·have d0:decide (x<0)=false:=Aq h0
    by_cases h1:x<(n:Int)
    ·have d1:decide ((n:Int)≤x)=false:=Aq A0
     have Jw:=A3 (show ∀y∈l.take (k+1),0≤y∧y<(n:Int) from fun y hy=>by
      rw [HX.out] at hy;rcases CG.1 hy with hy|hy
      ·exact HAL.out y hy
      ·obtain rfl:y=x:=by simpa using hy
       omega)
     clear h0;go_wp2_with fail;go_roundw;case rel=>exact⟨k+1,by omega,by go_num,(by trivial),Jw.out⟩
     case measure=>exact Aa
    ·have d1:decide ((n:Int)≤x)=true:=AR A0
     have HF:=A3 (show kn=false by
      rw [←HK.out];unfold Hl
      exact uw.2 ⟨x,cU.out,by simp;omega⟩)
     clear h0;go_wp2_with fail;go_ret;exact⟨by rw [HF.out];rfl,rfl⟩
  ·obtain rfl:m=k:=by omega
   have dl:decide ((m:Int)<(m:Int))=false:=by simp
   have HT:=A3 (show kn=true by
    have h2:=HAL.out;rw [Gq fZ] at h2;rw [←HK.out];unfold Hl
    exact Ma.2 fun x hx=>by have:=h2 x hx;simp;omega)
   go_wp2_with fail;go_ret;exact⟨by rw [HT.out];rfl,rfl⟩
end
def Kc (n:Nat) (x:Lp):Bool:=Hl n [x.h] && Hl n x.bl && Hl n x.la
theorem gm {w:World} {sp:Nat} {bv pv cv rv dv:Value} {G:List AV} {C:List (List Ins)} {rel:List Bool} {D:List Int} (HS:Lx w sp bv pv cv rv dv G C rel D) (hn:G.length≤5000) (x:Lp) (p:Int) (v1 v2:Value) (H1:Ints w v1 x.bl) (H2:Ints w v2 x.la) :
  Calls Tryz.prog 45 #[.pointer (some ⟨sp,0,none⟩),.agg #[.int .i64 x.h,v1,v2,.int .i64 p]] w fun e w'=>e=.returned (.bool (Kc G.length x))∧Below w.heap.size w w':=by
 obtain⟨A,cap,rfl,hc1,hc2⟩:=HS.Ou.slice;obtain⟨A1,Gi,rfl,-,-⟩:=H1.slice;obtain⟨A2,EI,rfl,-,-⟩:=H2.slice;have he:∀(args:Array Value) (w:World),(callFunc 76 args).run Tryz.prog w=.ok (.enter 76 args) w:=fun _ _=>by kernel_rfl
 obtain⟨xh,Fg⟩:∃h,x.h=h:=⟨_,rfl⟩;obtain⟨n1,hn1⟩:∃n,x.bl.length=n:=⟨_,rfl⟩;obtain⟨n2,hn2⟩:∃n,x.la.length=n:=⟨_,rfl⟩;obtain⟨gn,hgn⟩:∃n,G.length=n:=⟨_,rfl⟩;obtain⟨R,hR⟩:∃r,Kc G.length x=r:=⟨_,rfl⟩;obtain⟨t0,t1,-,-,-,t5⟩:=HS.cells;rw [hgn] at t0 hc1;rw [hR,Fg,hn1,hn2];have⟨Xo,HH2⟩:=AL (show Ints w (.slice A1 n1 Gi) x.bl by rw [←hn1];exact H1) (show Ints w (.slice A2 n2 EI) x.la by rw [←hn2];exact H2);obtain⟨W1,hW1⟩:∃W,w.alloc (.cells #[.int .i64 xh,.slice A1 n1 Gi,.slice A2 n2 EI,.int .i64 p] 46)=W:=⟨_,rfl⟩;obtain⟨q3,hq3⟩:∃q,w.heap.size=q:=⟨_,rfl⟩;have b1:Below w.heap.size w W1:=hW1▸(AP _ _).alloc (AH _) _;have k3:W1.heap[q3]?=some (.cells #[.int .i64 xh,.slice A1 n1 Gi,.slice A2 n2 EI,.int .i64 p] 46 (0,0)):=by rw [←hq3,← hW1];exact Ai _ _
 have u0:W1.cell? ⟨sp,0,none⟩=some (.slice A gn cap):=(b1.cell (p:=⟨sp,0,none⟩) t5).trans t0;obtain⟨W2,hW2⟩:∃W,W1.alloc (.cells #[.int .i64 (gn:Int)] 3)=W:=⟨_,rfl⟩;obtain⟨q5,hq5⟩:∃q,W1.heap.size=q:=⟨_,rfl⟩;have b2:Below W1.heap.size W1 W2:=hW2▸(AP _ _).alloc (AH _) _;have k5:W2.heap[q5]?=some (.cells #[.int .i64 (gn:Int)] 3 (0,0)):=by rw [←hq5,← hW2];exact Ai _ _
 have k3b:=(b2.block q3 (Be.1 k3).1).trans k3;obtain⟨c0,c1,c2,-,c4⟩:=Ep k3b;have B2:=A3 (b1.trans (b2.mono b1.size));obtain⟨Y,hY⟩:∃W,W2.alloc (.cells #[.int .i64 xh] 3)=W:=⟨_,rfl⟩;obtain⟨q7,hq7⟩:∃q,W2.heap.size=q:=⟨_,rfl⟩;have b3:Below W2.heap.size W2 Y:=hY▸(AP _ _).alloc (AH _) _;have k7:Y.heap[q7]?=some (.cells #[.int .i64 xh] 3 (0,0)):=by rw [←hq7,← hY];exact Ai _ _
 have k5y:=(b3.block q5 (Be.1 k5).1).trans k5;have k3y:=(b3.block q3 c4).trans k3b;obtain⟨d0,d1,d2,-,d4⟩:=Ep k3y;have BY:=A3 (B2.out.trans (b3.mono B2.out.size));have c5:Y.cell? ⟨q5,0,none⟩=some (.int .i64 (gn:Int)):=by simp [World.cell?,k5y]
 have s5:q5<Y.heap.size:=(Be.1 k5y).1;have Sc:=A3 (ju (.slice (some ⟨q7,0,none⟩) 1 1) [xh] gn q5 Y ⟨_,1,rfl,by simp,by unfold maxLen;simp,fun _=>⟨q7,0,rfl,(Be.1 k7).1,fun k hk=>by
  obtain rfl:k=0:=by simpa using hk
  simp [World.cell?,k7]⟩⟩ s5 c5)
 have⟨Ua,HK3,IW⟩:=B8 (ju _ _ gn q5 Y (Xo.out.below BY.out) s5 c5) (ju _ _ gn q5 Y (HH2.out.below BY.out) s5 c5) (show R=(Hl gn [xh] && Hl gn x.bl && Hl gn x.la) by rw [←hR,← Fg,← hgn];rfl);clear hR HS H1 H2 Fg hn1 hn2 hgn t0 t1 k3 b1 b2 b3 k5 k3b k7 k5y k3y;obtain⟨r1,hr1⟩:∃r,Hl gn [xh]=r:=⟨_,rfl⟩;obtain⟨r2,hr2⟩:∃r,Hl gn x.bl=r:=⟨_,rfl⟩;obtain⟨r3,hr3⟩:∃r,Hl gn x.la=r:=⟨_,rfl⟩;rw [hr1] at Sc IW;rw [hr2] at Ua IW;rw [hr3] at HK3 IW;clear hr1 hr2 hr3;go_enter Tryz.func45,Tryz.ntmps45;rcases r1 with _|_
 ·go_wp2_with (go_at_call 76;refine Sc.out.mono ?_;rintro e w' ⟨rfl,rfl⟩)
  go_ret;exact⟨by rw [IW.out];rfl,BY.out⟩
 ·rcases r2 with _|_
  ·go_wp2_with (go_at_call 76;(first|((with_reducible refine Sc.out.mono ?_);rintro e w' ⟨rfl,rfl⟩)|((with_reducible refine Ua.out.mono ?_);rintro e w' ⟨rfl,rfl⟩)))
   go_ret;exact⟨by rw [IW.out];rfl,BY.out⟩
  ·go_wp2_with (go_at_call 76;(first|((with_reducible refine Sc.out.mono ?_);rintro e w' ⟨rfl,rfl⟩)|((with_reducible refine Ua.out.mono ?_);rintro e w' ⟨rfl,rfl⟩)|((with_reducible refine HK3.out.mono ?_);rintro e w' ⟨rfl,rfl⟩)))
   go_ret;exact⟨by rw [IW.out];simp,BY.out⟩
def EH (n:Nat) (l:List Int):List Bool:=(List.range n).map fun (k:Nat)=>decide ((k:Int)∈l)
theorem SX (n:Nat) (l:List Int):(EH n l).length=n:=by simp [EH]
theorem za (n:Nat):EH n []=List.replicate n false:=by
 apply MJ
 ·simp [EH]
 ·intro i h1 h2;simp [EH]
theorem xe (n:Nat) (l:List Int) (b:Nat):(EH n l).set b true=EH n (l++[(b:Int)]):=by
 apply MJ
 ·simp [EH]
 ·intro i h1 h2
  rw [Wh];simp only [EH,UW,WZ,CG,sF];by_cases e:b=i
  ·rw [AE e];simp [e]
  ·rw [A9 e]
   have:¬((i:Int)=(b:Int)):=by omega
   simp [this]
theorem amk {n:Nat} {l:List Int} {k:Nat} (hk:k<n):(EH n l).getD k false=decide ((k:Int)∈l):=by
 rw [List.getD,EH,Cr,Ev hk];rfl
theorem VB (l:List Bool) (k:Nat) (x:Bool):(Dg l).set k (.bool x)=Dg (l.set k x):=by simp [Dg,fe]
theorem Kv {w:World} {B g m cap:Nat} {l:List Bool} (h:w.ownsRow B 4 1 (.slice (some ⟨g,0,none⟩) m cap) m (Dg l)) (hl:l.length=m) {k:Nat} (hk:k<m):w.cell? ⟨g,k,none⟩=some (.bool (l.getD k false)):=by
 rw [h.cellAt _ A0,Dg,Cr,List.getD,Aj (by omega:k<l.length)];rfl
theorem rC {w:World} {sp:Nat} {bv pv cv rv dv:Value} {G:List AV} {C:List (List Ins)} {rel:List Bool} {D:List Int} (HS:Lx w sp bv pv cv rv dv G C rel D) (hn:G.length≤5000) (x:Lp) (p:Int) (v1 v2:Value) (H1:Ints w v1 x.bl) (H2:Ints w v2 x.la) (hk:Hl G.length x.bl=true) :
  Calls Tryz.prog 46 #[.pointer (some ⟨sp,0,none⟩),.agg #[.int .i64 x.h,v1,v2,.int .i64 p]] w fun e w'=>∃g,e=.returned (.slice (some ⟨g,0,none⟩) G.length G.length)∧w'.ownsRow w.heap.size 4 1 (.slice (some ⟨g,0,none⟩) G.length G.length) G.length (Dg (EH G.length x.bl))∧Below w.heap.size w w':=by
 obtain⟨A,cap,rfl,hc1,hc2⟩:=HS.Ou.slice;obtain⟨A1,Gi,rfl,hb1,hb2⟩:=H1.slice;obtain⟨A2,EI,rfl,-,-⟩:=H2.slice;obtain⟨xh,Fg⟩:∃h,x.h=h:=⟨_,rfl⟩;obtain⟨n1,hn1⟩:∃n,x.bl.length=n:=⟨_,rfl⟩;obtain⟨n2,hn2⟩:∃n,x.la.length=n:=⟨_,rfl⟩;obtain⟨bl,hbl⟩:∃l,x.bl=l:=⟨_,rfl⟩;obtain⟨gn,hgn⟩:∃n,G.length=n:=⟨_,rfl⟩;obtain⟨t0,t1,-,-,-,t5⟩:=HS.cells;rw [hgn] at t0 hc1 hk hn ⊢;rw [Fg,hn1,hn2];rw [hbl] at hk H1 hn1 ⊢;rw [hbl,hn1] at hb1;try rw [hn1] at H1
 have⟨HKN,Uv,Xo⟩:=B8 (Ma.1 (show (bl.all fun x=>decide (0≤x) && decide (x<(gn:Int)))=true from hk)) hn1 H1;obtain⟨W1,hW1⟩:∃W,w.alloc (.cells #[.int .i64 xh,.slice A1 n1 Gi,.slice A2 n2 EI,.int .i64 p] 46)=W:=⟨_,rfl⟩;obtain⟨q3,hq3⟩:∃q,w.heap.size=q:=⟨_,rfl⟩;have b1:Below w.heap.size w W1:=hW1▸(AP _ _).alloc (AH _) _;have k3:W1.heap[q3]?=some (.cells #[.int .i64 xh,.slice A1 n1 Gi,.slice A2 n2 EI,.int .i64 p] 46 (0,0)):=by rw [←hq3,← hW1];exact Ai _ _
 have u0:W1.cell? ⟨sp,0,none⟩=some (.slice A gn cap):=(b1.cell (p:=⟨sp,0,none⟩) t5).trans t0;have su:sp<W1.heap.size:=by have:=b1.size;omega
 obtain⟨i2,hi2,hs0,hs1,hs2⟩:=D5 WY;obtain⟨U1,lm,CB,gr1⟩:=O7 (P:=Tryz.prog) W1 w.heap.size 55 4 i2 (.bool false) 1 U8 hi2 hs0 hs1 .i64 .i64 gn Y8 Bc b1.size;rw [Mk,show (Value.bool false).cells=#[Value.bool false] from rfl,Ni] at CB;have bU:Below w.heap.size w U1:=b1.grown gr1 b1.size (fun k hk=>by cases hk);have k3u:U1.heap[q3]?=_:=(gr1.block q3 (Be.1 k3).1 AO).trans k3;obtain⟨c0,c1,c2,-,c4⟩:=Ep k3u;obtain⟨g,hg⟩:∃q,W1.heap.size=q:=⟨_,rfl⟩;rw [hg] at lm CB;have⟨HR,BU⟩:=AL (show U1.ownsRow w.heap.size 4 1 (.slice (some ⟨g,0,none⟩) gn gn) gn (Dg (EH gn (bl.take 0))) by rw [List.take_zero,za];simpa [Dg] using CB) bU;clear HS H1 H2 Fg hn1 hn2 hgn t0 t1 t5 b1 k3 bU k3u CB gr1 hk hbl hi2 hs0 hs1 hs2 i2 hg hc1 hc2;go_enter Tryz.func46,Tryz.ntmps46;go_upto_region 3 with fail;clear lm u0 su c0 c1 c2 c4 hW1 hq3;go_loopw [18] (fun a18 wr=>∃k:Nat,k≤n1∧a18=.int .i64 (k:Int)∧wr.ownsRow w.heap.size 4 1 (.slice (some ⟨g,0,none⟩) gn gn) gn (Dg (EH gn (bl.take k)))∧Below w.heap.size w wr) (fun a18 _=>n1 - (intOf a18).toNat);case atStart=>exact⟨0,Ck _,rfl,HR.out,BU.out⟩
 case round=>
  clear HR BU;obtain⟨k,hk,rfl,hr,hb⟩:=hrel;have⟨HR,HB⟩:=AL hr hb;by_cases hlt:k<n1
  ·have dl:decide ((k:Int)<(n1:Int))=true:=AR A0
   obtain⟨y,yb,yo,hy,e,hyb,cy⟩:=(Uv.out▸Xo.out:Ints w (.slice A1 bl.length Gi) bl).at_ hb (j:=k) (by rw [Uv.out];exact hlt);subst e;have hyk:=HKN.out y (Bf hy);simp only [EY,DK] at hyk;obtain⟨b,rfl⟩:∃b:Nat,y=(b:Int):=⟨y.toNat,by omega⟩;have Cc:b<gn:=by omega
   have ib:(b:Int)<(gn:Int):=hyk.2;have x1:=Kv hr (SX _ _) Cc;have x2:=hr.frozenAt b;have r1:=(hr.stored b (.bool true)).1;have sg:=(hr.lt g rfl);rw [VB,xe,show bl.take k++[(b:Int)]=bl.take (k+1) by rw [G4,hy];rfl] at r1;have⟨R1,B1⟩:=AL r1 (hb.setCell (p:=⟨g,b,none⟩) sg.1 (.bool true));clear hr hb hy hyk r1 sg;go_wp2_with fail;go_roundw;case rel=>exact⟨k+1,by omega,by go_num,R1.out,B1.out⟩
   case measure=>exact Aa
  ·obtain rfl:n1=k:=by omega
   have dl:decide ((n1:Int)<(n1:Int))=false:=by simp
   rw [Gq (by rw [Uv.out];exact AH _)] at hr;have Dz:=A3 hr;clear hr hb;go_wp2_with fail;go_ret;exact⟨g,rfl,Dz.out,HB.out⟩
section
def sn (s:List Bool) (x:Nat):Prop:=s.getD x false=true
theorem Xz {s:List Bool} {t:Nat} (ht:t<s.length):sn (s.set t true)=fun x=>sn s x∨x=t:=by
 funext x;unfold sn;by_cases e:x=t
 ·subst e;simp [List.getD,ht]
 ·simp [List.getD,fh (Ds e),e]
theorem pR:∀ {a b:List Bool},a.length=b.length→(∀x,sn b x→sn a x)→unseen a≤unseen b
 | [],b,_,_=>by simp [unseen]
 | x :: a,b,hl,hh=>by
  cases b with
  | nil=>cases hl
  | cons y b=>
   have h1:=pR (a:=a) (b:=b) aH fun z hz=>by have:=hh (z+1);simpa [sn] using this (by simpa [sn] using hz)
   have h2:=hh 0;unfold unseen at h1 ⊢;rw [TG,TG];cases x<;>cases y<;>simp [sn] at h1 h2 ⊢ <;> omega
structure QN (w wr:World) (q4 q7 q5 q6 q9 q10 sb sp n b hd:Nat) (iv l1 l2 l3:Value) (s:List Bool):Prop where
 A7:Below w.heap.size w wr
 k4:wr.heap[q4]?=some (.cells #[.pointer (some ⟨sp,0,none⟩)] 117 (0,0))
 k7:wr.heap[q7]?=some (.cells #[.int .i64 (b:Int)] 3 (0,0))
 k5:wr.heap[q5]?=some (.cells #[.int .i64 (hd:Int),l1,l2,l3] 46 (0,0))
 k6:wr.heap[q6]?=some (.cells #[iv] 55 (0,0))
 k9:wr.heap[q9]?=some (.cells #[.slice (some ⟨sb,0,none⟩) n n] 55 (0,0))
 k10:wr.heap[q10]?=some (.cells #[.func (.func 100) #[] #[.pointer (some ⟨q4,0,none⟩),.pointer (some ⟨q7,0,none⟩),.pointer (some ⟨q5,0,none⟩),.pointer (some ⟨q6,0,none⟩),.pointer (some ⟨q9,0,none⟩),.pointer (some ⟨q10,0,none⟩)]] 155 (0,0))
 row:wr.ownsRow w.heap.size 4 1 (.slice (some ⟨sb,0,none⟩) n n) n (Dg s)
 len:s.length=n
section
variable {w wr:World} {q4 q7 q5 q6 q9 q10 sb sp n b hd:Nat} {iv l1 l2 l3:Value} {s:List Bool}
theorem QN.set (h:QN w wr q4 q7 q5 q6 q9 q10 sb sp n b hd iv l1 l2 l3 s) (t:Nat):QN w (wr.setCell ⟨sb,t,none⟩ (.bool true)) q4 q7 q5 q6 q9 q10 sb sp n b hd iv l1 l2 l3 (s.set t true):=by
 have keep:∀(q:Nat) (cs:Array Value) (t':TypeId) (fr:Nat×Nat),wr.heap[q]?=some (.cells cs t' fr)→t'≠4→(wr.setCell ⟨sb,t,none⟩ (.bool true)).heap[q]?=some (.cells cs t' fr):=fun q cs t' fr hq ht=>by
  rw [BL _ _ _ _ (Kn hq h.row ht∘fun e=>by rw [e];rfl)];exact hq
 have r:=(h.row.stored t (.bool true)).1;rw [VB] at r;exact⟨h.A7.setCell (p:=⟨sb,t,none⟩) (h.row.lt sb rfl).1 _,keep _ _ _ _ h.k4 AK,keep _ _ _ _ h.k7 AK,keep _ _ _ _ h.k5 AK,keep _ _ _ _ h.k6 AK,keep _ _ _ _ h.k9 AK,keep _ _ _ _ h.k10 AK,r,by simp [h.len]⟩
theorem QN.cells (h:QN w wr q4 q7 q5 q6 q9 q10 sb sp n b hd iv l1 l2 l3 s):wr.cell? ⟨q4,0,none⟩=some (.pointer (some ⟨sp,0,none⟩))∧wr.cell? ⟨q7,0,none⟩=some (.int .i64 (b:Int))∧wr.cell? ⟨q5,0,none⟩=some (.int .i64 (hd:Int))∧wr.cell? ⟨q6,0,none⟩=some iv∧wr.cell? ⟨q9,0,none⟩=some (.slice (some ⟨sb,0,none⟩) n n)∧
  wr.cell? ⟨q10,0,none⟩=some (.func (.func 100) #[] #[.pointer (some ⟨q4,0,none⟩),.pointer (some ⟨q7,0,none⟩),.pointer (some ⟨q5,0,none⟩),.pointer (some ⟨q6,0,none⟩),.pointer (some ⟨q9,0,none⟩),.pointer (some ⟨q10,0,none⟩)])∧(q4<wr.heap.size∧q7<wr.heap.size∧q5<wr.heap.size∧q6<wr.heap.size∧q9<wr.heap.size∧q10<wr.heap.size):=
 ⟨by simp [World.cell?,h.k4],by simp [World.cell?,h.k7],by simp [World.cell?,h.k5],by simp [World.cell?,h.k6],by simp [World.cell?,h.k9],by simp [World.cell?,h.k10],(Be.1 h.k4).1,(Be.1 h.k7).1,(Be.1 h.k5).1,(Be.1 h.k6).1,(Be.1 h.k9).1,(Be.1 h.k10).1⟩
end
theorem amV {w:World} {sp:Nat} {bv pv cv rv dv:Value} {G:List AV} {C:List (List Ins)} {rel:List Bool} {D:List Int} (HS:Lx w sp bv pv cv rv dv G C rel D) (HB:GB G G.length) (q4 q7 q5 q6 q9 q10 sb b hd:Nat) (iv l1 l2 l3:Value) (inl:List Bool) (HI:Ho w iv inl) (hil:inl.length=G.length):∀(f E6:Nat) (s:List Bool) (wr:World),QN w wr q4 q7 q5 q6 q9 q10 sb sp G.length b hd iv l1 l2 l3 s→unseen s≤f→E6<G.length→
  Calls Tryz.prog 100 #[.int .i64 (E6:Int),.pointer (some ⟨q4,0,none⟩),.pointer (some ⟨q7,0,none⟩),.pointer (some ⟨q5,0,none⟩),.pointer (some ⟨q6,0,none⟩),.pointer (some ⟨q9,0,none⟩),.pointer (some ⟨q10,0,none⟩)] wr fun e w'=>∃(r:Bool) (s':List Bool),e=.returned (.bool r)∧QN w w' q4 q7 q5 q6 q9 q10 sb sp G.length b hd iv l1 l2 l3 s'∧RZ (Ar G) (sn inl) hd b E6 (sn s) (sn s') r:=by
 have he:∀(args:Array Value) (w:World),(callFunc 100 args).run Tryz.prog w=.ok (.enter 100 args) w:=fun _ _=>by kernel_rfl
 obtain⟨A,cap,rfl,hc1,hc2⟩:=HS.Ou.slice;have⟨Ns,Mp,Bi,Ei,Vb⟩:=Fi HS.Ou HS.cells HB HI hil;clear HS HB hc1 hc2 HI hil;intro f;induction f using Nat.strongRecOn with
 | _ f ih=>
  intro E6 s wr hC hu hfn;have⟨IH,HC,HU,HSL⟩:=Bz ih hC hu hC.len;obtain⟨ib,io,Dx,rfl,hib,hic⟩:∃ib io Dx,iv=.slice (some ⟨ib,io,none⟩) G.length Dx∧ib<w.heap.size∧∀k,k<G.length→w.cell? ⟨ib,io+k,none⟩=some (.bool (inl.getD k false)):=by
   obtain⟨A',cap',e1,_,_,e4⟩:=Ei.out;rw [Vb.out] at e1 e4;obtain⟨b',off,rfl,h1,h2⟩:=e4 A0;exact⟨b',off,cap',e1,h1,h2⟩
  obtain⟨t1,-,-,-,-,-,t7⟩:=hC.cells;obtain⟨x,NV,gb,go,hx,rfl,hgb,c0,c1,c2,hN⟩:=Ns.out.at_ hC.A7 (j:=E6) hfn;obtain⟨NA,C6,rfl,hn1,hn2⟩:=hN.slice;have hsc:=Mp.out;have u0:wr.cell? ⟨sp,0,none⟩=some (.slice (some ⟨gb,go,none⟩) G.length cap):=(hC.A7.cell (p:=⟨sp,0,none⟩) hsc.2.2.2.2.2).trans hsc.1;have YJ:sp<wr.heap.size:=by have:=hC.A7.size;have:=hsc.2.2.2.2.2;omega
  have sgw:gb<wr.heap.size:=by have:=hC.A7.size;omega
  have hnl:x.nx.length≤5000:=Bi.out.two E6 x hx;have ifr:(E6:Int)<(G.length:Int):=by omega
  have⟨HX,HNI⟩:=AL hx hN;have s4:=t7.1;have Xw:Ar G E6=x.nx.map Int.toNat:=fF hx;have Cw:=A3 Xw;clear ih hC hu hsc hx hN c0 c1 hn1 Xw t7;go_enter Tryz.func100,Tryz.ntmps100;go_upto_region 2 with fail;clear u0 YJ sgw c2 s4 t1;go_loopw [21] (fun a21 wr=>∃(j:Nat) (s':List Bool),j≤x.nx.length∧a21=.int .i64 (j:Int)∧QN w wr q4 q7 q5 q6 q9 q10 sb sp G.length b hd (.slice (some ⟨ib,io,none⟩) G.length Dx) l1 l2 l3 s'∧Jf (Ar G) (sn inl) hd b ((Ar G E6).take j) (sn s) (sn s')) (fun a21 _=>x.nx.length - (intOf a21).toNat);case atStart=>exact⟨0,s,Ck _,rfl,HC.out,.nil⟩
  case round=>
   clear HC;obtain⟨j,s',hj,rfl,hC,hR⟩:=hrel;obtain⟨t1,t2,t3,t4,t5,t6,z4,z7,z5,z6,z9,z10⟩:=hC.cells;have⟨HC,HR⟩:=AL hC hR;by_cases hlt:j<x.nx.length
   ·have dl:decide ((j:Int)<(x.nx.length:Int))=true:=AR A0
    obtain⟨sv,nb,FN,hs,hNA,hnb,y1⟩:=HNI.out.at_ hC.A7 hlt;subst hNA;have QJ:=Bi.out.nx E6 x HX.out sv (Bf hs);obtain⟨t,rfl⟩:∃t:Nat,sv=(t:Int):=⟨sv.toNat,by omega⟩;have htn:t<G.length:=by omega
    have hT:(Ar G E6)[j]?=some t:=by rw [Cw.out,Cr,hs];rfl
    have⟨CU,Vc⟩:=AL (show (Ar G E6).take (j+1)=(Ar G E6).take j++[t] by rw [G4,hT];rfl) (Bf hT);have itn:(t:Int)<(G.length:Int):=by omega
    have ic:=(hC.A7.cell (p:=⟨ib,io+t,none⟩) hib).trans (hic t htn);have sc:=Kv hC.row hC.len htn;have sf:=hC.row.frozenAt t;obtain⟨bi,Gy⟩:∃v,inl.getD t false=v:=⟨_,rfl⟩;obtain⟨bs,M7⟩:∃v,s'.getD t false=v:=⟨_,rfl⟩;rw [Gy] at ic;rw [M7] at sc;have⟨Gk,WG⟩:=AL Gy M7;clear hC hR hs QJ hT Gy M7;by_cases htb:t=b
    ·have d1:((t:Int)==(b:Int))=true:=by simp [htb]
     have HF:=A3 (HR.out.found (E6:=E6) (by rw [←htb];exact Vc.out));clear htb;go_wp2_with fail;go_ret;exact⟨true,s',rfl,HC.out,HF.out⟩
    ·have d1:((t:Int)==(b:Int))=false:=by simp;omega
     by_cases IQ:t=hd
     ·have d2:((t:Int)==(hd:Int))=true:=by simp [IQ]
      have HF:=A3 (HR.out.skip htb (.inl IQ));clear htb IQ;go_wp2_with fail;go_roundw;case rel=>exact⟨j+1,s',by omega,by go_num,HC.out,by rw [CU.out];exact HF.out⟩
      case measure=>exact Aa
     ·have d2:((t:Int)==(hd:Int))=false:=by simp;omega
      rcases bi with _|_
      ·have HF:=A3 (HR.out.skip htb (.inr (.inl (show ¬sn inl t by unfold sn;rw [Gk.out];simp))))
       clear htb IQ;go_wp2_with fail;go_roundw;case rel=>exact⟨j+1,s',by omega,by go_num,HC.out,by rw [CU.out];exact HF.out⟩
       case measure=>exact Aa
      ·rcases bs with _|_
       ·have hU:unseen s'≤f:=EM (pR (by rw [HC.out.len,HSL.out]) HR.out.grow) HU.out
        have hs1:s'[t]?=some false:=by
         rcases aM (show t<s'.length by rw [HC.out.len];exact htn) with h|h
         ·have:=fL.2 h;rw [WG.out] at this;cases this
         ·exact h
        have cX:=XT hs1;have Jg:=A3 (HC.out.set t);obtain⟨U,Hu⟩:=AA (wr.setCell ⟨sb,t,none⟩ (.bool true));rw [Hu] at Jg;obtain⟨a1,a2,a3,a4,a5,a6,a7,a8,a9,a10,a11,a12⟩:=Jg.out.cells;have⟨TL,HIT,HTB,Tl,Nu⟩:=Fi (IH.out (unseen (s'.set t true)) A0 t (s'.set t true) U Jg.out (AH _) htn) (show sn inl t from Gk.out) htb IQ (show t<s'.length by rw [HC.out.len];exact htn);clear htb IQ hU hs1 cX;go_upto_region 8 with fail;clear t1 t2 t3 t4 t5 t6 z4 z7 z5 z6 z9 z10 sc sf ic y1 Hu;go_wp2_with (go_at_call 100;refine TL.out.mono ?_;rintro e W7 ⟨r,s7,rfl,bJ,TB⟩)
        ·rename_i hr
         subst hr;rw [Xz Nu.out] at TB;go_ret;exact⟨true,s7,rfl,bJ,HR.out.yes Vc.out Tl.out HIT.out TB⟩
        ·rename_i hr
         have hr':r=false:=by simpa using hr
         subst hr';rw [Xz Nu.out] at TB;go_roundw;case rel=>exact⟨j+1,s7,by omega,by go_num,bJ,by rw [CU.out];exact HR.out.into HTB.out HIT.out TB⟩
         case measure=>exact Aa
       ·have HF:=A3 (HR.out.skip htb (.inr (.inr (show sn s' t from WG.out))))
        clear htb IQ;go_wp2_with fail;go_roundw;case rel=>exact⟨j+1,s',by omega,by go_num,HC.out,by rw [CU.out];exact HF.out⟩
        case measure=>exact Aa
   ·obtain rfl:j=x.nx.length:=by omega
    have dl:decide ((x.nx.length:Int)<(x.nx.length:Int))=false:=by simp
    have HF:=A3 (Jf.all (E6:=E6) (by
     have e:(Ar G E6).take x.nx.length=Ar G E6:=Gq (by rw [Cw.out,ED];exact AH _);rw [e] at hR
     exact hR))
    clear hC hR;go_wp2_with fail;go_ret;exact⟨false,s',rfl,HC.out,HF.out⟩
end
def Vs (Q:Prop) (e:Ending):Prop:=∃r:Bool,e=.returned (.bool r)∧(r=true↔Q)
theorem yw {w:World} {sp:Nat} {bv pv cv rv dv:Value} {G:List AV} {C:List (List Ins)} {rel:List Bool} {D:List Int} (HS:Lx w sp bv pv cv rv dv G C rel D) (HB:GB G G.length) (b hd:Nat) (iv l1 l2:Value) (n1 n2:List Int) (p:Int) (inl:List Bool) (HI:Ho w iv inl) (hil:inl.length=G.length) (hb:b<G.length) (H1:Ints w l1 n1) (H2:Ints w l2 n2) :
  Calls Tryz.prog 78 #[.pointer (some ⟨sp,0,none⟩),.agg #[.int .i64 (hd:Int),l1,l2,.int .i64 p],iv,.int .i64 (b:Int)] w fun e w'=>Vs (b≠hd∧MG (Ar G) (sn inl) hd b) e∧Below w.heap.size w w':=by
 have he:∀(args:Array Value) (w:World),(callFunc 100 args).run Tryz.prog w=.ok (.enter 100 args) w:=fun _ _=>by kernel_rfl
 obtain⟨A1,Gi,rfl,-,-⟩:=H1.slice;obtain⟨A2,EI,rfl,-,-⟩:=H2.slice;obtain⟨m1,hm1⟩:∃m,n1.length=m:=⟨_,rfl⟩;obtain⟨m2,hm2⟩:∃m,n2.length=m:=⟨_,rfl⟩;rw [hm1,hm2];obtain⟨IA,Dx,rfl⟩:∃IA Dx,iv=.slice IA G.length Dx:=by
  obtain⟨A,c,h,_⟩:=HI;exact⟨A,c,by rw [h,hil]⟩
 have⟨Lr,QC,Mb⟩:=B8 HS HI HB;obtain⟨q4,hq4⟩:∃q,w.heap.size=q:=⟨_,rfl⟩;obtain⟨W1,hW1⟩:∃W,w.alloc (.cells #[.pointer (some ⟨sp,0,none⟩)] 117)=W:=⟨_,rfl⟩;obtain⟨q5,hq5⟩:∃q,W1.heap.size=q:=⟨_,rfl⟩;obtain⟨W2,hW2⟩:∃W,W1.alloc (.cells #[.int .i64 (hd:Int),.slice A1 m1 Gi,.slice A2 m2 EI,.int .i64 p] 46)=W:=⟨_,rfl⟩;obtain⟨q6,hq6⟩:∃q,W2.heap.size=q:=⟨_,rfl⟩;obtain⟨W3,hW3⟩:∃W,W2.alloc (.cells #[.slice IA G.length Dx] 55)=W:=⟨_,rfl⟩;obtain⟨q7,hq7⟩:∃q,W3.heap.size=q:=⟨_,rfl⟩;obtain⟨W4,aK⟩:∃W,W3.alloc (.cells #[.int .i64 (b:Int)] 3)=W:=⟨_,rfl⟩;have b1:Below w.heap.size w W1:=hW1▸(AP _ _).alloc (AH _) _;have b2:Below W1.heap.size W1 W2:=hW2▸(AP _ _).alloc (AH _) _;have b3:Below W2.heap.size W2 W3:=hW3▸(AP _ _).alloc (AH _) _;have b4:Below W3.heap.size W3 W4:=aK▸(AP _ _).alloc (AH _) _;have b34:=b3.trans (b4.mono b3.size);have b24:=b2.trans (b34.mono b2.size);have b14:=b1.trans (b24.mono b1.size);have k4a:W1.heap[q4]?=some (.cells #[.pointer (some ⟨sp,0,none⟩)] 117 (0,0)):=by rw [←hq4,← hW1];exact Ai _ _
 have k5a:W2.heap[q5]?=some (.cells #[.int .i64 (hd:Int),.slice A1 m1 Gi,.slice A2 m2 EI,.int .i64 p] 46 (0,0)):=by rw [←hq5,← hW2];exact Ai _ _
 have k6a:W3.heap[q6]?=some (.cells #[.slice IA G.length Dx] 55 (0,0)):=by rw [←hq6,← hW3];exact Ai _ _
 have k7:W4.heap[q7]?=some (.cells #[.int .i64 (b:Int)] 3 (0,0)):=by rw [←hq7,← aK];exact Ai _ _
 have lt:∀ {W:World} {q:Nat} {o:Obj},W.heap[q]?=some o→q<W.heap.size:=fun h=>(Be.1 h).1;have k4:=(b24.block q4 (lt k4a)).trans k4a;have k5:=(b34.block q5 (lt k5a)).trans k5a;have k6:=(b4.block q6 (lt k6a)).trans k6a;have c5:=(Ep k5).1;have s5:=(Ep k5).2.2.2.2;have c7:W4.cell? ⟨q7,0,none⟩=some (.int .i64 (b:Int)):=by simp [World.cell?,k7]
 have c6:W4.cell? ⟨q6,0,none⟩=some (.slice IA G.length Dx):=by simp [World.cell?,k6]
 have s6:=lt k6;have s7:=lt k7;have⟨K4,K5,K6,K7,B4⟩:=Fi k4 k5 k6 k7 b14;have yI:=Mb.out.le;obtain⟨i2,hi2,hs0,hs1,hs2⟩:=D5 WY;obtain⟨U1,lm,CB,gr1⟩:=O7 (P:=Tryz.prog) W4 w.heap.size 55 4 i2 (.bool false) 1 U8 hi2 hs0 hs1 .i64 .i64 G.length Y8 Bc b14.size;rw [Mk,show (Value.bool false).cells=#[Value.bool false] from rfl,Ni] at CB;obtain⟨sb,Ln⟩:∃q,W4.heap.size=q:=⟨_,rfl⟩;rw [Ln] at lm CB;have⟨OW,Ek⟩:=AL CB gr1;clear HS HI HB H1 H2 hm1 hm2 k4a k5a k6a k4 k5 k6 k7 b1 b2 b3 b4 b34 b24 b14 lt CB gr1 i2 hi2 hs0 hs1 hs2;go_enter Tryz.func78,Tryz.ntmps78;by_cases QT:b=hd
 ·have d:((b:Int)==(hd:Int))=true:=by simp [QT]
  have HQ:=A3 QT;clear QT;go_wp2_with fail;go_ret;exact⟨⟨false,rfl,by simp [HQ.out]⟩,B4.out⟩
 ·have d:((b:Int)==(hd:Int))=false:=by simp;omega
  have HQ:=A3 QT;clear QT;go_upto_region 4 with fail;obtain⟨q9,hq9⟩:∃q,U1.heap.size=q:=⟨_,rfl⟩;obtain⟨V5,Gv⟩:∃V,U1.alloc (.cells #[.slice (some ⟨sb,0,none⟩) G.length G.length] 55)=V:=⟨_,rfl⟩;rw [Gv,hq9];obtain⟨q10,aaQ⟩:∃q,V5.heap.size=q:=⟨_,rfl⟩;obtain⟨V6,Ye⟩:∃V,V5.alloc (.cells #[.func (.func 100) #[] #[.pointer (some ⟨q4,0,none⟩),.pointer (some ⟨q7,0,none⟩),.pointer (some ⟨q5,0,none⟩),.pointer (some ⟨q6,0,none⟩),.pointer (some ⟨q9,0,none⟩),.pointer (some ⟨q10,0,none⟩)]] 155)=V:=⟨_,rfl⟩;clear lm c6 c5;have hwg:=Ek.out.size;have sU:sb<U1.heap.size:=(OW.out.lt sb rfl).2;have s4:∀ {q:Nat} {o:Obj},W4.heap[q]?=some o→q<W4.heap.size:=fun h=>(Be.1 h).1;have keep:∀(q:Nat) (x:Obj),W4.heap[q]?=some x→V6.heap[q]?=some x:=fun q x hx=>by
   have h1:=s4 hx;have h2:=(Ek.out.block q h1 AO).trans hx;rw [←Ye,Bb _ _ (by rw [←Gv,El];omega),← Gv,Bb _ _ A0];exact h2
  have Ub:QN w V6 q4 q7 q5 q6 q9 q10 sb sp G.length b hd (.slice IA G.length Dx) (.slice A1 m1 Gi) (.slice A2 m2 EI) (.int .i64 p) (List.replicate G.length false):=by
   refine⟨?_,keep _ _ K4.out,keep _ _ K7.out,keep _ _ K5.out,keep _ _ K6.out,?_,?_,?_,by simp⟩
   ·rw [←Ye,← Gv]
    exact ((B4.out.grown Ek.out B4.out.size (fun k hk=>by cases hk)).alloc (by have:=B4.out.size;omega) _).alloc (by have:=B4.out.size;simp;omega) _
   ·rw [←Ye,Bb _ _ (by rw [←Gv,El];omega),← Gv,← hq9];exact Ai _ _
   ·rw [←Ye,← aaQ];exact Ai _ _
   ·rw [←Ye,← Gv]
    have:=(OW.out.alloc (.cells #[.slice (some ⟨sb,0,none⟩) G.length G.length] 55)).alloc (.cells #[.func (.func 100) #[] #[.pointer (some ⟨q4,0,none⟩),.pointer (some ⟨q7,0,none⟩),.pointer (some ⟨q5,0,none⟩),.pointer (some ⟨q6,0,none⟩),.pointer (some ⟨q9,0,none⟩),.pointer (some ⟨q10,0,none⟩)]] 155);simpa [Dg] using this
  have TL:=A3 (amV Lr.out Mb.out q4 q7 q5 q6 q9 q10 sb b hd _ _ _ _ inl QC.out hil G.length b _ V6 Ub (by rw [jq];exact AH _) hb);obtain⟨e1,e2,e3,e4,e5,e6,e7,e8,e9,e10,e11,e12⟩:=Ub.cells;clear Ub keep s4 hwg sU c7 s5 s6 s7;go_wp2_with (go_at_call 100;refine TL.out.mono ?_;rintro e W7 ⟨r,s7,rfl,bJ,TB⟩);go_ret;refine⟨⟨r,rfl,?_⟩,bJ.A7⟩;have hz:sn (List.replicate G.length false)=fun _=>False:=by
   funext x;unfold sn;rw [List.getD,dB];split<;>simp
  rw [hz] at TB;rw [TB.cyc];exact⟨fun h=>⟨HQ.out,h⟩,fun h=>h.2⟩
def Hg (i:Ins):Bool:=decide (10≤i.a) && decide (i.a≤13) && (decide (i.op=25) || (decide (i.op=15) && decide (i.b=i.a) && decide (i.AG=1)))
theorem anm (i:Ins) (w:World) :
  Calls Tryz.prog 75 #[.agg #[.int .u8 i.op,.int .i64 i.a,.int .i64 i.b,.int .i64 i.c,.int .i64 i.AG]] w fun e w'=>e=.returned (.bool (Hg i))∧Below w.heap.size w w':=by
 obtain⟨op,a,b,c,AG⟩:=i;obtain⟨r,hr⟩:=AA (Hg ⟨op,a,b,c,AG⟩);simp only;rw [hr];have HR:=A3 (show r=(decide (10≤a) && decide (a≤13) && (decide (op=25) || (decide (op=15) && decide (b=a) && decide (AG=1)))) from hr.symm);obtain⟨X,hX⟩:=AA (w.alloc (.cells #[.int .u8 op,.int .i64 a,.int .i64 b,.int .i64 c,.int .i64 AG] 67));obtain⟨q,hq⟩:=AA w.heap.size;have bX:Below w.heap.size w X:=hX▸(AP _ _).alloc (AH _) _;have kX:X.heap[q]?=some (.cells #[.int .u8 op,.int .i64 a,.int .i64 b,.int .i64 c,.int .i64 AG] 67 (0,0)):=by rw [←hq,← hX];exact Ai _ _
 have c0:X.cell? ⟨q,0,none⟩=some (.int .u8 op):=by simp [World.cell?,kX]
 have c1:X.cell? ⟨q,1,none⟩=some (.int .i64 a):=by simp [World.cell?,kX]
 have c2:X.cell? ⟨q,2,none⟩=some (.int .i64 b):=by simp [World.cell?,kX]
 have c4:X.cell? ⟨q,4,none⟩=some (.int .i64 AG):=by simp [World.cell?,kX]
 have⟨BX,BQ⟩:=AL bX (show Below q w X from hq▸bX);clear bX kX hr;go_enter Tryz.func75,Tryz.ntmps75;by_cases h1:a<10
 ·have d1:decide (a<10)=true:=AR h1
  have HF:=A3 (show r=false by rw [HR.out,Aq (show ¬10≤a by omega)];rfl);go_wp2_with fail;go_ret;exact⟨by rw [HF.out];rfl,UT⟩
 have d1:decide (a<10)=false:=Aq h1;by_cases h2:13<a
 ·have d2:decide (13<a)=true:=AR h2
  have HF:=A3 (show r=false by rw [HR.out,Aq (show ¬a≤13 by omega)];simp);go_wp2_with fail;go_ret;exact⟨by rw [HF.out];rfl,UT⟩
 have d2:decide (13<a)=false:=Aq h2;have Dz:=A3 (show r=(decide (op=25) || (decide (op=15) && decide (b=a) && decide (AG=1))) by rw [HR.out,AR (show 10≤a by omega),AR (show a≤13 by omega)];rfl);clear h1 h2;by_cases h3:op=25
 ·have d3:(op==25)=true:=by simp [h3]
  have HF:=A3 (show r=true by rw [Dz.out,AR h3];rfl);clear h3;go_wp2_with fail;go_ret;exact⟨by rw [HF.out];rfl,UT⟩
 have d3:(op==25)=false:=by simp [h3]
 have E8:=A3 (show r=(decide (op=15) && decide (b=a) && decide (AG=1)) by rw [Dz.out,Aq h3];rfl);by_cases h4:op=15;case neg=>
  have d4:(op==15)=false:=by simp [h4]
  have HF:=A3 (show r=false by rw [E8.out,Aq h4];rfl);clear h3 h4;go_wp2_with fail;go_ret;exact⟨by rw [HF.out];rfl,UT⟩
 have d4:(op==15)=true:=by simp [h4]
 by_cases h5:b=a;case neg=>
  have d5:(b==a)=false:=by simp [h5]
  have HF:=A3 (show r=false by rw [E8.out,Aq h5];simp);clear h3 h4 h5;go_wp2_with fail;go_ret;exact⟨by rw [HF.out];rfl,UT⟩
 have d5:(b==a)=true:=by simp [h5]
 by_cases h6:AG=1;case neg=>
  have d6:(AG==1)=false:=by simp [h6]
  have HF:=A3 (show r=false by rw [E8.out,Aq h6];simp);clear h3 h4 h5 h6;go_wp2_with fail;go_ret;exact⟨by rw [HF.out];rfl,UT⟩
 have d6:(AG==1)=true:=by simp [h6]
 have HF:=A3 (show r=true by rw [E8.out,AR h4,AR h5,AR h6];rfl);clear h3 h4 h5 h6;go_wp2_with fail;go_ret;exact⟨by rw [HF.out];rfl,UT⟩
section
def Gu (n:Nat) (f:Nat→Nat):List Int:=(List.range n).map fun k=>(f k:Int)
theorem wO (n:Nat) (f:Nat→Nat):(Gu n f).length=n:=by simp [Gu]
theorem vg {n:Nat} {f:Nat→Nat} {k:Nat} (hk:k<n):(Gu n f).getD k (-1)=(f k:Int):=by
 rw [List.getD,Gu,Cr,Ev hk];rfl
theorem aq2 (n:Nat) (f:Nat→Nat) (b:Nat) (x:Nat):(Gu n f).set b (x:Int)=Gu n (fun k=>if k=b then x else f k):=by
 apply MJ
 ·simp [Gu]
 ·intro i h1 h2
  rw [Wh];simp only [Gu,UW,WZ];by_cases e:b=i
  ·rw [AE e,AE e.symm]
  ·rw [A9 e,A9 (Ds e)]
open Classical in
noncomputable def Kl (D:List Int) (ls:List Nat) (k:Nat):Nat:=ls.countP fun l=>decide (Ah D l k)
open Classical in
noncomputable def JR (D:List Int) (ls:List Nat) (V:Nat→Prop) (k:Nat):Nat:=Kl D ls k+if V k then 1 else 0
theorem amt (D:List Int) (ls:List Nat):JR D ls (fun _=>False)=Kl D ls:=by funext k;unfold JR;rw [A9 id];rfl
theorem apX {D:List Int} {ls:List Nat} {V:Nat→Prop} {y:Nat} (h:¬V y):(fun k=>if k=y then JR D ls V y+1 else JR D ls V k)=JR D ls (fun x=>V x∨x=y):=by
 funext k;unfold JR;by_cases e:k=y
 ·subst e;rw [AE rfl,A9 h,AE (Jk rfl)]
 ·rw [A9 e]
  by_cases hk:V k
  ·rw [AE hk,AE (Bq hk)]
  ·rw [A9 hk,A9 (fun h=>h.elim hk e)]
theorem yZ (D:List Int) (ls:List Nat) (l:Nat):JR D ls (Ah D l)=Kl D (ls++[l]):=by
 funext k;unfold JR Kl;rw [gh];by_cases h:Ah D l k
 ·rw [AE h];simp [h]
 ·rw [A9 h];simp [h]
theorem yK (D:List Int) (ls:List Nat) (k:Nat):Kl D ls k≤ls.length:=List.countP_le_length
theorem ant {D:List Int} {ls:List Nat} {k:Nat}:Kl D ls k=ls.length↔∀l∈ls,Ah D l k:=by
 unfold Kl;rw [List.countP_eq_length];simp
section
variable {n:Nat} {nx:Nat→List Nat} {ord:List Nat} {pos:Nat→Nat} {D:List Int}
theorem acp (t:TI n nx ord pos D) {l y y':Nat} (h:Ah D l y) (e:D.getD y (-1)=(y':Int)):(fun x=>(Ah D l x∧¬Ah D y x)∨x=y)=fun x=>Ah D l x∧¬Ah D y' x:=by
 funext x;apply propext;have h1:=(t.up _ _ e).2.2.1;constructor
 ·rintro (⟨a,b⟩|rfl)
  ·exact⟨a,fun c=>b ((Ah.step e).2 (.inr c))⟩
  ·exact⟨h,fun c=>by have:=t.le c;omega⟩
 ·rintro⟨a,b⟩
  by_cases c:Ah D y x
  ·rcases (Ah.step e).1 c with rfl|c
   ·exact .inr rfl
   ·exact absurd c b
  ·exact .inl ⟨a,c⟩
theorem amH {l y:Nat} (h:Ah D l y) (e:D.getD y (-1)<0):(fun x=>(Ah D l x∧¬Ah D y x)∨x=y)=Ah D l:=by
 funext x;apply propext;constructor
 ·rintro (⟨a,b⟩|rfl)
  ·exact a
  ·exact h
 ·intro a
  by_cases c:Ah D y x
  ·cases c with
   | self=>exact .inr rfl
   | up h1 _=>omega
  ·exact .inl ⟨a,c⟩
theorem pJ (l:Nat):(fun x=>Ah D l x∧¬Ah D l x)=fun _=>False:=by funext x;apply propext;exact⟨fun h=>h.2 h.1,False.elim⟩
end
end
section
def My (G:List AV) (rel:List Bool) (D:List Int) (hd:Nat) (bl:List Int) (ls:List Nat) (b:Nat):Prop:=(b:Int)∈bl∧rel.getD b false=true∧(∀l∈ls,Ah D l b)∧¬(b≠hd∧MG (Ar G) (sn (EH G.length bl)) hd b)
open Classical in
noncomputable def pB (G:List AV) (rel:List Bool) (D:List Int) (hd:Nat) (bl:List Int) (ls:List Nat) (k b:Nat):Bool:=decide (b<k∧My G rel D hd bl ls b)
theorem UM {G:List AV} {rel:List Bool} {D:List Int} {hd:Nat} {bl:List Int} {ls:List Nat} {k b:Nat}:pB G rel D hd bl ls k b=true↔b<k∧My G rel D hd bl ls b:=by unfold pB;simp
noncomputable def Fb (G:List AV) (rel:List Bool) (D:List Int) (hd:Nat) (bl:List Int) (ls:List Nat) (k:Nat):List Bool:=(List.range G.length).map (pB G rel D hd bl ls k)
theorem Xn (G:List AV) (rel:List Bool) (D:List Int) (hd:Nat) (bl:List Int) (ls:List Nat) (k:Nat):(Fb G rel D hd bl ls k).length=G.length:=by simp [Fb]
theorem zE (G:List AV) (rel:List Bool) (D:List Int) (hd:Nat) (bl:List Int) (ls:List Nat):Fb G rel D hd bl ls 0=List.replicate G.length false:=by
 apply MJ
 ·simp [Fb]
 ·intro i h1 h2
  simp only [Fb,UW,WZ,List.getElem_replicate];rw [fN];intro h;have:=(UM.1 h).1;omega
theorem aqB {G:List AV} {rel:List Bool} {D:List Int} {hd:Nat} {bl:List Int} {ls:List Nat} {k:Nat} {r:Bool} (hr:r=true↔My G rel D hd bl ls k):(Fb G rel D hd bl ls k).set k r=Fb G rel D hd bl ls (k+1):=by
 apply MJ
 ·simp [Fb]
 ·intro i h1 h2
  rw [Wh];simp only [Fb,UW,WZ];by_cases e:k=i
  ·subst e
   rw [AE rfl,OI,hr,UM];exact⟨fun h=>⟨by omega,h⟩,fun h=>h.2⟩
  ·rw [A9 e,OI,UM,UM]
   exact⟨fun h=>⟨by omega,h.2⟩,fun h=>⟨by omega,h.2⟩⟩
theorem rX {w:World} {sp:Nat} {bv pv cv rv dv:Value} {G:List AV} {C:List (List Ins)} {rel:List Bool} {D:List Int} {nx:Nat→List Nat} {ord:List Nat} {pos:Nat→Nat} (HS:Lx w sp bv pv cv rv dv G C rel D) (HB:GB G G.length) (gr:Gr G.length nx ord pos) (it:IM G.length nx ord pos D) (hd:Nat) (bl:List Int) (ls:List Nat) (ig Dx:Nat) (l1 l2:Value) (p:Int) (HI:Ho w (.slice (some ⟨ig,0,none⟩) G.length Dx) (EH G.length bl)) (H1:Ints w l1 bl) (H2:Ints w l2 (Bg ls)) (hls:∀l∈ls,l∈ord) (hl5:ls.length≤5000000) :
  Calls Tryz.prog 48 #[.pointer (some ⟨sp,0,none⟩),.agg #[.int .i64 (hd:Int),l1,l2,.int .i64 p],.slice (some ⟨ig,0,none⟩) G.length Dx] w fun e w'=>∃g,e=.returned (.slice (some ⟨g,0,none⟩) G.length G.length)∧w'.ownsRow w.heap.size 4 1 (.slice (some ⟨g,0,none⟩) G.length G.length) G.length (Dg (Fb G rel D hd bl ls G.length))∧Below w.heap.size w w':=by
 obtain⟨A1,Gi,rfl,-,-⟩:=H1.slice;obtain⟨A2,EI,rfl,hb1,hb2⟩:=H2.slice;obtain⟨DA,Km,rfl,hd1,hd2⟩:=HS.dom.slice;obtain⟨m1,hm1⟩:∃m,bl.length=m:=⟨_,rfl⟩;obtain⟨m,hm⟩:=AA ((Bg ls).length);have hlm:ls.length=m:=by rw [←hm];simp [Bg]
 rw [HS.ld] at hd1;obtain⟨dq,WX,hDA,hdq,hdc⟩:∃dq WX,DA=some ⟨dq,WX,none⟩∧dq<w.heap.size∧∀k,k<G.length→w.cell? ⟨dq,WX+k,none⟩=some (.int .i64 (D.getD k (-1))):=by
  obtain⟨_,_,e1,_,_,e4⟩:=HS.dom;cases e1;obtain⟨q,off,e5,e6,e7⟩:=e4 (by rw [HS.ld];exact gr.n0);refine⟨q,off,e5,e6,fun k hk=>?_⟩;rw [e7 k (by rw [HS.ld];exact hk)];simp [List.getD,Aj (show k<D.length by rw [HS.ld];exact hk)]
 subst hDA;have PY:=HS.ld;rw [hm1,hm];rw [hm] at hb1;have⟨Lr,HLD,Ym,HM,HH2,Xo,amW,QC⟩:=Ki HS PY hlm hm (show Ints w (.slice A2 m EI) (Bg ls) by rw [←hm];exact H2) (show Ints w (.slice A1 m1 Gi) bl by rw [←hm1];exact H1) (show Ints w (.slice A2 m EI) (Bg ls) by rw [←hm];exact H2) HI;have⟨GR,IT,HDC,Vi,Mb⟩:=Fi gr it hdc hls HB;have yI:=HB.le;obtain⟨q4,hq4⟩:∃q,w.heap.size=q:=⟨_,rfl⟩;obtain⟨W1,hW1⟩:∃W,w.alloc (.cells #[.int .i64 (hd:Int),.slice A1 m1 Gi,.slice A2 m EI,.int .i64 p] 46)=W:=⟨_,rfl⟩;have b1:Below w.heap.size w W1:=hW1▸(AP _ _).alloc (AH _) _;have k4:W1.heap[q4]?=some (.cells #[.int .i64 (hd:Int),.slice A1 m1 Gi,.slice A2 m EI,.int .i64 p] 46 (0,0)):=by rw [←hq4,← hW1];exact Ai _ _
 obtain⟨iI,E5,E7,DT,Dw⟩:=D5 NQ;obtain⟨U1,lm,CB,gr1⟩:=O7 (P:=Tryz.prog) W1 w.heap.size 38 3 iI (.int .i64 0) 1 Ey E5 E7 DT .i64 .i64 G.length dH Bc b1.size;rw [Mk,show (Value.int .i64 0).cells=#[Value.int .i64 0] from rfl,Ni] at CB;have bU:Below w.heap.size w U1:=b1.grown gr1 b1.size (fun k hk=>by cases hk);have k4u:U1.heap[q4]?=_:=(gr1.block q4 (Be.1 k4).1 AO).trans k4;obtain⟨c0,c1,c2,-,c4⟩:=Ep k4u;obtain⟨g,hg⟩:∃q,W1.heap.size=q:=⟨_,rfl⟩;rw [hg] at lm CB;have hz:Av (Gu G.length (Kl D (ls.take 0)))=List.replicate G.length (Value.int .i64 0):=by
  rw [List.take_zero];apply MJ
  ·simp [Av,Gu]
  ·intro i h1 h2;simp [Av,Gu,Kl]
 have⟨HR,BU,K4⟩:=B8 (show U1.ownsRow w.heap.size 3 1 (.slice (some ⟨g,0,none⟩) G.length G.length) G.length (Av (Gu G.length (Kl D (ls.take 0)))) by rw [hz];exact CB) bU k4u;clear HS HI H1 H2 gr it hdc hls HB b1 k4 CB gr1 bU k4u hz E5 E7 DT Dw iI hg hm hm1 hlm PY;go_enter Tryz.func48,Tryz.ntmps48;go_upto_region 3 with fail;clear lm c0 c1 c2 c4 hW1;have hmm:=@run_makeMap Tryz.prog;go_loopw [20] (fun a20 wr=>∃i:Nat,i≤m∧a20=.int .i64 (i:Int)∧wr.ownsRow w.heap.size 3 1 (.slice (some ⟨g,0,none⟩) G.length G.length) G.length (Av (Gu G.length (Kl D (ls.take i))))∧wr.heap[q4]?=some (.cells #[.int .i64 (hd:Int),.slice A1 m1 Gi,.slice A2 m EI,.int .i64 p] 46 (0,0))∧Below w.heap.size w wr) (fun a20 _=>m - (intOf a20).toNat);case atStart=>exact⟨0,Ck _,rfl,HR.out,K4.out,BU.out⟩
 case round=>
  clear HR K4 BU;obtain⟨i,hi,rfl,hr,hk4,hb⟩:=hrel;have⟨HR,HK,HB⟩:=B8 hr hk4 hb;by_cases hlt:i<m
  ·have dl:decide ((i:Int)<(m:Int))=true:=AR A0
   obtain⟨l,hl⟩:∃l,ls[i]?=some l:=⟨_,Aj (by rw [Ym.out];exact hlt)⟩;obtain⟨sv,lb,lo,hs,Oa,hlb,y1⟩:=(HM.out▸HH2.out:Ints w (.slice A2 (Bg ls).length EI) (Bg ls)).at_ hb (j:=i) VG;subst Oa;obtain rfl:sv=(l:Int):=by simp [Bg,hl] at hs;exact hs.symm
   have slw:lb<wr.heap.size:=by have:=hb.size;omega
   have CU:=A3 (show ls.take (i+1)=ls.take i++[l] by rw [G4,hl];rfl);have hlo:=Vi.out l (Bf hl);have HLO:=A3 hlo;obtain⟨mb,hmb⟩:∃q,wr.heap.size=q:=⟨_,rfl⟩;obtain⟨X,hX⟩:=AA (wr.alloc (.map #[] 0));have bX:Below wr.heap.size wr X:=hX▸(AP _ _).alloc (AH _) _;have HIM:=A3 (show Im X mb (Fs (fun x=>Ah D l x∧¬Ah D l x)) by
    rw [pJ,show Fs (fun _=>False)=fun _=>none by funext k;simp [Fs],← hmb,← hX]
    exact Im.made wr)
   have HRX:=A3 (show X.ownsRow w.heap.size 3 1 (.slice (some ⟨g,0,none⟩) G.length G.length) G.length (Av (Gu G.length (JR D (ls.take i) (fun x=>Ah D l x∧¬Ah D l x)))) by
    rw [pJ,amt];exact CH hr bX)
   have⟨HKX,Co⟩:=AL ((bX.block q4 (Be.1 hk4).1).trans hk4) (hb.trans (bX.mono hb.size));have hmw:w.heap.size≤mb:=by have:=hb.size;omega
   clear hr hk4 hb hl hs hlo bX;go_upto_region 7 with fail;clear y1 slw hX hmb;go_loopw [11] (fun a11 wr=>∃V:Nat→Prop,((∃y:Nat,a11=.int .i64 (y:Int)∧y∈ord∧Ah D l y∧V=fun x=>Ah D l x∧¬Ah D y x)∨(a11=.int .i64 (-1)∧V=Ah D l))∧Im wr mb (Fs V)∧wr.ownsRow w.heap.size 3 1 (.slice (some ⟨g,0,none⟩) G.length G.length) G.length (Av (Gu G.length (JR D (ls.take i) V)))∧wr.heap[q4]?=some (.cells #[.int .i64 (hd:Int),.slice A1 m1 Gi,.slice (some ⟨lb,lo,none⟩) m EI,.int .i64 p] 46 (0,0))∧Below w.heap.size w wr) (fun a11 _=>if intOf a11<0 then 0 else pos (intOf a11).toNat+1);case atStart=>exact⟨_,.inl ⟨l,rfl,HLO.out,.self _,rfl⟩,HIM.out,HRX.out,HKX.out,Co.out⟩
   case round=>
    clear HIM HRX HKX Co HR HK HB;obtain⟨V,hV,him,hr,hk4,hb⟩:=hrel;have⟨HIM,HR,HK,HB⟩:=Bz him hr hk4 hb;have hsc:=Lr.out.cells;have u4:wr.cell? ⟨sp,4,none⟩=some (.slice (some ⟨dq,WX,none⟩) D.length Km):=(hb.cell (p:=⟨sp,4,none⟩) hsc.2.2.2.2.2).trans hsc.2.2.2.2.1;rw [HLD.out] at u4;have YJ:sp<wr.heap.size:=by have:=hb.size;have:=hsc.2.2.2.2.2;omega
    clear hsc;rcases hV with⟨y,rfl,hyo,cY,TM⟩|⟨rfl,TM⟩
    ·have TF:=GR.out.lt y hyo
     have Nw:¬V y:=by rw [TM];exact fun h=>h.2 (.self _)
     have d0:decide ((0:Int)≤(y:Int))=true:=AR A0;have iy:(y:Int)<(G.length:Int):=by omega
     have hl:=him.Wb (P:=Tryz.prog) (kt:=3) (t:=99) (e:=4) CS MN (sJ wr) (J1 (k:=(y:Int)) A0 A0) (rA Nw) false;simp only [kv,MZ,N0] at hl;obtain⟨W2,hput,hm2,o1,o2,o3,o4,o5⟩:=him.put (P:=Tryz.prog) (kt:=3) (t:=99) (e:=4) CS MN (k:=(y:Int)) (J1 A0 A0) (.bool true);simp only [kv] at hput;rw [nH] at hm2;have Ib:g≠mb:=fun e=>by
      obtain⟨es,cl,h1,_⟩:=him;rcases hr.2 with⟨h2,_⟩|⟨g',cap',cur,h2,_,h3,_⟩
      ·cases h2
      ·cases h2;rw [e,h1] at h3;cases h3
     have hqm:q4≠mb:=fun e=>by
      obtain⟨es,cl,h1,_⟩:=him;rw [e,h1] at hk4;cases hk4
     have hgb:wr.grownBy W2 (some mb):=⟨o1,o2,o3,by omega,fun k _ hne=>o5 k fun e=>hne Rq⟩;have hr2:=hr.kept hgb (.inr fun e=>Ib (by injection e));have hb2:=hb.grown hgb hb.size (fun k hk=>by cases hk;exact hmw);have Oi:JR D (ls.take i) V y≤5000001:=by
      have h1:=yK D (ls.take i) y;have h2:(ls.take i).length≤ls.length:=by simp;omega
      unfold JR;split<;>omega
     have x1:=Mh hr2 (wO _ _) TF;rw [vg TF] at x1;have x2:=hr2.frozenAt y;obtain⟨cy,Ql⟩:∃c,JR D (ls.take i) V y=c:=⟨_,rfl⟩;rw [Ql] at x1 Oi;have r1:=(hr2.stored y (.int .i64 ((cy:Int)+1))).1;have er:(Gu G.length (JR D (ls.take i) V)).set y ((cy:Int)+1)=Gu G.length (JR D (ls.take i) (fun x=>V x∨x=y)):=by
      have:=aq2 G.length (JR D (ls.take i) V) y (cy+1);rw [←Ql,apX Nw,Ql] at this;exact this
     rw [UB,er] at r1;have sg:=hr2.lt g rfl;have R1:=A3 r1;have B3:=hb2.setCell (p:=⟨g,y,none⟩) sg.1 (.int .i64 ((cy:Int)+1));have⟨Tx,M1⟩:=AL B3 (hm2.keep (w':=W2.setCell ⟨g,y,none⟩ (.int .i64 ((cy:Int)+1))) (BL _ _ _ _ (Ds Ib)));have hqg:q4≠g:=Kn hk4 hr AK∘fun e=>by rw [e];rfl
     have K1:=A3 (show (W2.setCell ⟨g,y,none⟩ (.int .i64 ((cy:Int)+1))).heap[q4]?=_ from (BL _ _ _ _ hqg).trans ((o5 q4 hqm).trans hk4));have hsc:=Lr.out.cells;have u5:(W2.setCell ⟨g,y,none⟩ (.int .i64 ((cy:Int)+1))).cell? ⟨sp,4,none⟩=some (.slice (some ⟨dq,WX,none⟩) D.length Km):=(B3.cell (p:=⟨sp,4,none⟩) hsc.2.2.2.2.2).trans hsc.2.2.2.2.1;rw [HLD.out] at u5;have u6:=(B3.cell (p:=⟨dq,WX+y,none⟩) hdq).trans (HDC.out y TF);obtain⟨d,hd'⟩:∃d,D.getD y (-1)=d:=⟨_,rfl⟩;rw [hd'] at u6;have HVN:=A3 (show (d = -1∧(fun x=>V x∨x=y)=Ah D l)∨∃y':Nat,d=(y':Int)∧y'∈ord∧Ah D l y'∧(fun x=>V x∨x=y)=(fun x=>Ah D l x∧¬Ah D y' x)∧pos y'<pos y by
      by_cases h0:0≤d
      ·obtain⟨y',rfl⟩:∃y':Nat,d=(y':Int):=⟨d.toNat,by omega⟩
       obtain⟨_,u2,u3,_,_⟩:=IT.out.ti.up y y' hd';exact .inr ⟨y',rfl,u2,cY.trans (.up hd' (.self _)),by rw [TM];exact acp IT.out.ti cY hd',u3⟩
      ·have:=IT.out.ti.ge y
       exact .inl ⟨by omega,by rw [TM];exact amH cY A0⟩)
     clear him hr hk4 hb TM hyo cY Nw hm2 o1 o2 o3 o5 hgb hr2 hb2 Ql r1 B3 hsc hd' sg Ib hqm hqg er;go_wp2_with fail;refine⟨⟨fun x=>V x∨x=y,?_,M1.out,R1.out,K1.out,Tx.out⟩,?_⟩
     ·rcases HVN.out with⟨e,h⟩|⟨y',e,h1,h2,h3,h4⟩
      ·exact .inr ⟨by rw [e],h⟩
      ·exact .inl ⟨y',by rw [e],h1,h2,h3⟩
     ·rcases HVN.out with⟨e,h⟩|⟨y',e,h1,h2,h3,h4⟩
      ·subst e
       show (if (-1:Int)<0 then 0 else _)<(if (y:Int)<0 then 0 else pos ((y:Int).toNat)+1);rw [AE AK,A9 A0];omega
      ·subst e
       show (if (y':Int)<0 then 0 else pos ((y':Int).toNat)+1)<(if (y:Int)<0 then 0 else pos ((y:Int).toNat)+1);rw [A9 A0,A9 A0,Dk,Dk];omega
    ·have d0:decide ((0:Int)≤-1)=false:=by decide
     have Oc:=A3 (show wr.ownsRow w.heap.size 3 1 (.slice (some ⟨g,0,none⟩) G.length G.length) G.length (Av (Gu G.length (Kl D (ls.take (i+1))))) by rw [CU.out,← yZ,← TM];exact hr);clear him hr hk4 hb TM;go_wp2_with fail;go_roundw;case rel=>exact⟨i+1,by omega,by go_num,Oc.out,HK.out,HB.out⟩
     case measure=>exact Aa
  ·obtain rfl:m=i:=by omega
   have dl:decide ((m:Int)<(m:Int))=false:=by simp
   rw [Gq (by rw [Ym.out];exact AH _)] at hr;have Dz:=A3 hr;obtain⟨i2,hi2,hs0,hs1,hs2⟩:=D5 WY;obtain⟨U2,lm,CB,gr1⟩:=O7 (P:=Tryz.prog) wr w.heap.size 55 4 i2 (.bool false) 1 U8 hi2 hs0 hs1 .i64 .i64 G.length Y8 Bc hb.size;rw [Mk,show (Value.bool false).cells=#[Value.bool false] from rfl,Ni] at CB;obtain⟨ag,hag⟩:∃q,wr.heap.size=q:=⟨_,rfl⟩;rw [hag] at lm CB;have hz:Dg (Fb G rel D hd bl ls 0)=List.replicate G.length (Value.bool false):=by rw [zE];simp [Dg]
   have⟨JH,OJ,Ua,Ga⟩:=Bz (show U2.ownsRow w.heap.size 4 1 (.slice (some ⟨ag,0,none⟩) G.length G.length) G.length (Dg (Fb G rel D hd bl ls 0)) by rw [hz];exact CB) (hr.kept gr1 (.inr (by simp [Value.ownBlock]))) ((gr1.block q4 (Be.1 hk4).1 AO).trans hk4) (hb.grown gr1 hb.size (fun k hk=>by cases hk));clear hr hk4 hb CB gr1 hz hi2 hs0 hs1 hs2 i2 hag HR HK HB Dz;go_upto_region 14 with fail;clear lm;go_loopw [64] (fun a64 wr=>∃k:Nat,k≤G.length∧a64=.int .i64 (k:Int)∧wr.ownsRow w.heap.size 4 1 (.slice (some ⟨ag,0,none⟩) G.length G.length) G.length (Dg (Fb G rel D hd bl ls k))∧wr.ownsRow w.heap.size 3 1 (.slice (some ⟨g,0,none⟩) G.length G.length) G.length (Av (Gu G.length (Kl D ls)))∧wr.heap[q4]?=some (.cells #[.int .i64 (hd:Int),.slice A1 m1 Gi,.slice A2 m EI,.int .i64 p] 46 (0,0))∧Below w.heap.size w wr) (fun a64 _=>G.length - (intOf a64).toNat);case atStart=>exact⟨0,Ck _,rfl,JH.out,OJ.out,Ua.out,Ga.out⟩
   case round=>
    clear JH OJ Ua Ga;obtain⟨k,hk,rfl,hr,hc,hk4,hb⟩:=hrel;have⟨HR,HC,HK,HB⟩:=Bz hr hc hk4 hb;by_cases hlt:k<G.length
    ·have dl:decide ((k:Int)<(G.length:Int))=true:=AR A0
     have ik:(k:Int)<(G.length:Int):=by omega
     have Vv:wr.cell? ⟨ig,k,none⟩=some (.bool (decide ((k:Int)∈bl))):=by
      obtain⟨A',cap',e1,_,_,e4⟩:=QC.out;rw [SX] at e1 e4;obtain⟨b',off,e5,h1,h2⟩:=e4 A0;cases e1;cases e5;have:=h2 k hlt;rw [amk hlt,EU] at this;exact (hb.cell (p:=⟨ig,k,none⟩) h1).trans this
     have sig:ig<wr.heap.size:=by
      obtain⟨A',cap',e1,_,_,e4⟩:=QC.out;rw [SX] at e1 e4;obtain⟨b',off,e5,h1,h2⟩:=e4 A0;cases e1;cases e5;have:=hb.size;omega
     obtain⟨rq,ro,Gp,MK,hrq,hrc⟩:∃rq ro Gp,rv=.slice (some ⟨rq,ro,none⟩) G.length Gp∧rq<w.heap.size∧∀k,k<G.length→w.cell? ⟨rq,ro+k,none⟩=some (.bool (rel.getD k false)):=by
      obtain⟨A',cap',e1,_,_,e4⟩:=Lr.out.rls;rw [Lr.out.lr] at e1 e4;obtain⟨b',off,e5,h1,h2⟩:=e4 A0;exact⟨b',off,cap',by rw [e1,e5],h1,h2⟩
     have hsc:=Lr.out.cells;have YJ:sp<wr.heap.size:=by have:=hb.size;have:=hsc.2.2.2.2.2;omega
     have u3:wr.cell? ⟨sp,3,none⟩=some (.slice (some ⟨rq,ro,none⟩) G.length Gp):=by
      rw [←MK];exact (hb.cell (p:=⟨sp,3,none⟩) hsc.2.2.2.2.2).trans hsc.2.2.2.1
     have Ve:=(hb.cell (p:=⟨rq,ro+k,none⟩) hrq).trans (hrc k hlt);have srq:rq<wr.heap.size:=by have:=hb.size;omega
     have Sr:=Mh hc (wO _ _) hlt;rw [vg hlt] at Sr;have sgq:=(hc.lt g rfl).2;obtain⟨q0,q1,q2,q3,q4s⟩:=Ep hk4;have pa1:=Kv hr (Xn _ _ _ _ _ _ _) hlt;have pa2:=hr.frozenAt k;have Ow:=(hr.lt ag rfl).2;have tu:=(hr.lt ag rfl).1;obtain⟨old,hold⟩:∃v,(Fb G rel D hd bl ls k).getD k false=v:=⟨_,rfl⟩;rw [hold] at pa1;obtain⟨bi,Gy⟩:∃v,decide ((k:Int)∈bl)=v:=⟨_,rfl⟩;obtain⟨br,hbr⟩:∃v,rel.getD k false=v:=⟨_,rfl⟩;obtain⟨cn,Ge⟩:∃v,Kl D ls k=v:=⟨_,rfl⟩;obtain⟨cy,Ql⟩:∃v:Bool,(v=true↔k≠hd∧MG (Ar G) (sn (EH G.length bl)) hd k):=by
      by_cases h:k≠hd∧MG (Ar G) (sn (EH G.length bl)) hd k
      ·exact⟨true,by simp [h]⟩
      ·exact⟨false,by simp only [MZ,false_iff];exact h⟩
     rw [Gy] at Vv;rw [hbr] at Ve;rw [Ge] at Sr;have Su:=A3 (show ∀x:Ext wr,Calls Tryz.prog 78 #[.pointer (some ⟨sp,0,none⟩),.agg #[.int .i64 (hd:Int),.slice A1 m1 Gi,.slice A2 m EI,.int .i64 p],.slice (some ⟨ig,0,none⟩) G.length Dx,.int .i64 (k:Int)] x.w fun e w'=>e=.returned (.bool cy)∧Below x.w.heap.size x.w w' from fun x=>by
      have bx:=HB.out.trans (x.h.mono HB.out.size);refine (yw (Lr.out.below bx) Mb.out k hd _ _ _ bl (Bg ls) p (EH G.length bl) (QC.out.below bx) (SX _ _) hlt (Xo.out.below bx) (amW.out.below bx)).mono ?_;rintro e w' ⟨⟨r,rfl,hr⟩,hb⟩;have:r=cy:=by rw [OI,hr,Ql]
      rw [this]
      exact⟨rfl,hb⟩)
     have oI:q4≠ag:=Kn hk4 hr AK∘fun e=>by rw [e];rfl
     have Cw:=A3 (show ∀W,Below wr.heap.size wr W→∀r:Bool,(r=true↔My G rel D hd bl ls k)→(W.setCell ⟨ag,k,none⟩ (.bool r)).ownsRow w.heap.size 4 1 (.slice (some ⟨ag,0,none⟩) G.length G.length) G.length (Dg (Fb G rel D hd bl ls (k+1)))∧(W.setCell ⟨ag,k,none⟩ (.bool r)).ownsRow w.heap.size 3 1 (.slice (some ⟨g,0,none⟩) G.length G.length) G.length (Av (Gu G.length (Kl D ls)))∧(W.setCell ⟨ag,k,none⟩ (.bool r)).heap[q4]?=some (.cells #[.int .i64 (hd:Int),.slice A1 m1 Gi,.slice A2 m EI,.int .i64 p] 46 (0,0))∧Below w.heap.size w (W.setCell ⟨ag,k,none⟩ (.bool r)) from fun W hW r hr2=>by
      have h1:=((CH HR.out hW).stored k (.bool r)).1;rw [VB,aqB hr2] at h1;have hcW:=CH HC.out hW;refine⟨h1,hcW.kept (Hh W ag k _) (.inr fun e=>FE hcW (CH HR.out hW) AK g rfl (by
        have e2:g=ag:=by injection e
        rw [e2];rfl)),(BL _ _ _ _ oI).trans ((hW.block q4 q4s).trans HK.out),(HB.out.trans (hW.mono HB.out.size)).setCell (p:=⟨ag,k,none⟩) tu _⟩)
     have XZ:=A3 (show My G rel D hd bl ls k↔bi=true∧br=true∧cn=m∧cy=false by
      unfold My;rw [←Gy,← hbr,← Ge,DK,← Ym.out,ant];exact and_congr_right fun _=>and_congr_right fun _=>and_congr_right fun _=>by
       rw [←Ql];simp)
     clear hr hc hk4 hb MK hrc hsc hold Gy hbr Ge Ql oI tu;rcases bi with _|_
     ·have LS:=A3 (show (false=true↔My G rel D hd bl ls k) by rw [XZ.out];simp)
      go_upto_region 16 with fail;refine JW 34 A6 A6 ?_;simp only [Ew,List.take_zero,Er,List.drop_zero];repeat (go_big_quiet_step ((go_at_call 78;exact Calls.AQ (Su.out _))))
      refine Ba ?_;rintro _ ⟨x1,rfl⟩;have a1:=x1.cell ag k Ow;have a2:=x1.frozen ag k Ow;rw [pa1] at a1;rw [pa2] at a2;have sa1:ag<x1.w.heap.size:=by have:=x1.h.size;omega
      have hN:=Cw.out x1.w x1.h false LS.out;clear pa1 pa2 Vv Ve Sr u3 q0 q1 q2 q3;go_wp2_with fail;go_roundw;case rel=>exact⟨k+1,by omega,by go_num,hN.1,hN.2.1,hN.2.2.1,hN.2.2.2⟩
      case measure=>exact Aa
     rcases br with _|_
     ·have LS:=A3 (show (false=true↔My G rel D hd bl ls k) by rw [XZ.out];simp)
      go_upto_region 16 with fail;refine JW 34 A6 A6 ?_;simp only [Ew,List.take_zero,Er,List.drop_zero];repeat (go_big_quiet_step ((go_at_call 78;exact Calls.AQ (Su.out _))))
      refine Ba ?_;rintro _ ⟨x1,rfl⟩;have a1:=x1.cell ag k Ow;have a2:=x1.frozen ag k Ow;rw [pa1] at a1;rw [pa2] at a2;have sa1:ag<x1.w.heap.size:=by have:=x1.h.size;omega
      have hN:=Cw.out x1.w x1.h false LS.out;clear pa1 pa2 Vv Ve Sr u3 q0 q1 q2 q3;go_wp2_with fail;go_roundw;case rel=>exact⟨k+1,by omega,by go_num,hN.1,hN.2.1,hN.2.2.1,hN.2.2.2⟩
      case measure=>exact Aa
     by_cases hcm:cn=m;case neg=>
      have dcm:((cn:Int)==(m:Int))=false:=Ls.2 A0;have LS:=A3 (show (false=true↔My G rel D hd bl ls k) by rw [XZ.out];simp [hcm]);clear hcm;go_upto_region 16 with fail;refine JW 34 A6 A6 ?_;simp only [Ew,List.take_zero,Er,List.drop_zero];repeat (go_big_quiet_step ((go_at_call 78;exact Calls.AQ (Su.out _))))
      refine Ba ?_;rintro _ ⟨x1,rfl⟩;have a1:=x1.cell ag k Ow;have a2:=x1.frozen ag k Ow;rw [pa1] at a1;rw [pa2] at a2;have sa1:ag<x1.w.heap.size:=by have:=x1.h.size;omega
      have hN:=Cw.out x1.w x1.h false LS.out;clear pa1 pa2 Vv Ve Sr u3 q0 q1 q2 q3;go_wp2_with fail;go_roundw;case rel=>exact⟨k+1,by omega,by go_num,hN.1,hN.2.1,hN.2.2.1,hN.2.2.2⟩
      case measure=>exact Aa
     have dcm:((cn:Int)==(m:Int))=true:=by simp [hcm]
     rcases cy with _|_
     ·have LS:=A3 (show (true=true↔My G rel D hd bl ls k) by rw [XZ.out];simp [hcm])
      clear hcm;go_upto_region 16 with fail;refine JW 34 A6 A6 ?_;simp only [Ew,List.take_zero,Er,List.drop_zero];repeat (go_big_quiet_step ((go_at_call 78;exact Calls.AQ (Su.out _))))
      refine Ba ?_;rintro _ ⟨x1,rfl⟩;have a1:=x1.cell ag k Ow;have a2:=x1.frozen ag k Ow;rw [pa1] at a1;rw [pa2] at a2;have sa1:ag<x1.w.heap.size:=by have:=x1.h.size;omega
      have hN:=Cw.out x1.w x1.h true LS.out;clear pa1 pa2 Vv Ve Sr u3 q0 q1 q2 q3;go_wp2_with fail;go_roundw;case rel=>exact⟨k+1,by omega,by go_num,hN.1,hN.2.1,hN.2.2.1,hN.2.2.2⟩
      case measure=>exact Aa
     have LS:=A3 (show (false=true↔My G rel D hd bl ls k) by rw [XZ.out];simp);clear hcm;go_upto_region 16 with fail;refine JW 34 A6 A6 ?_;simp only [Ew,List.take_zero,Er,List.drop_zero];repeat (go_big_quiet_step ((go_at_call 78;exact Calls.AQ (Su.out _))))
     refine Ba ?_;rintro _ ⟨x1,rfl⟩;have a1:=x1.cell ag k Ow;have a2:=x1.frozen ag k Ow;rw [pa1] at a1;rw [pa2] at a2;have sa1:ag<x1.w.heap.size:=by have:=x1.h.size;omega
     have hN:=Cw.out x1.w x1.h false LS.out;clear pa1 pa2 Vv Ve Sr u3 q0 q1 q2 q3;go_wp2_with fail;go_roundw;case rel=>exact⟨k+1,by omega,by go_num,hN.1,hN.2.1,hN.2.2.1,hN.2.2.2⟩
     case measure=>exact Aa
    ·obtain rfl:k=G.length:=by omega
     have dl:decide ((G.length:Int)<(G.length:Int))=false:=by simp
     clear hr hc hk4 hb;go_wp2_with fail;go_ret;exact⟨ag,rfl,HR.out,HB.out⟩
end
def PV (i:Ins):Bool:=CE i && (fm i.op.toNat).wr && decide (i.a≠0)
theorem zY (i:Ins) (h0:0≤i.op) (w:World) (T:C8 w) :
  Calls Tryz.prog 77 #[.agg #[.int .u8 i.op,.int .i64 i.a,.int .i64 i.b,.int .i64 i.c,.int .i64 i.AG]] w fun e w'=>e=.returned (.tuple #[.int .i64 (if PV i=true then i.a else 0),.bool (PV i)])∧Below w.heap.size w w':=by
 have HV:∀W,C8 W→Calls Tryz.prog 55 #[.agg #[.int .u8 i.op,.int .i64 i.a,.int .i64 i.b,.int .i64 i.c,.int .i64 i.AG]] W fun e w'=>e=.returned (.bool (CE i))∧Below W.heap.size W w':=fun W hT=>NK i h0 W hT;obtain⟨v,hv⟩:=AA (CE i);obtain⟨r,hr⟩:=AA (PV i);rw [hv] at HV;have HR:=A3 (show r=(v && (fm i.op.toNat).wr && decide (i.a≠0)) by rw [←hr,← hv];rfl);rw [hr];obtain⟨z,hz⟩:=AA (if r=true then i.a else 0);rw [hz];have HZ:=A3 hz;clear hz;have pN:=A3 (show v=true→i.op<30 from fun hh=>by
  rw [←hv] at hh;unfold CE at hh;rw [EY] at hh
  exact GQ hh.1)
 clear hv hr;obtain⟨op,a,b,c,AG⟩:=i;simp only at HV h0;obtain⟨X,hX⟩:=AA (w.alloc (.cells #[.int .u8 op,.int .i64 a,.int .i64 b,.int .i64 c,.int .i64 AG] 67));obtain⟨q,hq⟩:=AA w.heap.size;have bX:Below w.heap.size w X:=hX▸(AP _ _).alloc (AH _) _;have kX:X.heap[q]?=some (.cells #[.int .u8 op,.int .i64 a,.int .i64 b,.int .i64 c,.int .i64 AG] 67 (0,0)):=by rw [←hq,← hX];exact Ai _ _
 have c0:X.cell? ⟨q,0,none⟩=some (.int .u8 op):=by simp [World.cell?,kX]
 have c1:X.cell? ⟨q,1,none⟩=some (.int .i64 a):=by simp [World.cell?,kX]
 have c2:X.cell? ⟨q,2,none⟩=some (.int .i64 b):=by simp [World.cell?,kX]
 have c3:X.cell? ⟨q,3,none⟩=some (.int .i64 c):=by simp [World.cell?,kX]
 have c4:X.cell? ⟨q,4,none⟩=some (.int .i64 AG):=by simp [World.cell?,kX]
 have sq:q<X.heap.size:=(Be.1 kX).1;have⟨HC,BX⟩:=AL (show Calls Tryz.prog 55 #[.agg #[.int .u8 op,.int .i64 a,.int .i64 b,.int .i64 c,.int .i64 AG]] X fun e w'=>e=.returned (.bool v)∧Below X.heap.size X w' from HV X (T.below bX)) bX;go_enter Tryz.func77,Tryz.ntmps77;cases v with
 | false=>
  have HF:=A3 (show r=false by rw [HR.out];rfl);go_wp2_with (go_at_call 55;refine (Calls.ext HC.out).mono ?_;rintro e w' ⟨rfl,y,rfl⟩);go_ret2;exact⟨by rw [←HZ.out,HF.out];rfl,Ext.below (hq▸BX.out) kS y⟩
 | true=>
  obtain⟨k,rfl⟩:∃k:Nat,op=(k:Int):=⟨op.toNat,by omega⟩;have hk:k<30:=by have:=pN.out rfl;simp only at this;omega
  have ct:=(T.below bX).cells k hk 3 (.bool (fm k).wr) rfl;have OX:=(T.below bX).pos;have Dz:=A3 (show r=((fm k).wr && decide (a≠0)) by rw [HR.out];simp);obtain⟨wr,hwr⟩:=AA ((fm k).wr);rw [hwr] at ct Dz;clear HR pN hwr HV T;cases wr with
  | false=>
   have HF:=A3 (show r=false by rw [Dz.out];rfl);go_wp2_with (go_at_call 55;refine (Calls.ext HC.out).mono ?_;rintro e w' ⟨rfl,y,rfl⟩);go_ret2;exact⟨by rw [←HZ.out,HF.out];rfl,Ext.below (hq▸BX.out) kS y⟩
  | true=>
   by_cases ha:a=0
   ·have da:(a==0)=true:=by simp [ha]
    have HF:=A3 (show r=false by rw [Dz.out];simp [ha]);clear ha;go_wp2_with (go_at_call 55;refine (Calls.ext HC.out).mono ?_;rintro e w' ⟨rfl,y,rfl⟩);go_ret2;exact⟨by rw [←HZ.out,HF.out];rfl,Ext.below (hq▸BX.out) kS y⟩
   ·have da:(a==0)=false:=by simp [ha]
    have HF:=A3 (show r=true by rw [Dz.out];simp [ha]);clear ha;go_wp2_with (go_at_call 55;refine (Calls.ext HC.out).mono ?_;rintro e w' ⟨rfl,y,rfl⟩);go_ret2;exact⟨by rw [←HZ.out,HF.out];rfl,Ext.below (hq▸BX.out) kS y⟩
structure Cs where
 wr:Nat
 st:Nat
 bd:Int
 fd:Bool
def cW (A8:Int) (i:Ins):Bool:=PV i && decide (i.a=A8)
def cS (A8:Int) (i:Ins):Bool:=decide (i=⟨15,A8,A8,0,1⟩)
def cB (A8:Int) (i:Ins):Bool:=decide (i.op=25) && decide (i.a=A8)
def Nc (A8:Int) (pb:Bool) (s:Cs) (i:Ins):Cs:=
 let t:=cB A8 i && pb && (!s.fd || decide (i.AG<s.bd))
 ⟨s.wr+(cW A8 i).toNat,s.st+(cW A8 i && (cS A8 i && pb)).toNat,if t=true then i.AG else s.bd,s.fd || t⟩
def He (A8:Int) (pb:Bool) (s:Cs) (l:List Ins):Cs:=l.foldl (Nc A8 pb) s
def Vq (A8:Int) (inl pl:List Bool) (C:List (List Ins)) (s:Cs) (b:Nat):Cs:=
 if inl.getD b false=true then He A8 (pl.getD b false) s (C.getD b []) else s
def F0 (A8:Int) (inl pl:List Bool) (C:List (List Ins)) (k:Nat):Cs:=(List.range k).foldl (Vq A8 inl pl C) ⟨0,0,0,false⟩
def Io (A8:Int) (s:Cs):Int×Bool:=
 if A8<10∨13<A8 then (0,false) else if s.wr≠1∨s.st≠1∨s.fd=false then (0,false) else (s.bd,true)
theorem aiR (A8:Int) (pb:Bool) (s:Cs) {l:List Ins} {j:Nat} {i:Ins} (h:l[j]?=some i):He A8 pb s (l.take (j+1))=Nc A8 pb (He A8 pb s (l.take j)) i:=by
 unfold He;rw [G4,h,PR];rfl
theorem am2 (A8:Int) (pb:Bool) (s:Cs) (i:Ins):(Nc A8 pb s i).wr≤s.wr+1∧(Nc A8 pb s i).st≤s.st+1:=by
 unfold Nc;simp only;have:=Bool.toNat_le (cW A8 i);have:=Bool.toNat_le (cW A8 i && (cS A8 i && pb));omega
theorem gW (A8:Int) (pb:Bool):∀(l:List Ins) (s:Cs),(He A8 pb s l).wr≤s.wr+l.length∧(He A8 pb s l).st≤s.st+l.length
 | [],s=>⟨AH _,AH _⟩
 | i :: l,s=>by
  have h1:=am2 A8 pb s i;have h2:=gW A8 pb l (Nc A8 pb s i);rw [GD];show (He A8 pb (Nc A8 pb s i) l).wr≤_∧(He A8 pb (Nc A8 pb s i) l).st≤_;omega
theorem tH (A8:Int) (inl pl:List Bool) (C:List (List Ins)) (k:Nat):F0 A8 inl pl C (k+1)=Vq A8 inl pl C (F0 A8 inl pl C k) k:=by
 unfold F0;rw [J5,PR];rfl
theorem uE (A8:Int) (inl pl:List Bool) (C:List (List Ins)) (k:Nat) (hk:k≤C.length):(F0 A8 inl pl C k).wr≤(C.take k).flatten.length∧(F0 A8 inl pl C k).st≤(C.take k).flatten.length:=by
 induction k with
 | zero=>exact⟨AH _,AH _⟩
 | succ k ih=>
  have h1:=ih A0;rw [tH,G4,Aj (by omega:k<C.length)];simp only [Option.toList_some,List.flatten_append,mC,List.flatten_nil,M8,FO];unfold Vq;split
  ·rw [show C.getD k []=C[k]'A0 by simp [List.getD,Aj (by omega:k<C.length)]]
   have:=gW A8 (pl.getD k false) (C[k]'A0) (F0 A8 inl pl C k);omega
  ·omega
theorem rI {P:Program} (d:Nat) {t:TypeId} {k:IntKind} (h:P.underlying t=some (.int k)) (a b:Int) (w:World):(Op.equalIn (d+1) t (.int k a) (.int k b)).run P w=.ok (a==b) w:=by
 simp [Op.equalIn,Qf h]
theorem ap5 (a b c d e:Int) (w:World):(part 5 #[.int .u8 a,.int .i64 b,.int .i64 c,.int .i64 d,.int .i64 e] 0).run Tryz.prog w=.ok (.int .u8 a) w:=by kernel_rfl
theorem yP (a b c d e:Int) (w:World):(part 3 #[.int .u8 a,.int .i64 b,.int .i64 c,.int .i64 d,.int .i64 e] 1).run Tryz.prog w=.ok (.int .i64 b) w:=by kernel_rfl
theorem aqM (a b c d e:Int) (w:World):(part 3 #[.int .u8 a,.int .i64 b,.int .i64 c,.int .i64 d,.int .i64 e] 2).run Tryz.prog w=.ok (.int .i64 c) w:=by kernel_rfl
theorem anU (a b c d e:Int) (w:World):(part 3 #[.int .u8 a,.int .i64 b,.int .i64 c,.int .i64 d,.int .i64 e] 3).run Tryz.prog w=.ok (.int .i64 d) w:=by kernel_rfl
theorem ano (a b c d e:Int) (w:World):(part 3 #[.int .u8 a,.int .i64 b,.int .i64 c,.int .i64 d,.int .i64 e] 4).run Tryz.prog w=.ok (.int .i64 e) w:=by kernel_rfl
theorem apa (n:Nat) (a b c d e a' b' c' d' e':Int) (w:World):(Op.equalIn (n+1+1) 67 (.agg #[.int .u8 a,.int .i64 b,.int .i64 c,.int .i64 d,.int .i64 e]) (.agg #[.int .u8 a',.int .i64 b',.int .i64 c',.int .i64 d',.int .i64 e'])).run Tryz.prog w=.ok (decide ((⟨a,b,c,d,e⟩:Ins)=⟨a',b',c',d',e'⟩)) w:=by
 have e3:∀(a b:Int) (w:World),(Op.equalIn (n+1) 3 (.int .i64 a) (.int .i64 b)).run Tryz.prog w=.ok (a==b) w:=fun a b w=>rI n CS a b w;have e5:∀(a b:Int) (w:World),(Op.equalIn (n+1) 5 (.int .u8 a) (.int .u8 b)).run Tryz.prog w=.ok (a==b) w:=fun a b w=>rI n rQ a b w;rw [Op.equalIn];simp [Qf Tryz.underlying67,e3,e5,ap5,yP,aqM,anU,ano,PI];by_cases h1:a=a'<;>by_cases h2:b=b'<;>by_cases h3:c=c'<;>by_cases h4:d=d'<;>by_cases h5:e=e'<;>simp [h1,h2,h3,h4,h5]
theorem aq4 (a b c d e a' b' c' d' e':Int) (w:World):(binOp .eql 67 (.agg #[.int .u8 a,.int .i64 b,.int .i64 c,.int .i64 d,.int .i64 e]) (.agg #[.int .u8 a',.int .i64 b',.int .i64 c',.int .i64 d',.int .i64 e'])).run Tryz.prog w=.ok (.bool (decide ((⟨a,b,c,d,e⟩:Ins)=⟨a',b',c',d',e'⟩))) w:=by
 simp only [binOp];simp [Op.equal,Op.maxDepth,apa 9998]
theorem uJ (a b:Int):(a==b)=decide (a=b):=by by_cases h:a=b<;>simp [h]
theorem adA {C:List (List Ins)} {x:List Ins} (h:x∈C):x.length≤C.flatten.length:=(List.sublist_flatten_of_mem h).length_le
theorem sG {w:World} {sp:Nat} {bv pv cv rv dv:Value} {G:List AV} {C:List (List Ins)} {rel:List Bool} {D:List Int} (HS:Lx w sp bv pv cv rv dv G C rel D) (hn:G.length≤5000) (T:C8 w) (QY:∀l∈C,∀i∈l,0≤i.op) (hfl:C.flatten.length≤1000000000000000) (hd p:Int) (l1 l2 iv qv:Value) (inl pl:List Bool) (HI:Ho w iv inl) (hil:inl.length=G.length) (HP:Ho w qv pl) (hpl:pl.length=G.length) (A8:Int) :
  Calls Tryz.prog 47 #[.pointer (some ⟨sp,0,none⟩),.agg #[.int .i64 hd,l1,l2,.int .i64 p],iv,qv,.int .i64 A8] w fun e w'=>e=.returned (.tuple #[.int .i64 (Io A8 (F0 A8 inl pl C G.length)).1,.bool (Io A8 (F0 A8 inl pl C G.length)).2])∧Below w.heap.size w w':=by
 obtain⟨r,hr⟩:=AA (Io A8 (F0 A8 inl pl C G.length));rw [hr];obtain⟨r1,r2⟩:=r;simp only;obtain⟨IA,Dx,hiv,hi1,hi2⟩:∃A cap,iv=.slice A G.length cap∧G.length≤cap∧cap≤maxLen:=by
  obtain⟨A,cap,e,h1,h2,_⟩:=HI;exact⟨A,cap,by rw [e,hil],by omega,h2⟩
 subst hiv;obtain⟨PA,B7,hqv,hp1,hp2⟩:∃A cap,qv=.slice A G.length cap∧G.length≤cap∧cap≤maxLen:=by
  obtain⟨A,cap,e,h1,h2,_⟩:=HP;exact⟨A,cap,by rw [e,hpl],by omega,h2⟩
 subst hqv;have⟨HR,Lr,TH,HO,Tm,QC,TD,Vb⟩:=Ki hr HS T QY hfl HI HP hil;have ET:=A3 hpl;clear hr T QY hfl HI HP hil hpl;obtain⟨CA,Cp,hcv,hc1,hc2⟩:∃A cap,cv=.slice A G.length cap∧G.length≤cap∧cap≤maxLen:=by
  obtain⟨A,cap,h1,h2,h3,h4⟩:=HS.Na;rw [HS.lc] at h1 h2;exact⟨A,cap,h1,h2,h3⟩
 subst hcv;obtain⟨W1,hW1⟩:∃W,w.alloc (.cells #[.int .i64 hd,l1,l2,.int .i64 p] 46)=W:=⟨_,rfl⟩;have b1:Below w.heap.size w W1:=hW1▸(AP _ _).alloc (AH _) _;have c2:W1.cell? ⟨sp,2,none⟩=some (.slice CA G.length Cp):=(b1.cell (p:=⟨sp,2,none⟩) HS.cells.2.2.2.2.2).trans HS.cells.2.2.1;have YJ:sp<W1.heap.size:=by have:=b1.size;have:=HS.cells.2.2.2.2.2;omega
 have B1:=A3 b1;clear HS b1;go_enter Tryz.func47,Tryz.ntmps47;by_cases h1:A8<10
 ·have d1:decide (A8<10)=true:=AR h1
  have HF:=A3 (show (r1,r2)=(0,false) by rw [←HR.out];unfold Io;rw [AE (.inl h1)]);go_wp2_with fail;go_ret2;have h:=HF.out;injection h with h2 h3;exact⟨by rw [h2,h3];rfl,by first|exact B1.out|exact hW1▸B1.out⟩
 have d1:decide (A8<10)=false:=Aq h1;by_cases h2:13<A8
 ·have d2:decide (13<A8)=true:=AR h2
  have HF:=A3 (show (r1,r2)=(0,false) by rw [←HR.out];unfold Io;rw [AE (.inr h2)]);go_wp2_with fail;go_ret2;have h:=HF.out;injection h with h2 h3;exact⟨by rw [h2,h3];rfl,by first|exact B1.out|exact hW1▸B1.out⟩
 have d2:decide (13<A8)=false:=Aq h2;have LZ:=A3 (show ¬(A8<10∨13<A8) by omega);clear h1 h2;go_upto_region 7 with fail;obtain⟨W2,hW2⟩:∃W,W1.alloc (.cells #[.int .u8 15,.int .i64 A8,.int .i64 A8,.int .i64 0,.int .i64 1] 67)=W:=⟨_,rfl⟩;rw [hW2];obtain⟨g,hg⟩:∃q,W1.heap.size=q:=⟨_,rfl⟩;rw [hg];have⟨K2,B2⟩:=AL (show W2.heap[g]?=some (.cells #[.int .u8 15,.int .i64 A8,.int .i64 A8,.int .i64 0,.int .i64 1] 67 (0,0)) by rw [←hg,← hW2];exact Ai _ _) (show Below w.heap.size w W2 by rw [←hW2];exact B1.out.alloc B1.out.size _);clear hW2 hW1 c2 YJ hg B1;go_loopw [12,13,14,15,37] (fun a12 a13 a14 a15 a37 wr=>∃k:Nat,k≤G.length∧a37=.int .i64 (k:Int)∧a12=.int .i64 ((F0 A8 inl pl C k).wr:Int)∧a13=.int .i64 ((F0 A8 inl pl C k).st:Int)∧a14=.int .i64 (F0 A8 inl pl C k).bd∧a15=.bool (F0 A8 inl pl C k).fd∧wr.heap[g]?=some (.cells #[.int .u8 15,.int .i64 A8,.int .i64 A8,.int .i64 0,.int .i64 1] 67 (0,0))∧Below w.heap.size w wr) (fun _ _ _ _ a37 _=>G.length - (intOf a37).toNat);case atStart=>exact⟨0,Ck _,rfl,rfl,rfl,rfl,rfl,K2.out,B2.out⟩
 case round=>
  clear K2 B2;obtain⟨k,hk,rfl,rfl,rfl,rfl,rfl,hg,hb⟩:=hrel;have⟨HG,HB⟩:=AL hg hb;obtain⟨s,hs⟩:=AA (F0 A8 inl pl C k);rw [hs];have HS:=A3 hs;obtain⟨sw,ss,sb,sf⟩:=s;simp only;clear hs;by_cases hlt:k<G.length
  ·have dl:decide ((k:Int)<(G.length:Int))=true:=AR A0
   obtain⟨ib,io,hIA,hib,hic⟩:∃b o,IA=some ⟨b,o,none⟩∧b<w.heap.size∧w.cell? ⟨b,o+k,none⟩=some (.bool (inl.getD k false)):=by
    obtain⟨A',cap',e1,_,_,e4⟩:=QC.out;rw [Vb.out] at e1 e4;cases e1;obtain⟨b',off,e5,h1,h2⟩:=e4 A0;exact⟨b',off,e5,h1,h2 k hlt⟩
   obtain⟨pb,po,ZK,hpb,hpc⟩:∃b o,PA=some ⟨b,o,none⟩∧b<w.heap.size∧w.cell? ⟨b,o+k,none⟩=some (.bool (pl.getD k false)):=by
    obtain⟨A',cap',e1,_,_,e4⟩:=TD.out;rw [ET.out] at e1 e4;cases e1;obtain⟨b',off,e5,h1,h2⟩:=e4 A0;exact⟨b',off,e5,h1,h2 k hlt⟩
   obtain⟨cb,co,u,x,hCA,hcb,hx,hcu,MH⟩:∃b o u x,CA=some ⟨b,o,none⟩∧b<w.heap.size∧C[k]?=some x∧w.cell? ⟨b,o+k,none⟩=some u∧VT w u x:=by
    obtain⟨A',cap',e1,_,_,e4⟩:=Lr.out.Na;have hlc:=Lr.out.lc;rw [hlc] at e1 e4;cases e1;obtain⟨b',off,e5,h1,h2⟩:=e4 A0;obtain⟨u,h3,h4⟩:=h2 k _ (Aj (show k<C.length by omega));exact⟨b',off,u,_,e5,h1,Aj (show k<C.length by omega),h3,h4⟩
   obtain⟨XA,arD,rfl,hx1,hx2,hx4⟩:=MH;obtain⟨m,hm⟩:=AA x.length;have arl:m≤1000000000000000:=by have:=adA (Bf hx);have:=Tm.out;omega
   rw [hm] at hcu hx1 hx4;obtain⟨CY,iY⟩:∃b,inl.getD k false=b:=⟨_,rfl⟩;obtain⟨H7,iR⟩:∃b,pl.getD k false=b:=⟨_,rfl⟩;rw [iY] at hic;rw [iR] at hpc;have hS1:=tH A8 inl pl C k;rw [HS.out] at hS1;unfold Vq at hS1;rw [iY,iR,show C.getD k []=x by simp [List.getD,hx]] at hS1;have Ui:=A3 hS1;have i1:=(hb.cell (p:=⟨ib,io+k,none⟩) hib).trans hic;have i2:=(hb.cell (p:=⟨pb,po+k,none⟩) hpb).trans hpc;have i3:=(hb.cell (p:=⟨cb,co+k,none⟩) hcb).trans hcu;have⟨HX,HX4,HM⟩:=B8 hx hx4 hm;have M7:=hb.size;have s1:ib<wr.heap.size:=by omega
   have s2:pb<wr.heap.size:=by omega
   have s3:cb<wr.heap.size:=by omega
   have ap6:=hpc;clear hic hpc hcu hS1 hx hx4 hm hb hg M7 iY iR;subst hIA ZK hCA;have Sc:=A3 (show k+1≤G.length from hlt);cases CY with
   | false=>
    have HN:=A3 (show F0 A8 inl pl C (k+1)=⟨sw,ss,sb,sf⟩ by rw [Ui.out];rfl);go_wp2_with fail;go_roundw;case rel=>exact⟨k+1,Sc.out,by go_num,by rw [HN.out],by rw [HN.out],by rw [HN.out],by rw [HN.out],HG.out,HB.out⟩
    case measure=>exact Aa
   | true=>
    have HN:=A3 (show F0 A8 inl pl C (k+1)=He A8 H7 ⟨sw,ss,sb,sf⟩ x by rw [Ui.out];rfl);have HW:=A3 (show ∀j,j≤m→(He A8 H7 ⟨sw,ss,sb,sf⟩ (x.take j)).wr≤1000000000000000∧(He A8 H7 ⟨sw,ss,sb,sf⟩ (x.take j)).st≤1000000000000000 from fun j hj=>by
     have h1:=uE A8 inl pl C (k+1) (by rw [Lr.out.lc];exact Sc.out);have h0:=uE A8 inl pl C k (by rw [Lr.out.lc];omega);rw [HS.out] at h0;have h2:=gW A8 H7 (x.take j) ⟨sw,ss,sb,sf⟩;have h3:(C.take k).flatten.length+x.length≤C.flatten.length:=by
      have e:C.take (k+1)=C.take k++[x]:=by rw [G4,HX.out];rfl
      have e2:C=C.take (k+1)++C.drop (k+1):=(ZM _ _).symm;rw [e] at e2;have e3:=congrArg (fun l=>l.flatten.length) e2;simp only [List.flatten_append,FO,mC,List.flatten_nil,M8] at e3;omega
     have h4:=Tm.out;have h5:(x.take j).length≤x.length:=by rw [RM];omega
     simp only at h0 h2
     omega)
    go_upto_region 11 with fail;clear i1 i2 i3 s1 s2 s3;go_loopw [12,13,14,15,49] (fun a12 a13 a14 a15 a49 wx=>∃j:Nat,j≤m∧a49=.int .i64 (j:Int)∧a12=.int .i64 ((He A8 H7 ⟨sw,ss,sb,sf⟩ (x.take j)).wr:Int)∧a13=.int .i64 ((He A8 H7 ⟨sw,ss,sb,sf⟩ (x.take j)).st:Int)∧a14=.int .i64 (He A8 H7 ⟨sw,ss,sb,sf⟩ (x.take j)).bd∧a15=.bool (He A8 H7 ⟨sw,ss,sb,sf⟩ (x.take j)).fd∧wx.heap[g]?=some (.cells #[.int .u8 15,.int .i64 A8,.int .i64 A8,.int .i64 0,.int .i64 1] 67 (0,0))∧Below w.heap.size w wx) (fun _ _ _ _ a49 _=>m - (intOf a49).toNat);case atStart=>exact⟨0,Ck _,rfl,rfl,rfl,rfl,rfl,HG.out,HB.out⟩
    case round=>
     obtain⟨j,hj,rfl,rfl,rfl,rfl,rfl,hgx,JC⟩:=hrel;have⟨HGX,Co⟩:=AL hgx JC;have hw:=HW.out j hj;obtain⟨s2,hs2⟩:=AA (He A8 H7 ⟨sw,ss,sb,sf⟩ (x.take j));rw [hs2] at hw ⊢;have IK:=A3 hs2;obtain⟨tw,ts,tb,tf⟩:=s2;simp only at hw ⊢;obtain⟨hw1,hw2⟩:=hw;clear hs2 hgx JC;by_cases hjm:j<m
     ·have dj:decide ((j:Int)<(m:Int))=true:=AR A0
      have I5:=A3 (show j+1≤m from hjm);obtain⟨i,hi⟩:∃i,x[j]?=some i:=⟨_,Aj (by rw [HM.out];exact hjm)⟩;obtain⟨xb,xo,hXA,hxb,hxc⟩:=HX4.out A0;have hc:=hxc j i hi;obtain⟨op,ia,ib2,ic,im⟩:=i;have e0:=(Co.out.cell (p:=⟨xb,_,none⟩) hxb).trans (hc 0 _ rfl);have e1:=(Co.out.cell (p:=⟨xb,_,none⟩) hxb).trans (hc 1 _ rfl);have e2:=(Co.out.cell (p:=⟨xb,_,none⟩) hxb).trans (hc 2 _ rfl);have e3:=(Co.out.cell (p:=⟨xb,_,none⟩) hxb).trans (hc 3 _ rfl);have e4:=(Co.out.cell (p:=⟨xb,_,none⟩) hxb).trans (hc 4 _ rfl);rw [fU] at e0;have hop:0≤op:=HO.out x (Bf HX.out) _ (Bf hi);have Ks:=A3 (show He A8 H7 ⟨sw,ss,sb,sf⟩ (x.take (j+1))=Nc A8 H7 ⟨tw,ts,tb,tf⟩ ⟨op,ia,ib2,ic,im⟩ by rw [aiR A8 H7 _ hi,IK.out]);have sxb:xb<wr.heap.size:=by have:=Co.out.size;omega
      subst hXA;clear hc hxc hi;go_upto_region 13 with fail;obtain⟨qb,Jv⟩:∃q,wr.heap.size=q:=⟨_,rfl⟩;obtain⟨WB,dF⟩:∃W,wr.alloc (.cells #[.int .u8 op,.int .i64 ia,.int .i64 ib2,.int .i64 ic,.int .i64 im] 67)=W:=⟨_,rfl⟩;rw [dF,Jv];have bWB:Below wr.heap.size wr WB:=dF▸(AP _ _).alloc (AH _) _;have kB:WB.heap[qb]?=some (.cells #[.int .u8 op,.int .i64 ia,.int .i64 ib2,.int .i64 ic,.int .i64 im] 67 (0,0)):=by rw [←Jv,← dF];exact Ai _ _
      have sqb:qb<WB.heap.size:=(Be.1 kB).1;have b0:WB.cell? ⟨qb,0,none⟩=some (.int .u8 op):=by simp [World.cell?,kB]
      have b1:WB.cell? ⟨qb,1,none⟩=some (.int .i64 ia):=by simp [World.cell?,kB]
      have b2:WB.cell? ⟨qb,2,none⟩=some (.int .i64 ib2):=by simp [World.cell?,kB]
      have b3:WB.cell? ⟨qb,3,none⟩=some (.int .i64 ic):=by simp [World.cell?,kB]
      have b4:WB.cell? ⟨qb,4,none⟩=some (.int .i64 im):=by simp [World.cell?,kB]
      have sg0:g<wr.heap.size:=(Be.1 HGX.out).1;have kG:WB.heap[g]?=some (.cells #[.int .u8 15,.int .i64 A8,.int .i64 A8,.int .i64 0,.int .i64 1] 67 (0,0)):=(bWB.block g sg0).trans HGX.out;have sg:g<WB.heap.size:=(Be.1 kG).1;have d0:WB.cell? ⟨g,0,none⟩=some (.int .u8 15):=by simp [World.cell?,kG]
      have d1':WB.cell? ⟨g,1,none⟩=some (.int .i64 A8):=by simp [World.cell?,kG]
      have d2':WB.cell? ⟨g,2,none⟩=some (.int .i64 A8):=by simp [World.cell?,kG]
      have d3:WB.cell? ⟨g,3,none⟩=some (.int .i64 0):=by simp [World.cell?,kG]
      have d4:WB.cell? ⟨g,4,none⟩=some (.int .i64 1):=by simp [World.cell?,kG]
      have bB:Below w.heap.size w WB:=Co.out.trans (bWB.mono Co.out.size);have pc:WB.cell? ⟨pb,po+k,none⟩=some (.bool H7):=(bB.cell (p:=⟨pb,po+k,none⟩) hpb).trans ap6;have Zd:pb<WB.heap.size:=by have:=bB.size;omega
      have⟨Hj,Bi⟩:=AL kG bB;obtain⟨bw,CV⟩:∃b,PV ⟨op,ia,ib2,ic,im⟩=b:=⟨_,rfl⟩;have hwa:=zY ⟨op,ia,ib2,ic,im⟩ hop WB (TH.out.below bB);rw [CV] at hwa;have Ht:=A3 hwa;clear e0 e1 e2 e3 e4 sxb bWB kB kG bB dF Jv sg0 hwa hop;obtain⟨qa,MA⟩:∃b:Bool,(ia==A8)=b:=⟨_,rfl⟩;obtain⟨q5,hq5⟩:∃b:Bool,(op==25)=b:=⟨_,rfl⟩;obtain⟨ql,hql⟩:∃b:Bool,decide (im<tb)=b:=⟨_,rfl⟩;obtain⟨qs,hqs⟩:∃b:Bool,decide ((⟨op,ia,ib2,ic,im⟩:Ins)=⟨15,A8,A8,0,1⟩)=b:=⟨_,rfl⟩;have HEQ:∀W,(binOp .eql 67 (.agg #[.int .u8 op,.int .i64 ia,.int .i64 ib2,.int .i64 ic,.int .i64 im]) (.agg #[.int .u8 15,.int .i64 A8,.int .i64 A8,.int .i64 0,.int .i64 1])).run Tryz.prog W=.ok (.bool qs) W:=fun W=>by rw [←hqs];exact aq4 _ _ _ _ _ _ _ _ _ _ _
      have BD:=A3 (show He A8 H7 ⟨sw,ss,sb,sf⟩ (x.take (j+1))=⟨tw+(bw && qa).toNat,ts+((bw && qa) && (qs && H7)).toNat,if ((q5 && qa && H7) && (!tf || ql))=true then im else tb,tf || ((q5 && qa && H7) && (!tf || ql))⟩ by
       rw [Ks.out,← CV,← hqs,← hql,show qa=decide (ia=A8) by rw [←MA];exact uJ _ _,show q5=decide (op=25) by rw [←hq5];exact uJ _ _]
       rfl)
      clear CV hqs Ks;rcases bw with _|_
      ·skip
       rcases q5 with _|_
       ·skip
        go_wp2_with (go_at_call 77;refine (Calls.ext Ht.out).mono ?_;rintro e w' ⟨rfl,y,rfl⟩);go_roundw;case rel=>exact⟨j+1,I5.out,by go_num,by rw [BD.out];first|rfl|go_num,by rw [BD.out];first|rfl|go_num,by rw [BD.out];rfl,by rw [BD.out];first|rfl|simp,(y.h.block g sg).trans Hj.out,Ext.below Bi.out Bi.out.size y⟩
        case measure=>exact Aa
       ·skip
        rcases qa with _|_
        ·skip
         go_wp2_with (go_at_call 77;refine (Calls.ext Ht.out).mono ?_;rintro e w' ⟨rfl,y,rfl⟩);go_roundw;case rel=>exact⟨j+1,I5.out,by go_num,by rw [BD.out];first|rfl|go_num,by rw [BD.out];first|rfl|go_num,by rw [BD.out];rfl,by rw [BD.out];first|rfl|simp,(y.h.block g sg).trans Hj.out,Ext.below Bi.out Bi.out.size y⟩
         case measure=>exact Aa
        ·skip
         rcases H7 with _|_
         ·skip
          go_wp2_with (go_at_call 77;refine (Calls.ext Ht.out).mono ?_;rintro e w' ⟨rfl,y,rfl⟩);go_roundw;case rel=>exact⟨j+1,I5.out,by go_num,by rw [BD.out];first|rfl|go_num,by rw [BD.out];first|rfl|go_num,by rw [BD.out];rfl,by rw [BD.out];first|rfl|simp,(y.h.block g sg).trans Hj.out,Ext.below Bi.out Bi.out.size y⟩
          case measure=>exact Aa
         ·skip
          rcases tf with _|_
          ·skip
           go_wp2_with (go_at_call 77;refine (Calls.ext Ht.out).mono ?_;rintro e w' ⟨rfl,y,rfl⟩);go_roundw;case rel=>exact⟨j+1,I5.out,by go_num,by rw [BD.out];first|rfl|go_num,by rw [BD.out];first|rfl|go_num,by rw [BD.out];rfl,by rw [BD.out];first|rfl|simp,(y.h.block g sg).trans Hj.out,Ext.below Bi.out Bi.out.size y⟩
           case measure=>exact Aa
          ·skip
           rcases ql with _|_
           ·skip
            go_wp2_with (go_at_call 77;refine (Calls.ext Ht.out).mono ?_;rintro e w' ⟨rfl,y,rfl⟩);go_roundw;case rel=>exact⟨j+1,I5.out,by go_num,by rw [BD.out];first|rfl|go_num,by rw [BD.out];first|rfl|go_num,by rw [BD.out];rfl,by rw [BD.out];first|rfl|simp,(y.h.block g sg).trans Hj.out,Ext.below Bi.out Bi.out.size y⟩
            case measure=>exact Aa
           ·skip
            go_wp2_with (go_at_call 77;refine (Calls.ext Ht.out).mono ?_;rintro e w' ⟨rfl,y,rfl⟩);go_roundw;case rel=>exact⟨j+1,I5.out,by go_num,by rw [BD.out];first|rfl|go_num,by rw [BD.out];first|rfl|go_num,by rw [BD.out];rfl,by rw [BD.out];first|rfl|simp,(y.h.block g sg).trans Hj.out,Ext.below Bi.out Bi.out.size y⟩
            case measure=>exact Aa
      ·skip
       rcases qa with _|_
       ·skip
        rcases q5 with _|_
        ·skip
         go_wp2_with (go_at_call 77;refine (Calls.ext Ht.out).mono ?_;rintro e w' ⟨rfl,y,rfl⟩);go_roundw;case rel=>exact⟨j+1,I5.out,by go_num,by rw [BD.out];first|rfl|go_num,by rw [BD.out];first|rfl|go_num,by rw [BD.out];rfl,by rw [BD.out];first|rfl|simp,(y.h.block g sg).trans Hj.out,Ext.below Bi.out Bi.out.size y⟩
         case measure=>exact Aa
        ·skip
         go_wp2_with (go_at_call 77;refine (Calls.ext Ht.out).mono ?_;rintro e w' ⟨rfl,y,rfl⟩);go_roundw;case rel=>exact⟨j+1,I5.out,by go_num,by rw [BD.out];first|rfl|go_num,by rw [BD.out];first|rfl|go_num,by rw [BD.out];rfl,by rw [BD.out];first|rfl|simp,(y.h.block g sg).trans Hj.out,Ext.below Bi.out Bi.out.size y⟩
         case measure=>exact Aa
       ·skip
        rcases qs with _|_
        ·skip
         rcases q5 with _|_
         ·skip
          go_wp2_with (go_at_call 77;refine (Calls.ext Ht.out).mono ?_;rintro e w' ⟨rfl,y,rfl⟩);go_roundw;case rel=>exact⟨j+1,I5.out,by go_num,by rw [BD.out];first|rfl|go_num,by rw [BD.out];first|rfl|go_num,by rw [BD.out];rfl,by rw [BD.out];first|rfl|simp,(y.h.block g sg).trans Hj.out,Ext.below Bi.out Bi.out.size y⟩
          case measure=>exact Aa
         ·skip
          rcases H7 with _|_
          ·skip
           go_wp2_with (go_at_call 77;refine (Calls.ext Ht.out).mono ?_;rintro e w' ⟨rfl,y,rfl⟩);go_roundw;case rel=>exact⟨j+1,I5.out,by go_num,by rw [BD.out];first|rfl|go_num,by rw [BD.out];first|rfl|go_num,by rw [BD.out];rfl,by rw [BD.out];first|rfl|simp,(y.h.block g sg).trans Hj.out,Ext.below Bi.out Bi.out.size y⟩
           case measure=>exact Aa
          ·skip
           rcases tf with _|_
           ·skip
            go_wp2_with (go_at_call 77;refine (Calls.ext Ht.out).mono ?_;rintro e w' ⟨rfl,y,rfl⟩);go_roundw;case rel=>exact⟨j+1,I5.out,by go_num,by rw [BD.out];first|rfl|go_num,by rw [BD.out];first|rfl|go_num,by rw [BD.out];rfl,by rw [BD.out];first|rfl|simp,(y.h.block g sg).trans Hj.out,Ext.below Bi.out Bi.out.size y⟩
            case measure=>exact Aa
           ·skip
            rcases ql with _|_
            ·skip
             go_wp2_with (go_at_call 77;refine (Calls.ext Ht.out).mono ?_;rintro e w' ⟨rfl,y,rfl⟩);go_roundw;case rel=>exact⟨j+1,I5.out,by go_num,by rw [BD.out];first|rfl|go_num,by rw [BD.out];first|rfl|go_num,by rw [BD.out];rfl,by rw [BD.out];first|rfl|simp,(y.h.block g sg).trans Hj.out,Ext.below Bi.out Bi.out.size y⟩
             case measure=>exact Aa
            ·skip
             go_wp2_with (go_at_call 77;refine (Calls.ext Ht.out).mono ?_;rintro e w' ⟨rfl,y,rfl⟩);go_roundw;case rel=>exact⟨j+1,I5.out,by go_num,by rw [BD.out];first|rfl|go_num,by rw [BD.out];first|rfl|go_num,by rw [BD.out];rfl,by rw [BD.out];first|rfl|simp,(y.h.block g sg).trans Hj.out,Ext.below Bi.out Bi.out.size y⟩
             case measure=>exact Aa
        ·skip
         rcases H7 with _|_
         ·skip
          rcases q5 with _|_
          ·skip
           go_wp2_with (go_at_call 77;refine (Calls.ext Ht.out).mono ?_;rintro e w' ⟨rfl,y,rfl⟩);go_roundw;case rel=>exact⟨j+1,I5.out,by go_num,by rw [BD.out];first|rfl|go_num,by rw [BD.out];first|rfl|go_num,by rw [BD.out];rfl,by rw [BD.out];first|rfl|simp,(y.h.block g sg).trans Hj.out,Ext.below Bi.out Bi.out.size y⟩
           case measure=>exact Aa
          ·skip
           go_wp2_with (go_at_call 77;refine (Calls.ext Ht.out).mono ?_;rintro e w' ⟨rfl,y,rfl⟩);go_roundw;case rel=>exact⟨j+1,I5.out,by go_num,by rw [BD.out];first|rfl|go_num,by rw [BD.out];first|rfl|go_num,by rw [BD.out];rfl,by rw [BD.out];first|rfl|simp,(y.h.block g sg).trans Hj.out,Ext.below Bi.out Bi.out.size y⟩
           case measure=>exact Aa
         ·skip
          rcases q5 with _|_
          ·skip
           go_wp2_with (go_at_call 77;refine (Calls.ext Ht.out).mono ?_;rintro e w' ⟨rfl,y,rfl⟩);go_roundw;case rel=>exact⟨j+1,I5.out,by go_num,by rw [BD.out];first|rfl|go_num,by rw [BD.out];first|rfl|go_num,by rw [BD.out];rfl,by rw [BD.out];first|rfl|simp,(y.h.block g sg).trans Hj.out,Ext.below Bi.out Bi.out.size y⟩
           case measure=>exact Aa
          ·skip
           rcases tf with _|_
           ·skip
            go_wp2_with (go_at_call 77;refine (Calls.ext Ht.out).mono ?_;rintro e w' ⟨rfl,y,rfl⟩);go_roundw;case rel=>exact⟨j+1,I5.out,by go_num,by rw [BD.out];first|rfl|go_num,by rw [BD.out];first|rfl|go_num,by rw [BD.out];rfl,by rw [BD.out];first|rfl|simp,(y.h.block g sg).trans Hj.out,Ext.below Bi.out Bi.out.size y⟩
            case measure=>exact Aa
           ·skip
            rcases ql with _|_
            ·skip
             go_wp2_with (go_at_call 77;refine (Calls.ext Ht.out).mono ?_;rintro e w' ⟨rfl,y,rfl⟩);go_roundw;case rel=>exact⟨j+1,I5.out,by go_num,by rw [BD.out];first|rfl|go_num,by rw [BD.out];first|rfl|go_num,by rw [BD.out];rfl,by rw [BD.out];first|rfl|simp,(y.h.block g sg).trans Hj.out,Ext.below Bi.out Bi.out.size y⟩
             case measure=>exact Aa
            ·skip
             go_wp2_with (go_at_call 77;refine (Calls.ext Ht.out).mono ?_;rintro e w' ⟨rfl,y,rfl⟩);go_roundw;case rel=>exact⟨j+1,I5.out,by go_num,by rw [BD.out];first|rfl|go_num,by rw [BD.out];first|rfl|go_num,by rw [BD.out];rfl,by rw [BD.out];first|rfl|simp,(y.h.block g sg).trans Hj.out,Ext.below Bi.out Bi.out.size y⟩
             case measure=>exact Aa
     ·obtain rfl:m=j:=by omega
      have dj:decide ((m:Int)<(m:Int))=false:=by simp
      have Ks:=A3 (show F0 A8 inl pl C (k+1)=⟨tw,ts,tb,tf⟩ by rw [HN.out,← IK.out,Gq fZ]);go_wp2_with fail;go_roundw;case rel=>exact⟨k+1,Sc.out,by go_num,by rw [Ks.out],by rw [Ks.out],by rw [Ks.out],by rw [Ks.out],HGX.out,Co.out⟩
      case measure=>exact Aa
  ·obtain rfl:k=G.length:=by omega
   have dl:decide ((G.length:Int)<(G.length:Int))=false:=by simp
   have HF:=A3 (show (r1,r2)=if sw≠1∨ss≠1∨sf=false then (0,false) else (sb,true) by rw [←HR.out,HS.out];unfold Io;rw [A9 LZ.out]);clear hg hb;rcases sf with _|_
   ·have HN:=A3 (show (r1,r2)=(0,false) by rw [HF.out,AE (.inr (.inr rfl))])
    go_wp2_with fail;all_goals
     go_ret2;refine⟨?_,HB.out⟩;have h:=HN.out;injection h with h2 h3;rw [h2,h3];rfl
   ·by_cases e1:sw=1
    ·by_cases e2:ss=1
     ·have HN:=A3 (show (r1,r2)=(sb,true) by rw [HF.out,A9 (by simp [e1,e2])])
      subst e1 e2;go_wp2_with fail;go_ret2;refine⟨?_,HB.out⟩;have h:=HN.out;injection h with h2 h3;rw [h2,h3];rfl
     ·have HN:=A3 (show (r1,r2)=(0,false) by rw [HF.out,AE (.inr (.inl e2))])
      have HE:=A3 e2;clear e2;subst e1;go_wp2_with fail
      ·exact absurd A0 HE.out
      ·go_ret2
       refine⟨?_,HB.out⟩;have h:=HN.out;injection h with h2 h3;rw [h2,h3];rfl
    ·have HN:=A3 (show (r1,r2)=(0,false) by rw [HF.out,AE (.inl e1)])
     have HE:=A3 e1;clear e1;go_wp2_with fail
     ·exact absurd A0 HE.out
     ·exact absurd A0 HE.out
     ·go_ret2
      refine⟨?_,HB.out⟩;have h:=HN.out;injection h with h2 h3;rw [h2,h3];rfl
section
def IZ (l:List Ins):List Value:=l.flatMap Mq
theorem aqt (l:List Ins) (y:Ins):IZ (l++[y])=IZ l++Mq y:=by simp [IZ]
theorem nL:∀(Q:List Ins) (k j:Nat) (q:Ins),Q[k]?=some q→j<5→(IZ Q)[k*5+j]?=(Mq q)[j]?
 | y :: Q,0,j,q,h,hj=>by
  simp at h;subst h;have e:IZ (y :: Q)=Mq y++IZ Q:=by simp [IZ]
  rw [e,TN,EU,JJ (by simpa [Mq] using hj)]
 | y :: Q,k+1,j,q,h,hj=>by
  have h':Q[k]?=some q:=by simpa using h
  have e:IZ (y :: Q)=Mq y++IZ Q:=by simp [IZ]
  rw [e,J4 (by simp [Mq];omega),show (k+1)*5+j - (Mq y).length=k*5+j by simp [Mq];omega];exact nL Q k j q h' hj
theorem aoI {w:World} {B:Nat} {v:Value} {l:List Ins} (h:w.ownsRow B 67 5 v l.length (IZ l)):VT w v l:=by
 rcases h.2 with⟨rfl,h0⟩|⟨g,cap,cur,rfl,_,hg,h1,h2,_,_⟩
 ·exact⟨none,0,by rw [h0],by omega,by unfold maxLen;omega,fun h=>by omega⟩
 ·refine⟨_,cap,rfl,h1,h2,fun _=>⟨g,0,rfl,(Be.1 hg).1,fun k c hk j u hu=>?_⟩⟩
  have hkl:=(Bl.1 hk).1;have hj:j<5:=by
   have:=(Bl.1 hu).1;simpa [Mq] using this
  rw [EU,h.cellAt _ A0,nL l k j c hk hj,hu]
structure ID (B:Nat) (wr:World) (pg n:Nat) (val:Nat→Value) (Ay:Nat→List Ins):Prop where
 Bk:wr.ownsRow B 144 1 (.slice (some ⟨pg,0,none⟩) n n) n ((List.range n).map fun i=>val i)
 own:∀i,i<n→wr.ownsRow B 67 5 (val i) (Ay i).length (IZ (Ay i))
 Et:∀i j,i<n→j<n→i≠j→∀q,(val i).ownBlock=some q→(val j).ownBlock≠some q
section
variable {B:Nat} {wr:World} {pg n:Nat} {val:Nat→Value} {Ay:Nat→List Ins}
theorem ID.below {wr':World} (h:ID B wr pg n val Ay) (hb:Below wr.heap.size wr wr'):ID B wr' pg n val Ay:=
 ⟨CH h.Bk hb,fun i hi=>CH (h.own i hi) hb,h.Et⟩
theorem ID.rg (h:ID B wr pg n val Ay):B≤pg∧pg<wr.heap.size:=h.Bk.lt pg rfl
theorem ID.cells (h:ID B wr pg n val Ay) {i:Nat} (hi:i<n):wr.cell? ⟨pg,i,none⟩=some (val i)∧wr.frozen? ⟨pg,i,none⟩=false:=
 ⟨by rw [h.Bk.cellAt _ A0,Cr,Ev hi];rfl,h.Bk.frozenAt _⟩
theorem ID.made {W':World} (hr:W'.ownsRow B 144 1 (.slice (some ⟨pg,0,none⟩) n n) n (List.replicate n (.slice none 0 0))):ID B W' pg n (fun _=>.slice none 0 0) (fun _=>[]):=by
 refine⟨?_,fun i hi=>JV _ _ _ _,fun i j hi hj _ q hq=>by cases hq⟩;have e:((List.range n).map fun _=>Value.slice none 0 0)=List.replicate n (Value.slice none 0 0):=by
  apply JX;intro q;by_cases hq:q<n
  ·simp [hq]
  ·simp [hq]
 rw [e];exact hr
theorem ID.kept {w2:World} {row:Option Nat} (h:ID B wr pg n val Ay) (hg:wr.grownBy w2 row) (hp:row≠some pg) (hv:∀i,i<n→∀q,(val i).ownBlock=some q→row≠some q):ID B w2 pg n val Ay:=
 ⟨h.Bk.kept hg (.inr fun e=>hp e.symm),fun i hi=>(h.own i hi).kept hg (by
  cases e:(val i).ownBlock with
  | none=>exact .inl rfl
  | some q=>exact .inr fun e'=>hv i hi q e e'.symm),h.Et⟩
theorem ID.app {w2 W':World} {i:Nat} {y:Ins} {v':Value} (h:ID B wr pg n val Ay) (hi:i<n) (hb:Below wr.heap.size wr w2) (hg:w2.grownBy W' (val i).ownBlock)
  (hown:W'.ownsRow B 67 5 v' ((Ay i).length+1) (IZ (Ay i++[y]))) (Ce:v'.ownBlock=(val i).ownBlock∨v'.ownBlock=some w2.heap.size) :
  ID B (W'.setCell ⟨pg,i,none⟩ v') pg n (upd val i v') (upd Ay i (Ay i++[y])):=by
 have G:=grown_of hb hg;have S:=Hh W' pg i v';obtain⟨p1,p2⟩:=h.rg;have oi:=h.own i hi;have ob:∀q,(val i).ownBlock=some q→B≤q∧q≠pg:=fun q hq=>⟨(oi.lt q hq).1,fun e=>FE oi h.Bk AK q hq Mj⟩;have p':W'.ownsRow B 144 1 (.slice (some ⟨pg,0,none⟩) n n) n ((List.range n).map fun i=>val i):=h.Bk.kept G (.inr (fun e'=>(ob pg e'.symm).2 rfl));have OP:∀q,v'.ownBlock=some q→q≠pg:=fun q hq e=>FE hown p' AK q hq Mj;refine⟨?_,fun j hj=>?_,fun a c ha hc hac q hq=>?_⟩
 ·rw [←jc n val hi v']
  exact (p'.stored i v').1
 ·unfold upd
  by_cases e:j=i
  ·subst e
   rw [AE rfl,AE rfl];rw [show (Ay j++[y]).length=(Ay j).length+1 by simp];exact hown.kept S (by
    cases hv:v'.ownBlock with
    | none=>exact .inl rfl
    | some q=>exact .inr (fun e'=>OP q hv fM))
  ·rw [A9 e,A9 e]
   refine ((h.own j hj).kept G ?_).kept S ?_
   ·cases hv:(val j).ownBlock with
    | none=>exact .inl rfl
    | some q=>exact .inr (fun e'=>h.Et i j hi hj (fun e2=>e e2.symm) q e'.symm hv)
   ·cases hv:(val j).ownBlock with
    | none=>exact .inl rfl
    | some q=>
     refine .inr (fun e'=>?_);have SE:q=pg:=by simpa using e'
     exact FE (h.own j hj) h.Bk AK q hv (by rw [SE];rfl)
 ·have new:∀a,a<n→a≠i→∀q,v'.ownBlock=some q→(val a).ownBlock≠some q:=fun a ha hai q hq hq2=>by
   rcases Ce with h1|h1
   ·rw [h1] at hq
    exact h.Et i a hi ha (fun e=>hai e.symm) q hq hq2
   ·rw [h1] at hq
    cases hq;have:=((h.own a ha).lt _ hq2).2;have:=hb.size;omega
  unfold upd at hq ⊢;by_cases e1:a=i
  ·rw [AE e1] at hq
   rw [A9 (fun e=>hac (e1.trans e.symm))];exact new c hc (fun e=>hac (e1.trans e.symm)) q hq
  ·rw [A9 e1] at hq
   by_cases e2:c=i
   ·rw [AE e2]
    exact fun hq2=>new a ha e1 q hq2 hq
   ·rw [A9 e2]
    exact h.Et a c ha hc hac q hq
theorem ID.apS (h:ID B wr pg n val Ay):Yt wr (.slice (some ⟨pg,0,none⟩) n n) ((List.range n).map Ay):=by
 have pc:n≤maxLen:=by
  rcases h.Bk.2 with⟨e,_⟩|⟨_,_,_,e,_,_,h1,h2,_⟩
  ·cases e
  ·cases e;exact h2
 refine⟨_,n,by simp,by simp,pc,fun _=>⟨pg,0,rfl,h.rg.2,fun i x hx=>?_⟩⟩;rw [Cr] at hx;have hi:i<n:=by
  by_cases hi:i<n
  ·exact hi
  ·rw [E0 Yl] at hx;cases hx
 rw [Ev hi] at hx;simp only [jB,Ri] at hx;subst hx;exact⟨val i,by rw [EU];exact (h.cells hi).1,aoI (h.own i hi)⟩
end
end
section
theorem De.lo {n:Nat}:∀ {l:List AV} {a z:Int},De n a l z→0≤a→∀x∈l,0≤x.lo
 | y :: l,a,z,h,h0,x,hx=>by
  have h1:=h.1.lo;have h2:=h.1.hi;rcases Di.1 hx with rfl|hx
  ·omega
  ·exact De.lo h.2 A0 x hx
def jX (n:Nat) (cd:Nat→Int) (x:AV):Prop:=∀a:Nat,x.lo≤(a:Int)→(a:Int)<x.hi→a<n∧(BB (cd a)).2=0
def Lu (n:Nat) (cd:Nat→Int) (G:List AV):Prop:=∀x∈G,jX n cd x
def FC (cd:Nat→Int) (G:List AV):List (List Ins):=(List.range G.length).map (DW cd G)
def FR (cd:Nat→Int) (G:List AV):List Bool:=(FC cd G).map fun l=>l.any Hg
theorem XY (cd:Nat→Int) (G:List AV):(FC cd G).length=G.length:=by simp [FC]
theorem ao9 (n:Nat) (f:Nat→Bool) (b:Nat) (x:Bool):((List.range n).map fun i=>Value.bool (f i)).set b (.bool x)=(List.range n).map fun i=>Value.bool (upd f b x i):=by
 apply MJ
 ·simp
 ·intro i h1 h2
  rw [Wh];simp only [UW,WZ,upd];by_cases e:b=i
  ·rw [AE e,AE e.symm]
  ·rw [A9 e,A9 (Ds e)]
structure Ed (V wr:World) (sp cb rb n:Nat) (bv pv:Value) (val:Nat→Value) (Ay:Nat→List Ins) (rl:Nat→Bool):Prop where
 A7:Below V.heap.size V wr
 sV:V.heap.size≤sp
 rV:V.heap.size≤rb
 head:wr.heap[sp]?=some (.cells #[bv,pv,.slice (some ⟨cb,0,none⟩) n n,.slice (some ⟨rb,0,none⟩) n n,.slice none 0 0] 159 (0,0))
 pm:ID V.heap.size wr cb n val Ay
 Dn:wr.heap[rb]?=some (.cells ((List.range n).map fun i=>Value.bool (rl i)).toArray 4 (0,0))
section
variable {V wr:World} {sp cb rb n:Nat} {bv pv:Value} {val:Nat→Value} {Ay:Nat→List Ins} {rl:Nat→Bool}
theorem Ed.lt (h:Ed V wr sp cb rb n bv pv val Ay rl):sp<wr.heap.size∧cb<wr.heap.size∧rb<wr.heap.size:=⟨BR h.head,h.pm.rg.2,BR h.Dn⟩
theorem Ed.below {wr':World} (h:Ed V wr sp cb rb n bv pv val Ay rl) (hb:Below wr.heap.size wr wr'):Ed V wr' sp cb rb n bv pv val Ay rl:=by
 obtain⟨l1,l2,l3⟩:=h.lt;exact⟨h.A7.trans (hb.mono h.A7.size),h.sV,h.rV,(hb.block _ l1).trans h.head,h.pm.below hb,(hb.block _ l3).trans h.Dn⟩
theorem Ed.cells (h:Ed V wr sp cb rb n bv pv val Ay rl):wr.cell? ⟨sp,0,none⟩=some bv∧wr.cell? ⟨sp,1,none⟩=some pv∧wr.cell? ⟨sp,2,none⟩=some (.slice (some ⟨cb,0,none⟩) n n)∧wr.cell? ⟨sp,3,none⟩=some (.slice (some ⟨rb,0,none⟩) n n):=by
 refine⟨?_,?_,?_,?_⟩<;>simp [World.cell?,h.head]
theorem Ed.rat (h:Ed V wr sp cb rb n bv pv val Ay rl) {i:Nat} (hi:i<n):wr.cell? ⟨rb,i,none⟩=some (.bool (rl i))∧wr.frozen? ⟨rb,i,none⟩=false:=by
 constructor
 ·simp [World.cell?,h.Dn,hi]
 ·simp [World.frozen?,h.Dn]
theorem Ed.Jd (h:Ed V wr sp cb rb n bv pv val Ay rl) {i:Nat} (hi:i<n):∀q,(val i).ownBlock=some q→V.heap.size≤q∧q≠sp∧q≠cb∧q≠rb:=fun q hq=>by
 have oi:=h.pm.own i hi;obtain⟨cs,hc⟩:=JK oi hq;exact⟨(oi.lt q hq).1,Ct hc h.head AK,fun e=>FE oi h.pm.Bk AK q hq Mj,Ct hc h.Dn AK⟩
theorem Ed.WM (h:Ed V wr sp cb rb n bv pv val Ay rl):sp≠cb∧rb≠cb∧sp≠rb:=by
 obtain⟨cs,hc⟩:=JK h.pm.Bk (q:=cb) rfl;exact⟨Ct h.head hc AK,Ct h.Dn hc AK,Ct h.head h.Dn AK⟩
theorem Ed.app {w2 W':World} {i:Nat} {y:Ins} {v':Value} (h:Ed V wr sp cb rb n bv pv val Ay rl) (hi:i<n) (hb:Below wr.heap.size wr w2) (hg:w2.grownBy W' (val i).ownBlock)
  (hown:W'.ownsRow V.heap.size 67 5 v' ((Ay i).length+1) (IZ (Ay i++[y]))) (Ce:v'.ownBlock=(val i).ownBlock∨v'.ownBlock=some w2.heap.size) :
  Ed V (W'.setCell ⟨cb,i,none⟩ v') sp cb rb n bv pv (upd val i v') (upd Ay i (Ay i++[y])) rl:=by
 have G:=grown_of hb hg;have S:=Hh W' cb i v';obtain⟨l1,l2,l3⟩:=h.lt;obtain⟨c1,c2,c3⟩:=h.WM;have M7:=h.A7.size;have JI:=G.size;have ob:=h.Jd hi;have p1:=h.pm.rg.1;have same:∀k,k<wr.heap.size→k≠cb→(∀q,(val i).ownBlock=some q→k≠q)→(W'.setCell ⟨cb,i,none⟩ v').heap[k]?=wr.heap[k]?:=fun k hk hkc hkq=>by
  rw [BL _ _ _ _ (by show k≠cb;exact hkc)];exact G.block k hk (fun e=>hkq k e.symm rfl)
 exact⟨(h.A7.grown G M7 (fun k hk=>(ob k hk).1)).grown S A0 (fun k hk=>by cases hk;exact p1),h.sV,h.rV,(same sp l1 c1 (fun q hq=>(ob q hq).2.1.symm)).trans h.head,h.pm.app hi hb hg hown Ce,(same rb l3 c2 (fun q hq=>(ob q hq).2.2.2.symm)).trans h.Dn⟩
theorem Ed.mark (h:Ed V wr sp cb rb n bv pv val Ay rl) (i:Nat) (x:Bool):Ed V (wr.setCell ⟨rb,i,none⟩ (.bool x)) sp cb rb n bv pv val Ay (upd rl i x):=by
 have S:=Hh wr rb i (.bool x);obtain⟨l1,l2,l3⟩:=h.lt;obtain⟨c1,c2,c3⟩:=h.WM;have M7:=h.A7.size;refine⟨h.A7.grown S M7 (fun k hk=>by cases hk;exact h.rV),h.sV,h.rV,?_,h.pm.kept S (fun e=>c2 (by simpa using e)) (fun j hj q hq e=>(h.Jd hj q hq).2.2.2 (by simpa using e.symm)),?_⟩
 ·rw [BL _ _ _ _ (by show sp≠rb;exact c3)];exact h.head
 ·rw [Ej _ _ _ _ _ _ h.Dn,AW,ao9]
theorem Ed.done {W':World} {G:List AV} {dv:Value} {D:List Int} (h:Ed V wr sp cb rb n bv pv val Ay rl) (hb:Below wr.heap.size wr W') (hB:Dc V bv G) (hG:G.length=n) (hI:Ints W' dv D) (hD:D.length=n) (Du:∃A k c,bv=.slice A k c) (hpv:∃A k c,pv=.slice A k c) :
  Lx (W'.setCell ⟨sp,4,none⟩ dv) sp bv pv (.slice (some ⟨cb,0,none⟩) n n) (.slice (some ⟨rb,0,none⟩) n n) dv G ((List.range n).map Ay) ((List.range n).map rl) D:=by
 have h':=h.below hb;have S:=Hh W' sp 4 dv;obtain⟨l1,l2,l3⟩:=h'.lt;obtain⟨c1,c2,c3⟩:=h'.WM;have hpm:=h'.pm.kept S (fun e=>c1 (by simpa using e)) (fun j hj q hq e=>(h'.Jd hj q hq).2.1 (by simpa using e.symm));have hbl:Below V.heap.size V (W'.setCell ⟨sp,4,none⟩ dv):=h'.A7.grown S h'.A7.size (fun k hk=>by cases hk;exact h.sV);have hmx:n≤maxLen:=by
  rcases h.pm.Bk.2 with⟨e,_⟩|⟨_,_,_,e,_,_,h1,h2,_⟩
  ·cases e
  ·cases e;exact h2
 refine⟨?_,hB.below hbl,by have:=hpm.apS;exact this,?_,?_,by simp [hG],by simp [hG],by rw [hD,hG]⟩
 ·rw [Ej _ _ _ _ _ _ h'.head];rfl
 ·refine⟨some ⟨rb,0,none⟩,n,by simp,by simp,hmx,fun _=>⟨rb,0,rfl,by have:=S.size;omega,fun k hk=>?_⟩⟩
  have hk':k<n:=by simpa using hk
  have hr:(W'.setCell ⟨sp,4,none⟩ dv).heap[rb]?=some (.cells ((List.range n).map fun i=>Value.bool (rl i)).toArray 4 (0,0)):=by
   rw [BL _ _ _ _ (by show rb≠sp;exact c3.symm)];exact h'.Dn
  simp [World.cell?,hr,hk',List.getD]
 ·obtain⟨A,cap,e3,h1,h2,h4⟩:=hI
  refine⟨A,cap,e3,h1,h2,fun h0=>?_⟩;obtain⟨b,o,e5,h6,h7⟩:=h4 h0;have hne:b≠sp:=fun e=>by
   subst e;have h8:=h7 0 h0;obtain⟨a1,k1,d1,rfl⟩:=Du;obtain⟨a2,k2,d2,rfl⟩:=hpv;have h9:∀(j:Nat) (v:Value),(#[Value.slice a1 k1 d1,Value.slice a2 k2 d2,.slice (some ⟨cb,0,none⟩) n n,.slice (some ⟨rb,0,none⟩) n n,.slice none 0 0]:Array Value)[j]?=some v→∃A k c,v=Value.slice A k c:=fun j v hv=>by
    match j,hv with
    | 0,hv=>simp at hv;exact⟨_,_,_,hv.symm⟩
    | 1,hv=>simp at hv;exact⟨_,_,_,hv.symm⟩
    | 2,hv=>simp at hv;exact⟨_,_,_,hv.symm⟩
    | 3,hv=>simp at hv;exact⟨_,_,_,hv.symm⟩
    | 4,hv=>simp at hv;exact⟨_,_,_,hv.symm⟩
    | j+5,hv=>simp at hv
   have h10:W'.cell? ⟨b,o+0,none⟩=_:=h8;simp only [World.cell?,h'.head] at h10;obtain⟨_,_,_,h11⟩:=h9 _ _ h10;cases h11
  refine⟨b,o,e5,by have:=S.size;omega,fun k hk=>?_⟩;rw [←h7 k hk];exact World.cell?_setCell_far _ _ _ _ (fun e=>hne e.symm)
end
end
end Go.Proofs.YtlmgkipmfgijiaaGreatDoor
