/-
  What is proved here: parts yPlain, dDef, dRef, dMem, dCyc, dCyc2, dCnt, dPas, dPas2, dWr, dCoP, dEq, dCo, dPm, dPrM.
-/
import Derived.Test.YtlmgkipmfgijiaaGreatDoorVa
import Derived.Test.YtlmgkipmfgijiaaGreatDoorVe
import Derived.Test.YtlmgkipmfgijiaaGreatDoorVf
import Derived.Laws.EntriesVeiled
import Derived.Test.YtlmgkipmfgijiaaGreatDoorVo
namespace Go.Proofs.YtlmgkipmfgijiaaGreatDoor
set_option linter.unusedVariables false
set_option linter.unusedSimpArgs false
set_option maxRecDepth 100000
set_option maxHeartbeats 8000000
open Go.RowKit
section
inductive Rb (nx:Nat→List Nat) (AG:Nat→Prop) (hd b:Nat):Nat→Prop
 | self:Rb nx AG hd b b
 | step {x y:Nat}:Rb nx AG hd b x→y∈nx x→y≠hd→AG y→Rb nx AG hd b y
def Uw (nx:Nat→List Nat) (AG:Nat→Prop) (hd b:Nat):Prop:=∃x,Rb nx AG hd b x∧b∈nx x
def VM (AG:Nat→Prop) (hd b:Nat) (S:Nat→Prop) (y:Nat):Prop:=y≠b∧(y≠hd→AG y→S y)
theorem VM.more {AG:Nat→Prop} {hd b:Nat} {S S':Nat→Prop} {y:Nat} (h:VM AG hd b S y) (hg:∀x,S x→S' x):VM AG hd b S' y:=⟨h.1,fun h1 h2=>hg y (h.2 h1 h2)⟩
structure RF (nx:Nat→List Nat) (AG:Nat→Prop) (hd b E9:Nat) (S S':Nat→Prop) (r:Bool):Prop where
 grow:∀x,S x→S' x
 sub:∀x,S' x→S x∨AG x
 yes:r=true→∀Q:Nat→Prop,Q E9→(∀x,Q x→∀y∈nx x,y≠hd→AG y→Q y)→∃x,Q x∧b∈nx x
 no:r=false→∀x,(x=E9∨S' x∧¬S x)→∀y∈nx x,VM AG hd b S' y
structure Js (nx:Nat→List Nat) (AG:Nat→Prop) (hd b:Nat) (ts:List Nat) (S S':Nat→Prop):Prop where
 grow:∀x,S x→S' x
 sub:∀x,S' x→S x∨AG x
 ts:∀y∈ts,VM AG hd b S' y
 no:∀x,S' x∧¬S x→∀y∈nx x,VM AG hd b S' y
section
variable {nx:Nat→List Nat} {AG:Nat→Prop} {hd b E9 y:Nat} {ts:List Nat} {S S' Rw:Nat→Prop}
theorem Js.nil:Js nx AG hd b [] S S:=⟨fun _ h=>h,fun _ h=>.inl h,by simp,fun x h=>absurd h.1 h.2⟩
theorem Js.skip (h:Js nx AG hd b ts S S') (hb:y≠b) (hs:y=hd∨¬AG y∨S' y):Js nx AG hd b (ts++[y]) S S':=by
 refine⟨h.grow,h.sub,fun z hz=>?_,h.no⟩;rcases Ch.1 hz with hz|hz
 ·exact h.ts z hz
 ·obtain rfl:z=y:=by simpa using hz
  refine⟨hb,fun h1 h2=>?_⟩;rcases hs with h3|h3|h3
  ·exact absurd h3 h1
  ·exact absurd h2 h3
  ·exact h3
theorem Js.into (h:Js nx AG hd b ts S S') (hb:y≠b) (hi:AG y) (k:RF nx AG hd b y (fun x=>S' x∨x=y) Rw false):Js nx AG hd b (ts++[y]) S Rw:=by
 have hg:∀x,S' x→Rw x:=fun x hx=>k.grow x (.inl hx);refine⟨fun x hx=>hg x (h.grow x hx),fun x hx=>?_,fun z hz=>?_,fun x hx z hz=>?_⟩
 ·rcases k.sub x hx with (h1|rfl)|h1
  ·exact h.sub x h1
  ·exact .inr hi
  ·exact .inr h1
 ·rcases Ch.1 hz with hz|hz
  ·exact (h.ts z hz).more hg
  ·obtain rfl:z=y:=by simpa using hz
   exact⟨hb,fun _ _=>k.grow z (.inr rfl)⟩
 ·by_cases h1:S' x
  ·exact (h.no x ⟨h1,hx.2⟩ z hz).more hg
  ·by_cases h2:x=y
   ·exact k.no rfl x (.inl h2) z hz
   ·exact k.no rfl x (.inr ⟨hx.1,fun h3=>h3.elim h1 h2⟩) z hz
theorem Js.all (h:Js nx AG hd b (nx E9) S S'):RF nx AG hd b E9 S S' false:=by
 refine⟨h.grow,h.sub,fun h=>(by cases h),fun _ x hx z hz=>?_⟩;rcases hx with rfl|hx
 ·exact h.ts z hz
 ·exact h.no x hx z hz
theorem Js.found (h:Js nx AG hd b ts S S') (hb:b∈nx E9):RF nx AG hd b E9 S S' true:=
 ⟨h.grow,h.sub,fun _ Q hQ _=>⟨E9,hQ,hb⟩,fun h=>(by cases h)⟩
theorem Js.yes (h:Js nx AG hd b ts S S') (hy:y∈nx E9) (hh:y≠hd) (hi:AG y) (k:RF nx AG hd b y (fun x=>S' x∨x=y) Rw true):RF nx AG hd b E9 S Rw true:=by
 refine⟨fun x hx=>k.grow x (.inl (h.grow x hx)),fun x hx=>?_,fun _ Q hQ hc=>k.yes rfl Q (hc E9 hQ y hy hh hi) hc,fun h=>by cases h⟩;rcases k.sub x hx with (h1|rfl)|h1
 ·exact h.sub x h1
 ·exact .inr hi
 ·exact .inr h1
theorem RF.cyc {r:Bool} (h:RF nx AG hd b b (fun _=>False) S' r):r=true↔Uw nx AG hd b:=by
 constructor
 ·intro hr
  exact h.yes hr (Rb nx AG hd b) .self fun x hx y hy h1 h2=>.step hx hy h1 h2
 ·rintro⟨x,hx,hb⟩
  cases r with
  | true=>rfl
  | false=>
   have key:∀z,Rb nx AG hd b z→z=b∨S' z:=fun z hz=>by
    induction hz with
    | self=>exact .inl rfl
    | @step x y _ hy h1 h2 ih=>exact .inr ((h.no rfl x (ih.imp_right fun h=>⟨h,id⟩) y hy).2 h1 h2)
   have:=h.no rfl x ((key x hx).imp_right fun h=>⟨h,id⟩) b hb;exact absurd rfl this.1
end
end
section
def Hq (w:World) (v:Value) (l:List Bool):Prop:=
 ∃A cap,v=.slice A l.length cap∧l.length≤cap∧cap≤maxLen∧(0<l.length→∃b off,A=some ⟨b,off,none⟩∧b<w.heap.size∧∀k,k<l.length→w.cell? ⟨b,off+k,none⟩=some (.bool (l.getD k false)))
theorem Hq.below {w w':World} {v:Value} {l:List Bool} (h:Hq w v l) (hb:Below w.heap.size w w'):Hq w' v l:=by
 obtain⟨A,cap,h1,h2,h3,h4⟩:=h;refine⟨A,cap,h1,h2,h3,fun h0=>?_⟩;obtain⟨b,off,e,hl,hc⟩:=h4 h0;exact⟨b,off,e,by have:=hb.size;omega,fun k hk=>(hb.cell (p:=⟨b,_,none⟩) hl).trans (hc k hk)⟩
theorem Zd {w:World} {B:Nat} {v:Value} {l:List Bool} (h:w.ownsRow B 4 1 v l.length (Fw l)):Hq w v l:=by
 rcases h.2 with⟨rfl,h0⟩|⟨g,cap',cur,rfl,h1,h2,h3,h4,_,_⟩
 ·exact⟨none,0,by rw [h0],by omega,by unfold maxLen;omega,fun h=>by omega⟩
 ·refine⟨_,cap',rfl,h3,h4,fun _=>⟨g,0,rfl,(Bl.1 h2).1,fun k hk=>?_⟩⟩
  rw [Er,h.cellAt _ A0,Fw,D8,List.getD,Ab hk];rfl
def NC (c:Ins):List Value:=[.int .u8 c.op,.int .i64 c.a,.int .i64 c.b,.int .i64 c.c,.int .i64 c.AD]
def Wy (w:World) (v:Value) (l:List Ins):Prop:=
 ∃A cap,v=.slice A l.length cap∧l.length≤cap∧cap≤maxLen∧(0<l.length→∃b off,A=some ⟨b,off,none⟩∧b<w.heap.size∧∀k c,l[k]?=some c→∀j u,(NC c)[j]?=some u→w.cell? ⟨b,off+k*5+j,none⟩=some u)
def Xh (w:World) (v:Value) (C:List (List Ins)):Prop:=
 ∃A cap,v=.slice A C.length cap∧C.length≤cap∧cap≤maxLen∧(0<C.length→∃b off,A=some ⟨b,off,none⟩∧b<w.heap.size∧∀k x,C[k]?=some x→∃u,w.cell? ⟨b,off+k,none⟩=some u∧Wy w u x)
theorem Wy.below {w w':World} {v:Value} {l:List Ins} (h:Wy w v l) (hb:Below w.heap.size w w'):Wy w' v l:=by
 obtain⟨A,cap,h1,h2,h3,h4⟩:=h;refine⟨A,cap,h1,h2,h3,fun h0=>?_⟩;obtain⟨b,off,e,hl,hc⟩:=h4 h0;exact⟨b,off,e,by have:=hb.size;omega,fun k c hk j u hu=>(hb.cell (p:=⟨b,_,none⟩) hl).trans (hc k c hk j u hu)⟩
theorem Xh.below {w w':World} {v:Value} {C:List (List Ins)} (h:Xh w v C) (hb:Below w.heap.size w w'):Xh w' v C:=by
 obtain⟨A,cap,h1,h2,h3,h4⟩:=h;refine⟨A,cap,h1,h2,h3,fun h0=>?_⟩;obtain⟨b,off,e,hl,hc⟩:=h4 h0;exact⟨b,off,e,by have:=hb.size;omega,fun k x hk=>by
  obtain⟨u,h5,h6⟩:=hc k x hk
  exact⟨u,(hb.cell (p:=⟨b,_,none⟩) hl).trans h5,h6.below hb⟩⟩
structure Lu (w:World) (sp:Nat) (bv pv cv rv dv:Value) (G:List AU) (C:List (List Ins)) (rel:List Bool) (D:List Int):Prop where
 blk:w.heap[sp]?=some (.cells #[bv,pv,cv,rv,dv] 159 (0,0))
 Kg:E7 w bv G
 MK:Xh w cv C
 rls:Hq w rv rel
 dom:Ints w dv D
 lc:C.length=G.length
 lr:rel.length=G.length
 ld:D.length=G.length
section
variable {w w':World} {sp:Nat} {bv pv cv rv dv:Value} {G:List AU} {C:List (List Ins)} {rel:List Bool} {D:List Int}
theorem Lu.below (h:Lu w sp bv pv cv rv dv G C rel D) (hb:Below w.heap.size w w'):Lu w' sp bv pv cv rv dv G C rel D:=
 ⟨(hb.block sp (Bl.1 h.blk).1).trans h.blk,h.Kg.below hb,h.MK.below hb,h.rls.below hb,h.dom.below hb,h.lc,h.lr,h.ld⟩
theorem Lu.cells (h:Lu w sp bv pv cv rv dv G C rel D):w.cell? ⟨sp,0,none⟩=some bv∧w.cell? ⟨sp,1,none⟩=some pv∧w.cell? ⟨sp,2,none⟩=some cv∧w.cell? ⟨sp,3,none⟩=some rv∧w.cell? ⟨sp,4,none⟩=some dv∧sp<w.heap.size:=
 ⟨by simp [World.cell?,h.blk],by simp [World.cell?,h.blk],by simp [World.cell?,h.blk],by simp [World.cell?,h.blk],by simp [World.cell?,h.blk],(Bl.1 h.blk).1⟩
end
def I9 (n:Nat) (l:List Int):Bool:=l.all fun x=>decide (0≤x) && decide (x<(n:Int))
theorem gY (v:Value) (l:List Int) (n q:Nat) (w:World) (HI:Ints w v l) (hq:q<w.heap.size) (hc:w.cell? ⟨q,0,none⟩=some (.int .i64 (n:Int))) :
  Calls Tryz.prog 76 #[v,.pointer (some ⟨q,0,none⟩)] w fun e w'=>e=.returned (.bool (I9 n l))∧w=w':=by
 obtain⟨A,cap,rfl,hc1,hc2⟩:=HI.slice;have HH:=A3 HI;obtain⟨m,hm⟩:=A8 l.length;rw [hm] at hc1 ⊢;have HM:=A3 hm;obtain⟨kn,hkn⟩:∃b,I9 n l=b:=⟨_,rfl⟩;rw [hkn];have HK:=A3 hkn;clear hm HI hkn;go_enter Tryz.func76,Tryz.ntmps76;go_upto_region 2 with fail;go_loopw [8] (fun a8 wr=>∃k:Nat,k≤m∧a8=.int .i64 (k:Int)∧w=wr∧∀x∈l.take k,0≤x∧x<(n:Int)) (fun a8 _=>m - (intOf a8).toNat);case atStart=>exact⟨0,Ca _,rfl,rfl,by simp⟩
 case round=>
  obtain⟨k,hk,rfl,rfl,hal⟩:=hrel;have HAL:=A3 hal;clear hal;by_cases hlt:k<m
  ·have dl:decide ((k:Int)<(m:Int))=true:=Ac A0
   obtain⟨x,b,o,hx,e,hb,c1⟩:=(HM.out▸HH.out:Ints w (.slice A l.length cap) l).at_ (AV _ _) (j:=k) Xk;subst e;have HX:=A3 (show l.take (k+1)=l.take k++[x] by rw [I6,hx];rfl);have HXM:=A3 (Bj hx);clear hx;by_cases h0:x<0
   ·have d0:decide (x<0)=true:=Ac h0
    have HF:=A3 (show kn=false by
     rw [←HK.out];unfold I9
     exact rL.2 ⟨x,HXM.out,by simp;omega⟩)
    clear h0;go_wp2_with fail;go_ret;exact⟨by rw [HF.out];rfl,rfl⟩
   ·have d0:decide (x<0)=false:=Ad h0
    by_cases h1:x<(n:Int)
    ·have d1:decide ((n:Int)≤x)=false:=Ad A0
     have Ky:=A3 (show ∀y∈l.take (k+1),0≤y∧y<(n:Int) from fun y hy=>by
      rw [HX.out] at hy;rcases Ch.1 hy with hy|hy
      ·exact HAL.out y hy
      ·obtain rfl:y=x:=by simpa using hy
       omega)
     clear h0;go_wp2_with fail;go_roundw;case rel=>exact⟨k+1,by omega,by go_num,(by trivial),Ky.out⟩
     case measure=>exact Ai
    ·have d1:decide ((n:Int)≤x)=true:=Ac A0
     have HF:=A3 (show kn=false by
      rw [←HK.out];unfold I9
      exact rL.2 ⟨x,HXM.out,by simp;omega⟩)
     clear h0;go_wp2_with fail;go_ret;exact⟨by rw [HF.out];rfl,rfl⟩
  ·obtain rfl:m=k:=by omega
   have dl:decide ((m:Int)<(m:Int))=false:=by simp
   have HT:=A3 (show kn=true by
    have h2:=HAL.out;rw [K8 (by rw [HM.out];exact AH _)] at h2;rw [←HK.out];unfold I9
    exact Mm.2 fun x hx=>by have:=h2 x hx;simp;omega)
   go_wp2_with fail;go_ret;exact⟨by rw [HT.out];rfl,rfl⟩
end
def Kq (n:Nat) (x:Lp):Bool:=I9 n [x.h] && I9 n x.bl && I9 n x.la
theorem ja {w:World} {sp:Nat} {bv pv cv rv dv:Value} {G:List AU} {C:List (List Ins)} {rel:List Bool} {D:List Int} (HS:Lu w sp bv pv cv rv dv G C rel D) (hn:G.length≤5000) (x:Lp) (p:Int) (v1 v2:Value) (H1:Ints w v1 x.bl) (H2:Ints w v2 x.la) :
  Calls Tryz.prog 45 #[.pointer (some ⟨sp,0,none⟩),.agg #[.int .i64 x.h,v1,v2,.int .i64 p]] w fun e w'=>e=.returned (.bool (Kq G.length x))∧Below w.heap.size w w':=by
 obtain⟨A,cap,rfl,hc1,hc2⟩:=HS.Kg.slice;obtain⟨A1,Ht,rfl,-,-⟩:=H1.slice;obtain⟨A2,EY,rfl,-,-⟩:=H2.slice;have he:∀(args:Array Value) (w:World),(callFunc 76 args).run Tryz.prog w=.ok (.enter 76 args) w:=fun _ _=>by kernel_rfl
 obtain⟨xh,FT⟩:∃h,x.h=h:=⟨_,rfl⟩;obtain⟨n1,hn1⟩:∃n,x.bl.length=n:=⟨_,rfl⟩;obtain⟨n2,hn2⟩:∃n,x.la.length=n:=⟨_,rfl⟩;obtain⟨gn,hgn⟩:∃n,G.length=n:=⟨_,rfl⟩;obtain⟨R,hR⟩:∃r,Kq G.length x=r:=⟨_,rfl⟩;obtain⟨t0,t1,-,-,-,t5⟩:=HS.cells;rw [hgn] at t0 hc1;rw [hR,FT,hn1,hn2];have HH1:=A3 (show Ints w (.slice A1 n1 Ht) x.bl by rw [←hn1];exact H1);have HH2:=A3 (show Ints w (.slice A2 n2 EY) x.la by rw [←hn2];exact H2);obtain⟨W1,hW1⟩:∃W,w.alloc (.cells #[.int .i64 xh,.slice A1 n1 Ht,.slice A2 n2 EY,.int .i64 p] 46)=W:=⟨_,rfl⟩;obtain⟨q3,hq3⟩:∃q,w.heap.size=q:=⟨_,rfl⟩;have b1:Below w.heap.size w W1:=hW1▸(AV _ _).alloc (AH _) _;have k3:W1.heap[q3]?=some (.cells #[.int .i64 xh,.slice A1 n1 Ht,.slice A2 n2 EY,.int .i64 p] 46 (0,0)):=by rw [←hq3,← hW1];exact AY _ _
 have u0:W1.cell? ⟨sp,0,none⟩=some (.slice A gn cap):=(b1.cell (p:=⟨sp,0,none⟩) t5).trans t0;obtain⟨W2,hW2⟩:∃W,W1.alloc (.cells #[.int .i64 (gn:Int)] 3)=W:=⟨_,rfl⟩;obtain⟨q5,hq5⟩:∃q,W1.heap.size=q:=⟨_,rfl⟩;have b2:Below W1.heap.size W1 W2:=hW2▸(AV _ _).alloc (AH _) _;have k5:W2.heap[q5]?=some (.cells #[.int .i64 (gn:Int)] 3 (0,0)):=by rw [←hq5,← hW2];exact AY _ _
 have k3b:=(b2.block q3 (Bl.1 k3).1).trans k3;obtain⟨c0,c1,c2,-,c4⟩:=FY k3b;have B2:=A3 (b1.trans (b2.mono b1.size));obtain⟨Y,hY⟩:∃W,W2.alloc (.cells #[.int .i64 xh] 3)=W:=⟨_,rfl⟩;obtain⟨q7,hq7⟩:∃q,W2.heap.size=q:=⟨_,rfl⟩;have b3:Below W2.heap.size W2 Y:=hY▸(AV _ _).alloc (AH _) _;have k7:Y.heap[q7]?=some (.cells #[.int .i64 xh] 3 (0,0)):=by rw [←hq7,← hY];exact AY _ _
 have k5y:=(b3.block q5 (Bl.1 k5).1).trans k5;have k3y:=(b3.block q3 c4).trans k3b;obtain⟨d0,d1,d2,-,d4⟩:=FY k3y;have BY:=A3 (B2.out.trans (b3.mono B2.out.size));have c5:Y.cell? ⟨q5,0,none⟩=some (.int .i64 (gn:Int)):=by simp [World.cell?,k5y]
 have s5:q5<Y.heap.size:=(Bl.1 k5y).1;have SN:=A3 (gY (.slice (some ⟨q7,0,none⟩) 1 1) [xh] gn q5 Y ⟨_,1,rfl,by simp,by unfold maxLen;simp,fun _=>⟨q7,0,rfl,(Bl.1 k7).1,fun k hk=>by
  obtain rfl:k=0:=by simpa using hk
  simp [World.cell?,k7]⟩⟩ s5 c5)
 have⟨Vj,HK3⟩:=AQ (gY _ _ gn q5 Y (HH1.out.below BY.out) s5 c5) (gY _ _ gn q5 Y (HH2.out.below BY.out) s5 c5);have J8:=A3 (show R=(I9 gn [xh] && I9 gn x.bl && I9 gn x.la) by rw [←hR,← FT,← hgn];rfl);clear hR HS H1 H2 FT hn1 hn2 hgn t0 t1 k3 b1 b2 b3 k5 k3b k7 k5y k3y;obtain⟨r1,hr1⟩:∃r,I9 gn [xh]=r:=⟨_,rfl⟩;obtain⟨r2,hr2⟩:∃r,I9 gn x.bl=r:=⟨_,rfl⟩;obtain⟨r3,hr3⟩:∃r,I9 gn x.la=r:=⟨_,rfl⟩;rw [hr1] at SN J8;rw [hr2] at Vj J8;rw [hr3] at HK3 J8;clear hr1 hr2 hr3;go_enter Tryz.func45,Tryz.ntmps45;rcases r1 with _|_
 ·go_wp2_with (go_at_call 76;refine SN.out.mono ?_;rintro e w' ⟨rfl,rfl⟩)
  go_ret;exact⟨by rw [J8.out];rfl,BY.out⟩
 ·rcases r2 with _|_
  ·go_wp2_with (go_at_call 76;(first|((with_reducible refine SN.out.mono ?_);rintro e w' ⟨rfl,rfl⟩)|((with_reducible refine Vj.out.mono ?_);rintro e w' ⟨rfl,rfl⟩)))
   go_ret;exact⟨by rw [J8.out];rfl,BY.out⟩
  ·go_wp2_with (go_at_call 76;(first|((with_reducible refine SN.out.mono ?_);rintro e w' ⟨rfl,rfl⟩)|((with_reducible refine Vj.out.mono ?_);rintro e w' ⟨rfl,rfl⟩)|((with_reducible refine HK3.out.mono ?_);rintro e w' ⟨rfl,rfl⟩)))
   go_ret;exact⟨by rw [J8.out];simp,BY.out⟩
def Eu (n:Nat) (l:List Int):List Bool:=(List.range n).map fun (k:Nat)=>decide ((k:Int)∈l)
theorem Sm (n:Nat) (l:List Int):(Eu n l).length=n:=by simp [Eu]
theorem aa8 (n:Nat):Eu n []=List.replicate n false:=by
 apply KC
 ·simp [Eu]
 ·intro i h1 h2;simp [Eu]
theorem anN (n:Nat) (l:List Int) (b:Nat):(Eu n l).set b true=Eu n (l++[(b:Int)]):=by
 apply KC
 ·simp [Eu]
 ·intro i h1 h2
  rw [U8];simp only [Eu,UE,Ug,Ch,mm];by_cases e:b=i
  ·rw [A9 e];simp [e]
  ·rw [A6 e]
   have:¬((i:Int)=(b:Int)):=by omega
   simp [this]
theorem afM {n:Nat} {l:List Int} {k:Nat} (hk:k<n):(Eu n l).getD k false=decide ((k:Int)∈l):=by
 rw [List.getD,Eu,D8,FI hk];rfl
theorem jO (l:List Bool) (k:Nat) (x:Bool):(Fw l).set k (.bool x)=Fw (l.set k x):=by simp [Fw,Tv]
theorem jY {w:World} {B g m cap:Nat} {l:List Bool} (h:w.ownsRow B 4 1 (.slice (some ⟨g,0,none⟩) m cap) m (Fw l)) (hl:l.length=m) {k:Nat} (hk:k<m):w.cell? ⟨g,k,none⟩=some (.bool (l.getD k false)):=by
 rw [h.cellAt _ A0,Fw,D8,List.getD,Ab (by omega:k<l.length)];rfl
theorem uB {w:World} {sp:Nat} {bv pv cv rv dv:Value} {G:List AU} {C:List (List Ins)} {rel:List Bool} {D:List Int} (HS:Lu w sp bv pv cv rv dv G C rel D) (hn:G.length≤5000) (x:Lp) (p:Int) (v1 v2:Value) (H1:Ints w v1 x.bl) (H2:Ints w v2 x.la) (hk:I9 G.length x.bl=true) :
  Calls Tryz.prog 46 #[.pointer (some ⟨sp,0,none⟩),.agg #[.int .i64 x.h,v1,v2,.int .i64 p]] w fun e w'=>∃g,e=.returned (.slice (some ⟨g,0,none⟩) G.length G.length)∧w'.ownsRow w.heap.size 4 1 (.slice (some ⟨g,0,none⟩) G.length G.length) G.length (Fw (Eu G.length x.bl))∧Below w.heap.size w w':=by
 obtain⟨A,cap,rfl,hc1,hc2⟩:=HS.Kg.slice;obtain⟨A1,Ht,rfl,hb1,hb2⟩:=H1.slice;obtain⟨A2,EY,rfl,-,-⟩:=H2.slice;obtain⟨xh,FT⟩:∃h,x.h=h:=⟨_,rfl⟩;obtain⟨n1,hn1⟩:∃n,x.bl.length=n:=⟨_,rfl⟩;obtain⟨n2,hn2⟩:∃n,x.la.length=n:=⟨_,rfl⟩;obtain⟨bl,hbl⟩:∃l,x.bl=l:=⟨_,rfl⟩;obtain⟨gn,hgn⟩:∃n,G.length=n:=⟨_,rfl⟩;obtain⟨t0,t1,-,-,-,t5⟩:=HS.cells;rw [hgn] at t0 hc1 hk hn ⊢;rw [FT,hn1,hn2];rw [hbl] at hk H1 hn1 ⊢;rw [hbl,hn1] at hb1;try rw [hn1] at H1
 have⟨HKN,WY,HH1⟩:=Bh (Mm.1 (show (bl.all fun x=>decide (0≤x) && decide (x<(gn:Int)))=true from hk)) hn1 H1;obtain⟨W1,hW1⟩:∃W,w.alloc (.cells #[.int .i64 xh,.slice A1 n1 Ht,.slice A2 n2 EY,.int .i64 p] 46)=W:=⟨_,rfl⟩;obtain⟨q3,hq3⟩:∃q,w.heap.size=q:=⟨_,rfl⟩;have b1:Below w.heap.size w W1:=hW1▸(AV _ _).alloc (AH _) _;have k3:W1.heap[q3]?=some (.cells #[.int .i64 xh,.slice A1 n1 Ht,.slice A2 n2 EY,.int .i64 p] 46 (0,0)):=by rw [←hq3,← hW1];exact AY _ _
 have u0:W1.cell? ⟨sp,0,none⟩=some (.slice A gn cap):=(b1.cell (p:=⟨sp,0,none⟩) t5).trans t0;have su:sp<W1.heap.size:=by have:=b1.size;omega
 obtain⟨i2,hi2,hs0,hs1,hs2⟩:=Dp bE;obtain⟨U1,lm,D7,gr1⟩:=Qb (P:=Tryz.prog) W1 w.heap.size 55 4 i2 (.bool false) 1 YD hi2 hs0 hs1 .i64 .i64 gn Xc CJ b1.size;rw [N6,show (Value.bool false).cells=#[Value.bool false] from rfl,Qs] at D7;have bU:Below w.heap.size w U1:=b1.grown gr1 b1.size (fun k hk=>by cases hk);have k3u:U1.heap[q3]?=_:=(gr1.block q3 (Bl.1 k3).1 AR).trans k3;obtain⟨c0,c1,c2,-,c4⟩:=FY k3u;obtain⟨g,hg⟩:∃q,W1.heap.size=q:=⟨_,rfl⟩;rw [hg] at lm D7;have HR:=A3 (show U1.ownsRow w.heap.size 4 1 (.slice (some ⟨g,0,none⟩) gn gn) gn (Fw (Eu gn (bl.take 0))) by rw [List.take_zero,aa8];simpa [Fw] using D7);have BU:=A3 bU;clear HS H1 H2 FT hn1 hn2 hgn t0 t1 t5 b1 k3 bU k3u D7 gr1 hk hbl hi2 hs0 hs1 hs2 i2 hg hc1 hc2;go_enter Tryz.func46,Tryz.ntmps46;go_upto_region 3 with fail;clear lm u0 su c0 c1 c2 c4 hW1 hq3;go_loopw [18] (fun a18 wr=>∃k:Nat,k≤n1∧a18=.int .i64 (k:Int)∧wr.ownsRow w.heap.size 4 1 (.slice (some ⟨g,0,none⟩) gn gn) gn (Fw (Eu gn (bl.take k)))∧Below w.heap.size w wr) (fun a18 _=>n1 - (intOf a18).toNat);case atStart=>exact⟨0,Ca _,rfl,HR.out,BU.out⟩
 case round=>
  clear HR BU;obtain⟨k,hk,rfl,hr,hb⟩:=hrel;have⟨HR,HB⟩:=AQ hr hb;by_cases hlt:k<n1
  ·have dl:decide ((k:Int)<(n1:Int))=true:=Ac A0
   obtain⟨y,yb,yo,hy,e,hyb,cy⟩:=(WY.out▸HH1.out:Ints w (.slice A1 bl.length Ht) bl).at_ hb (j:=k) (by rw [WY.out];exact hlt);subst e;have hyk:=HKN.out y (Bj hy);simp only [Eh,E4] at hyk;obtain⟨b,rfl⟩:∃b:Nat,y=(b:Int):=⟨y.toNat,by omega⟩;have DC:b<gn:=by omega
   have ib:(b:Int)<(gn:Int):=hyk.2;have x1:=jY hr (Sm _ _) DC;have x2:=hr.frozenAt b;have r1:=(hr.stored b (.bool true)).1;have sg:=(hr.lt g rfl);rw [jO,anN,show bl.take k++[(b:Int)]=bl.take (k+1) by rw [I6,hy];rfl] at r1;have⟨R1,B1⟩:=AQ r1 (hb.setCell (p:=⟨g,b,none⟩) sg.1 (.bool true));clear hr hb hy hyk r1 sg;go_wp2_with fail;go_roundw;case rel=>exact⟨k+1,by omega,by go_num,R1.out,B1.out⟩
   case measure=>exact Ai
  ·obtain rfl:n1=k:=by omega
   have dl:decide ((n1:Int)<(n1:Int))=false:=by simp
   rw [K8 (by rw [WY.out];exact AH _)] at hr;have EW:=A3 hr;clear hr hb;go_wp2_with fail;go_ret;exact⟨g,rfl,EW.out,HB.out⟩
section
def sn (s:List Bool) (x:Nat):Prop:=s.getD x false=true
theorem nW {s:List Bool} {t:Nat} (ht:t<s.length):sn (s.set t true)=fun x=>sn s x∨x=t:=by
 funext x;unfold sn;by_cases e:x=t
 ·subst e;simp [List.getD,ht]
 ·simp [List.getD,Xi (ED e),e]
theorem vh:∀ {a b:List Bool},a.length=b.length→(∀x,sn b x→sn a x)→unseen a≤unseen b
 | [],b,_,_=>by simp [unseen]
 | x :: a,b,hl,hh=>by
  cases b with
  | nil=>cases hl
  | cons y b=>
   have h1:=vh (a:=a) (b:=b) dS fun z hz=>by have:=hh (z+1);simpa [sn] using this (by simpa [sn] using hz)
   have h2:=hh 0;unfold unseen at h1 ⊢;rw [Tq,Tq];cases x<;>cases y<;>simp [sn] at h1 h2 ⊢ <;> omega
structure QA (w wr:World) (q4 q7 q5 q6 q9 q10 sb sp n b hd:Nat) (iv l1 l2 l3:Value) (s:List Bool):Prop where
 AA:Below w.heap.size w wr
 k4:wr.heap[q4]?=some (.cells #[.pointer (some ⟨sp,0,none⟩)] 117 (0,0))
 k7:wr.heap[q7]?=some (.cells #[.int .i64 (b:Int)] 3 (0,0))
 k5:wr.heap[q5]?=some (.cells #[.int .i64 (hd:Int),l1,l2,l3] 46 (0,0))
 k6:wr.heap[q6]?=some (.cells #[iv] 55 (0,0))
 k9:wr.heap[q9]?=some (.cells #[.slice (some ⟨sb,0,none⟩) n n] 55 (0,0))
 k10:wr.heap[q10]?=some (.cells #[.func (.func 100) #[] #[.pointer (some ⟨q4,0,none⟩),.pointer (some ⟨q7,0,none⟩),.pointer (some ⟨q5,0,none⟩),.pointer (some ⟨q6,0,none⟩),.pointer (some ⟨q9,0,none⟩),.pointer (some ⟨q10,0,none⟩)]] 155 (0,0))
 row:wr.ownsRow w.heap.size 4 1 (.slice (some ⟨sb,0,none⟩) n n) n (Fw s)
 len:s.length=n
section
variable {w wr:World} {q4 q7 q5 q6 q9 q10 sb sp n b hd:Nat} {iv l1 l2 l3:Value} {s:List Bool}
theorem QA.set (h:QA w wr q4 q7 q5 q6 q9 q10 sb sp n b hd iv l1 l2 l3 s) (t:Nat):QA w (wr.setCell ⟨sb,t,none⟩ (.bool true)) q4 q7 q5 q6 q9 q10 sb sp n b hd iv l1 l2 l3 (s.set t true):=by
 have keep:∀(q:Nat) (cs:Array Value) (t':TypeId) (fr:Nat×Nat),wr.heap[q]?=some (.cells cs t' fr)→t'≠4→(wr.setCell ⟨sb,t,none⟩ (.bool true)).heap[q]?=some (.cells cs t' fr):=fun q cs t' fr hq ht=>by
  rw [Bb _ _ _ _ (Kn hq h.row ht∘fun e=>by rw [e];rfl)];exact hq
 have r:=(h.row.stored t (.bool true)).1;rw [jO] at r;exact⟨h.AA.setCell (p:=⟨sb,t,none⟩) (h.row.lt sb rfl).1 _,keep _ _ _ _ h.k4 AP,keep _ _ _ _ h.k7 AP,keep _ _ _ _ h.k5 AP,keep _ _ _ _ h.k6 AP,keep _ _ _ _ h.k9 AP,keep _ _ _ _ h.k10 AP,r,by simp [h.len]⟩
theorem QA.cells (h:QA w wr q4 q7 q5 q6 q9 q10 sb sp n b hd iv l1 l2 l3 s):wr.cell? ⟨q4,0,none⟩=some (.pointer (some ⟨sp,0,none⟩))∧wr.cell? ⟨q7,0,none⟩=some (.int .i64 (b:Int))∧wr.cell? ⟨q5,0,none⟩=some (.int .i64 (hd:Int))∧wr.cell? ⟨q6,0,none⟩=some iv∧wr.cell? ⟨q9,0,none⟩=some (.slice (some ⟨sb,0,none⟩) n n)∧
  wr.cell? ⟨q10,0,none⟩=some (.func (.func 100) #[] #[.pointer (some ⟨q4,0,none⟩),.pointer (some ⟨q7,0,none⟩),.pointer (some ⟨q5,0,none⟩),.pointer (some ⟨q6,0,none⟩),.pointer (some ⟨q9,0,none⟩),.pointer (some ⟨q10,0,none⟩)])∧(q4<wr.heap.size∧q7<wr.heap.size∧q5<wr.heap.size∧q6<wr.heap.size∧q9<wr.heap.size∧q10<wr.heap.size):=
 ⟨by simp [World.cell?,h.k4],by simp [World.cell?,h.k7],by simp [World.cell?,h.k5],by simp [World.cell?,h.k6],by simp [World.cell?,h.k9],by simp [World.cell?,h.k10],(Bl.1 h.k4).1,(Bl.1 h.k7).1,(Bl.1 h.k5).1,(Bl.1 h.k6).1,(Bl.1 h.k9).1,(Bl.1 h.k10).1⟩
end
theorem amn {w:World} {sp:Nat} {bv pv cv rv dv:Value} {G:List AU} {C:List (List Ins)} {rel:List Bool} {D:List Int} (HS:Lu w sp bv pv cv rv dv G C rel D) (HB:GB G G.length) (q4 q7 q5 q6 q9 q10 sb b hd:Nat) (iv l1 l2 l3:Value) (inl:List Bool) (HI:Hq w iv inl) (hil:inl.length=G.length):∀(f E9:Nat) (s:List Bool) (wr:World),QA w wr q4 q7 q5 q6 q9 q10 sb sp G.length b hd iv l1 l2 l3 s→unseen s≤f→E9<G.length→
  Calls Tryz.prog 100 #[.int .i64 (E9:Int),.pointer (some ⟨q4,0,none⟩),.pointer (some ⟨q7,0,none⟩),.pointer (some ⟨q5,0,none⟩),.pointer (some ⟨q6,0,none⟩),.pointer (some ⟨q9,0,none⟩),.pointer (some ⟨q10,0,none⟩)] wr fun e w'=>∃(r:Bool) (s':List Bool),e=.returned (.bool r)∧QA w w' q4 q7 q5 q6 q9 q10 sb sp G.length b hd iv l1 l2 l3 s'∧RF (Aa G) (sn inl) hd b E9 (sn s) (sn s') r:=by
 have he:∀(args:Array Value) (w:World),(callFunc 100 args).run Tryz.prog w=.ok (.enter 100 args) w:=fun _ _=>by kernel_rfl
 obtain⟨A,cap,rfl,hc1,hc2⟩:=HS.Kg.slice;have⟨LW,Ml,DF,G4,WG⟩:=FP HS.Kg HS.cells HB HI hil;clear HS HB hc1 hc2 HI hil;intro f;induction f using Nat.strongRecOn with
 | _ f ih=>
  intro E9 s wr hC hu hfn;have⟨IH,HC,HU,HSL⟩:=CU ih hC hu hC.len;obtain⟨ib,io,EF,rfl,hib,hic⟩:∃ib io EF,iv=.slice (some ⟨ib,io,none⟩) G.length EF∧ib<w.heap.size∧∀k,k<G.length→w.cell? ⟨ib,io+k,none⟩=some (.bool (inl.getD k false)):=by
   obtain⟨A',cap',e1,_,_,e4⟩:=G4.out;rw [WG.out] at e1 e4;obtain⟨b',off,rfl,h1,h2⟩:=e4 A0;exact⟨b',off,cap',e1,h1,h2⟩
  obtain⟨t1,-,-,-,-,-,t7⟩:=hC.cells;obtain⟨x,NV,gb,go,hx,rfl,hgb,c0,c1,c2,hN⟩:=LW.out.at_ hC.AA (j:=E9) hfn;obtain⟨NA,CX,rfl,hn1,hn2⟩:=hN.slice;have hsc:=Ml.out;have u0:wr.cell? ⟨sp,0,none⟩=some (.slice (some ⟨gb,go,none⟩) G.length cap):=(hC.AA.cell (p:=⟨sp,0,none⟩) hsc.2.2.2.2.2).trans hsc.1;have YZ:sp<wr.heap.size:=by have:=hC.AA.size;have:=hsc.2.2.2.2.2;omega
  have sgw:gb<wr.heap.size:=by have:=hC.AA.size;omega
  have hnl:x.nx.length≤5000:=DF.out.two E9 x hx;have ifr:(E9:Int)<(G.length:Int):=by omega
  have⟨HX,HNI⟩:=AQ hx hN;have s4:=t7.1;have Yi:Aa G E9=x.nx.map Int.toNat:=V8 hx;have ER:=A3 Yi;clear ih hC hu hsc hx hN c0 c1 hn1 Yi t7;go_enter Tryz.func100,Tryz.ntmps100;go_upto_region 2 with fail;clear u0 YZ sgw c2 s4 t1;go_loopw [21] (fun a21 wr=>∃(j:Nat) (s':List Bool),j≤x.nx.length∧a21=.int .i64 (j:Int)∧QA w wr q4 q7 q5 q6 q9 q10 sb sp G.length b hd (.slice (some ⟨ib,io,none⟩) G.length EF) l1 l2 l3 s'∧Js (Aa G) (sn inl) hd b ((Aa G E9).take j) (sn s) (sn s')) (fun a21 _=>x.nx.length - (intOf a21).toNat);case atStart=>exact⟨0,s,Ca _,rfl,HC.out,.nil⟩
  case round=>
   clear HC;obtain⟨j,s',hj,rfl,hC,hR⟩:=hrel;obtain⟨t1,t2,t3,t4,t5,t6,z4,z7,z5,z6,z9,z10⟩:=hC.cells;have⟨HC,HR⟩:=AQ hC hR;by_cases hlt:j<x.nx.length
   ·have dl:decide ((j:Int)<(x.nx.length:Int))=true:=Ac A0
    obtain⟨sv,nb,Fy,hs,hNA,hnb,y1⟩:=HNI.out.at_ hC.AA hlt;subst hNA;have R3:=DF.out.nx E9 x HX.out sv (Bj hs);obtain⟨t,rfl⟩:∃t:Nat,sv=(t:Int):=⟨sv.toNat,by omega⟩;have htn:t<G.length:=by omega
    have hT:(Aa G E9)[j]?=some t:=by rw [ER.out,D8,hs];rfl
    have CT:=A3 (show (Aa G E9).take (j+1)=(Aa G E9).take j++[t] by rw [I6,hT];rfl);have HTM:=A3 (Bj hT);have itn:(t:Int)<(G.length:Int):=by omega
    have ic:=(hC.AA.cell (p:=⟨ib,io+t,none⟩) hib).trans (hic t htn);have sc:=jY hC.row hC.len htn;have sf:=hC.row.frozenAt t;obtain⟨bi,TZ⟩:∃v,inl.getD t false=v:=⟨_,rfl⟩;obtain⟨bs,MJ⟩:∃v,s'.getD t false=v:=⟨_,rfl⟩;rw [TZ] at ic;rw [MJ] at sc;have⟨L6,WU⟩:=AQ TZ MJ;clear hC hR hs R3 hT TZ MJ;by_cases htb:t=b
    ·have d1:((t:Int)==(b:Int))=true:=by simp [htb]
     have HF:=A3 (HR.out.found (E9:=E9) (by rw [←htb];exact HTM.out));clear htb;go_wp2_with fail;go_ret;exact⟨true,s',rfl,HC.out,HF.out⟩
    ·have d1:((t:Int)==(b:Int))=false:=by simp;omega
     by_cases PJ:t=hd
     ·have d2:((t:Int)==(hd:Int))=true:=by simp [PJ]
      have HF:=A3 (HR.out.skip htb (.inl PJ));clear htb PJ;go_wp2_with fail;go_roundw;case rel=>exact⟨j+1,s',by omega,by go_num,HC.out,by rw [CT.out];exact HF.out⟩
      case measure=>exact Ai
     ·have d2:((t:Int)==(hd:Int))=false:=by simp;omega
      rcases bi with _|_
      ·have HF:=A3 (HR.out.skip htb (.inr (.inl (show ¬sn inl t by unfold sn;rw [L6.out];simp))))
       clear htb PJ;go_wp2_with fail;go_roundw;case rel=>exact⟨j+1,s',by omega,by go_num,HC.out,by rw [CT.out];exact HF.out⟩
       case measure=>exact Ai
      ·rcases bs with _|_
       ·have hU:unseen s'≤f:=FK (vh (by rw [HC.out.len,HSL.out]) HR.out.grow) HU.out
        have hs1:s'[t]?=some false:=by
         rcases ZW (show t<s'.length by rw [HC.out.len];exact htn) with h|h
         ·have:=cY.2 h;rw [WU.out] at this;cases this
         ·exact h
        have hus:=YK hs1;have Jp:=A3 (HC.out.set t);obtain⟨U,I8⟩:=A8 (wr.setCell ⟨sb,t,none⟩ (.bool true));rw [I8] at Jp;obtain⟨a1,a2,a3,a4,a5,a6,a7,a8,a9,a10,a11,a12⟩:=Jp.out.cells;have U0:=A3 (IH.out (unseen (s'.set t true)) A0 t (s'.set t true) U Jp.out (AH _) htn);have⟨HIT,HTB,HTH⟩:=Bh (show sn inl t from L6.out) htb PJ;have N9:=A3 (show t<s'.length by rw [HC.out.len];exact htn);clear htb PJ hU hs1 hus;go_upto_region 8 with fail;clear t1 t2 t3 t4 t5 t6 z4 z7 z5 z6 z9 z10 sc sf ic y1 I8;go_wp2_with (go_at_call 100;refine U0.out.mono ?_;rintro e W7 ⟨r,s7,rfl,hC7,Tj⟩)
        ·rename_i hr
         subst hr;rw [nW N9.out] at Tj;go_ret;exact⟨true,s7,rfl,hC7,HR.out.yes HTM.out HTH.out HIT.out Tj⟩
        ·rename_i hr
         have hr':r=false:=by simpa using hr
         subst hr';rw [nW N9.out] at Tj;go_roundw;case rel=>exact⟨j+1,s7,by omega,by go_num,hC7,by rw [CT.out];exact HR.out.into HTB.out HIT.out Tj⟩
         case measure=>exact Ai
       ·have HF:=A3 (HR.out.skip htb (.inr (.inr (show sn s' t from WU.out))))
        clear htb PJ;go_wp2_with fail;go_roundw;case rel=>exact⟨j+1,s',by omega,by go_num,HC.out,by rw [CT.out];exact HF.out⟩
        case measure=>exact Ai
   ·obtain rfl:j=x.nx.length:=by omega
    have dl:decide ((x.nx.length:Int)<(x.nx.length:Int))=false:=by simp
    have HF:=A3 (Js.all (E9:=E9) (by
     have e:(Aa G E9).take x.nx.length=Aa G E9:=K8 (by rw [ER.out,FQ];exact AH _);rw [e] at hR
     exact hR))
    clear hC hR;go_wp2_with fail;go_ret;exact⟨false,s',rfl,HC.out,HF.out⟩
end
def ao6 (Q:Prop) (e:Ending):Prop:=∃r:Bool,e=.returned (.bool r)∧(r=true↔Q)
theorem asV {w:World} {sp:Nat} {bv pv cv rv dv:Value} {G:List AU} {C:List (List Ins)} {rel:List Bool} {D:List Int} (HS:Lu w sp bv pv cv rv dv G C rel D) (HB:GB G G.length) (b hd:Nat) (iv l1 l2:Value) (n1 n2:List Int) (p:Int) (inl:List Bool) (HI:Hq w iv inl) (hil:inl.length=G.length) (hb:b<G.length) (H1:Ints w l1 n1) (H2:Ints w l2 n2) :
  Calls Tryz.prog 78 #[.pointer (some ⟨sp,0,none⟩),.agg #[.int .i64 (hd:Int),l1,l2,.int .i64 p],iv,.int .i64 (b:Int)] w fun e w'=>ao6 (b≠hd∧Uw (Aa G) (sn inl) hd b) e∧Below w.heap.size w w':=by
 have he:∀(args:Array Value) (w:World),(callFunc 100 args).run Tryz.prog w=.ok (.enter 100 args) w:=fun _ _=>by kernel_rfl
 obtain⟨A1,Ht,rfl,-,-⟩:=H1.slice;obtain⟨A2,EY,rfl,-,-⟩:=H2.slice;obtain⟨m1,hm1⟩:∃m,n1.length=m:=⟨_,rfl⟩;obtain⟨m2,hm2⟩:∃m,n2.length=m:=⟨_,rfl⟩;rw [hm1,hm2];obtain⟨IA,EF,rfl⟩:∃IA EF,iv=.slice IA G.length EF:=by
  obtain⟨A,c,h,_⟩:=HI;exact⟨A,c,by rw [h,hil]⟩
 have⟨M7,Uc,PR⟩:=Bh HS HI HB;obtain⟨q4,hq4⟩:∃q,w.heap.size=q:=⟨_,rfl⟩;obtain⟨W1,hW1⟩:∃W,w.alloc (.cells #[.pointer (some ⟨sp,0,none⟩)] 117)=W:=⟨_,rfl⟩;obtain⟨q5,hq5⟩:∃q,W1.heap.size=q:=⟨_,rfl⟩;obtain⟨W2,hW2⟩:∃W,W1.alloc (.cells #[.int .i64 (hd:Int),.slice A1 m1 Ht,.slice A2 m2 EY,.int .i64 p] 46)=W:=⟨_,rfl⟩;obtain⟨q6,hq6⟩:∃q,W2.heap.size=q:=⟨_,rfl⟩;obtain⟨W3,hW3⟩:∃W,W2.alloc (.cells #[.slice IA G.length EF] 55)=W:=⟨_,rfl⟩;obtain⟨q7,hq7⟩:∃q,W3.heap.size=q:=⟨_,rfl⟩;obtain⟨W4,hW4⟩:∃W,W3.alloc (.cells #[.int .i64 (b:Int)] 3)=W:=⟨_,rfl⟩;have b1:Below w.heap.size w W1:=hW1▸(AV _ _).alloc (AH _) _;have b2:Below W1.heap.size W1 W2:=hW2▸(AV _ _).alloc (AH _) _;have b3:Below W2.heap.size W2 W3:=hW3▸(AV _ _).alloc (AH _) _;have b4:Below W3.heap.size W3 W4:=hW4▸(AV _ _).alloc (AH _) _;have b34:=b3.trans (b4.mono b3.size);have b24:=b2.trans (b34.mono b2.size);have b14:=b1.trans (b24.mono b1.size);have k4a:W1.heap[q4]?=some (.cells #[.pointer (some ⟨sp,0,none⟩)] 117 (0,0)):=by rw [←hq4,← hW1];exact AY _ _
 have k5a:W2.heap[q5]?=some (.cells #[.int .i64 (hd:Int),.slice A1 m1 Ht,.slice A2 m2 EY,.int .i64 p] 46 (0,0)):=by rw [←hq5,← hW2];exact AY _ _
 have k6a:W3.heap[q6]?=some (.cells #[.slice IA G.length EF] 55 (0,0)):=by rw [←hq6,← hW3];exact AY _ _
 have k7:W4.heap[q7]?=some (.cells #[.int .i64 (b:Int)] 3 (0,0)):=by rw [←hq7,← hW4];exact AY _ _
 have lt:∀ {W:World} {q:Nat} {o:Obj},W.heap[q]?=some o→q<W.heap.size:=fun h=>(Bl.1 h).1;have k4:=(b24.block q4 (lt k4a)).trans k4a;have k5:=(b34.block q5 (lt k5a)).trans k5a;have k6:=(b4.block q6 (lt k6a)).trans k6a;have c5:=(FY k5).1;have s5:=(FY k5).2.2.2.2;have c7:W4.cell? ⟨q7,0,none⟩=some (.int .i64 (b:Int)):=by simp [World.cell?,k7]
 have c6:W4.cell? ⟨q6,0,none⟩=some (.slice IA G.length EF):=by simp [World.cell?,k6]
 have s6:=lt k6;have s7:=lt k7;have⟨K4,K5,K6,K7,B4⟩:=FP k4 k5 k6 k7 b14;have atq:=PR.out.le;obtain⟨i2,hi2,hs0,hs1,hs2⟩:=Dp bE;obtain⟨U1,lm,D7,gr1⟩:=Qb (P:=Tryz.prog) W4 w.heap.size 55 4 i2 (.bool false) 1 YD hi2 hs0 hs1 .i64 .i64 G.length Xc CJ b14.size;rw [N6,show (Value.bool false).cells=#[Value.bool false] from rfl,Qs] at D7;obtain⟨sb,JK⟩:∃q,W4.heap.size=q:=⟨_,rfl⟩;rw [JK] at lm D7;have⟨T7,JF⟩:=AQ D7 gr1;clear HS HI HB H1 H2 hm1 hm2 k4a k5a k6a k4 k5 k6 k7 b1 b2 b3 b4 b34 b24 b14 lt D7 gr1 i2 hi2 hs0 hs1 hs2;go_enter Tryz.func78,Tryz.ntmps78;by_cases QE:b=hd
 ·have d:((b:Int)==(hd:Int))=true:=by simp [QE]
  have HQ:=A3 QE;clear QE;go_wp2_with fail;go_ret;exact⟨⟨false,rfl,by simp [HQ.out]⟩,B4.out⟩
 ·have d:((b:Int)==(hd:Int))=false:=by simp;omega
  have HQ:=A3 QE;clear QE;go_upto_region 4 with fail;obtain⟨q9,hq9⟩:∃q,U1.heap.size=q:=⟨_,rfl⟩;obtain⟨V5,H7⟩:∃V,U1.alloc (.cells #[.slice (some ⟨sb,0,none⟩) G.length G.length] 55)=V:=⟨_,rfl⟩;rw [H7,hq9];obtain⟨q10,apl⟩:∃q,V5.heap.size=q:=⟨_,rfl⟩;obtain⟨V6,Xd⟩:∃V,V5.alloc (.cells #[.func (.func 100) #[] #[.pointer (some ⟨q4,0,none⟩),.pointer (some ⟨q7,0,none⟩),.pointer (some ⟨q5,0,none⟩),.pointer (some ⟨q6,0,none⟩),.pointer (some ⟨q9,0,none⟩),.pointer (some ⟨q10,0,none⟩)]] 155)=V:=⟨_,rfl⟩;clear lm c6 c5;have hwg:=JF.out.size;have sU:sb<U1.heap.size:=(T7.out.lt sb rfl).2;have s4:∀ {q:Nat} {o:Obj},W4.heap[q]?=some o→q<W4.heap.size:=fun h=>(Bl.1 h).1;have keep:∀(q:Nat) (x:Obj),W4.heap[q]?=some x→V6.heap[q]?=some x:=fun q x hx=>by
   have h1:=s4 hx;have h2:=(JF.out.block q h1 AR).trans hx;rw [←Xd,Bv _ _ (by rw [←H7,F9];omega),← H7,Bv _ _ A0];exact h2
  have Ww:QA w V6 q4 q7 q5 q6 q9 q10 sb sp G.length b hd (.slice IA G.length EF) (.slice A1 m1 Ht) (.slice A2 m2 EY) (.int .i64 p) (List.replicate G.length false):=by
   refine⟨?_,keep _ _ K4.out,keep _ _ K7.out,keep _ _ K5.out,keep _ _ K6.out,?_,?_,?_,by simp⟩
   ·rw [←Xd,← H7]
    exact ((B4.out.grown JF.out B4.out.size (fun k hk=>by cases hk)).alloc (by have:=B4.out.size;omega) _).alloc (by have:=B4.out.size;simp;omega) _
   ·rw [←Xd,Bv _ _ (by rw [←H7,F9];omega),← H7,← hq9];exact AY _ _
   ·rw [←Xd,← apl];exact AY _ _
   ·rw [←Xd,← H7]
    have:=(T7.out.alloc (.cells #[.slice (some ⟨sb,0,none⟩) G.length G.length] 55)).alloc (.cells #[.func (.func 100) #[] #[.pointer (some ⟨q4,0,none⟩),.pointer (some ⟨q7,0,none⟩),.pointer (some ⟨q5,0,none⟩),.pointer (some ⟨q6,0,none⟩),.pointer (some ⟨q9,0,none⟩),.pointer (some ⟨q10,0,none⟩)]] 155);simpa [Fw] using this
  have U0:=A3 (amn M7.out PR.out q4 q7 q5 q6 q9 q10 sb b hd _ _ _ _ inl Uc.out hil G.length b _ V6 Ww (by rw [ir];exact AH _) hb);obtain⟨e1,e2,e3,e4,e5,e6,e7,e8,e9,e10,e11,e12⟩:=Ww.cells;clear Ww keep s4 hwg sU c7 s5 s6 s7;go_wp2_with (go_at_call 100;refine U0.out.mono ?_;rintro e W7 ⟨r,s7,rfl,hC7,Tj⟩);go_ret;refine⟨⟨r,rfl,?_⟩,hC7.AA⟩;have hz:sn (List.replicate G.length false)=fun _=>False:=by
   funext x;unfold sn;rw [List.getD,j8];split<;>simp
  rw [hz] at Tj;rw [Tj.cyc];exact⟨fun h=>⟨HQ.out,h⟩,fun h=>h.2⟩
def Hf (i:Ins):Bool:=decide (10≤i.a) && decide (i.a≤13) && (decide (i.op=25) || (decide (i.op=15) && decide (i.b=i.a) && decide (i.AD=1)))
theorem alz (i:Ins) (w:World) :
  Calls Tryz.prog 75 #[.agg #[.int .u8 i.op,.int .i64 i.a,.int .i64 i.b,.int .i64 i.c,.int .i64 i.AD]] w fun e w'=>e=.returned (.bool (Hf i))∧Below w.heap.size w w':=by
 obtain⟨op,a,b,c,AD⟩:=i;obtain⟨r,hr⟩:=A8 (Hf ⟨op,a,b,c,AD⟩);simp only;rw [hr];have HR:=A3 (show r=(decide (10≤a) && decide (a≤13) && (decide (op=25) || (decide (op=15) && decide (b=a) && decide (AD=1)))) from hr.symm);obtain⟨X,hX⟩:=A8 (w.alloc (.cells #[.int .u8 op,.int .i64 a,.int .i64 b,.int .i64 c,.int .i64 AD] 67));obtain⟨q,hq⟩:=A8 w.heap.size;have bX:Below w.heap.size w X:=hX▸(AV _ _).alloc (AH _) _;have kX:X.heap[q]?=some (.cells #[.int .u8 op,.int .i64 a,.int .i64 b,.int .i64 c,.int .i64 AD] 67 (0,0)):=by rw [←hq,← hX];exact AY _ _
 have c0:X.cell? ⟨q,0,none⟩=some (.int .u8 op):=by simp [World.cell?,kX]
 have c1:X.cell? ⟨q,1,none⟩=some (.int .i64 a):=by simp [World.cell?,kX]
 have c2:X.cell? ⟨q,2,none⟩=some (.int .i64 b):=by simp [World.cell?,kX]
 have c4:X.cell? ⟨q,4,none⟩=some (.int .i64 AD):=by simp [World.cell?,kX]
 have⟨BX,BQ⟩:=AQ bX (show Below q w X from hq▸bX);clear bX kX hr;go_enter Tryz.func75,Tryz.ntmps75;by_cases h1:a<10
 ·have d1:decide (a<10)=true:=Ac h1
  have HF:=A3 (show r=false by rw [HR.out,Ad (show ¬10≤a by omega)];rfl);go_wp2_with fail;go_ret;exact⟨by rw [HF.out];rfl,Uj⟩
 have d1:decide (a<10)=false:=Ad h1;by_cases h2:13<a
 ·have d2:decide (13<a)=true:=Ac h2
  have HF:=A3 (show r=false by rw [HR.out,Ad (show ¬a≤13 by omega)];simp);go_wp2_with fail;go_ret;exact⟨by rw [HF.out];rfl,Uj⟩
 have d2:decide (13<a)=false:=Ad h2;have EW:=A3 (show r=(decide (op=25) || (decide (op=15) && decide (b=a) && decide (AD=1))) by rw [HR.out,Ac (show 10≤a by omega),Ac (show a≤13 by omega)];rfl);clear h1 h2;by_cases h3:op=25
 ·have d3:(op==25)=true:=by simp [h3]
  have HF:=A3 (show r=true by rw [EW.out,Ac h3];rfl);clear h3;go_wp2_with fail;go_ret;exact⟨by rw [HF.out];rfl,Uj⟩
 have d3:(op==25)=false:=by simp [h3]
 have Ey:=A3 (show r=(decide (op=15) && decide (b=a) && decide (AD=1)) by rw [EW.out,Ad h3];rfl);by_cases h4:op=15;case neg=>
  have d4:(op==15)=false:=by simp [h4]
  have HF:=A3 (show r=false by rw [Ey.out,Ad h4];rfl);clear h3 h4;go_wp2_with fail;go_ret;exact⟨by rw [HF.out];rfl,Uj⟩
 have d4:(op==15)=true:=by simp [h4]
 by_cases h5:b=a;case neg=>
  have d5:(b==a)=false:=by simp [h5]
  have HF:=A3 (show r=false by rw [Ey.out,Ad h5];simp);clear h3 h4 h5;go_wp2_with fail;go_ret;exact⟨by rw [HF.out];rfl,Uj⟩
 have d5:(b==a)=true:=by simp [h5]
 by_cases h6:AD=1;case neg=>
  have d6:(AD==1)=false:=by simp [h6]
  have HF:=A3 (show r=false by rw [Ey.out,Ad h6];simp);clear h3 h4 h5 h6;go_wp2_with fail;go_ret;exact⟨by rw [HF.out];rfl,Uj⟩
 have d6:(AD==1)=true:=by simp [h6]
 have HF:=A3 (show r=true by rw [Ey.out,Ac h4,Ac h5,Ac h6];rfl);clear h3 h4 h5 h6;go_wp2_with fail;go_ret;exact⟨by rw [HF.out];rfl,Uj⟩
section
def He (n:Nat) (f:Nat→Nat):List Int:=(List.range n).map fun k=>(f k:Int)
theorem sH (n:Nat) (f:Nat→Nat):(He n f).length=n:=by simp [He]
theorem sO {n:Nat} {f:Nat→Nat} {k:Nat} (hk:k<n):(He n f).getD k (-1)=(f k:Int):=by
 rw [List.getD,He,D8,FI hk];rfl
theorem akr (n:Nat) (f:Nat→Nat) (b:Nat) (x:Nat):(He n f).set b (x:Int)=He n (fun k=>if k=b then x else f k):=by
 apply KC
 ·simp [He]
 ·intro i h1 h2
  rw [U8];simp only [He,UE,Ug];by_cases e:b=i
  ·rw [A9 e,A9 e.symm]
  ·rw [A6 e,A6 (ED e)]
open Classical in
noncomputable def Ka (D:List Int) (ls:List Nat) (k:Nat):Nat:=ls.countP fun l=>decide (Ae D l k)
open Classical in
noncomputable def Jw (D:List Int) (ls:List Nat) (V:Nat→Prop) (k:Nat):Nat:=Ka D ls k+if V k then 1 else 0
theorem aqF (D:List Int) (ls:List Nat):Jw D ls (fun _=>False)=Ka D ls:=by funext k;unfold Jw;rw [A6 id];rfl
theorem arM {D:List Int} {ls:List Nat} {V:Nat→Prop} {y:Nat} (h:¬V y):(fun k=>if k=y then Jw D ls V y+1 else Jw D ls V k)=Jw D ls (fun x=>V x∨x=y):=by
 funext k;unfold Jw;by_cases e:k=y
 ·subst e;rw [A9 rfl,A6 h,A9 (Jl rfl)]
 ·rw [A6 e]
  by_cases hk:V k
  ·rw [A9 hk,A9 (CZ hk)]
  ·rw [A6 hk,A6 (fun h=>h.elim hk e)]
theorem arJ (D:List Int) (ls:List Nat) (l:Nat):Jw D ls (Ae D l)=Ka D (ls++[l]):=by
 funext k;unfold Jw Ka;rw [gv];by_cases h:Ae D l k
 ·rw [A9 h];simp [h]
 ·rw [A6 h];simp [h]
theorem arB (D:List Int) (ls:List Nat) (k:Nat):Ka D ls k≤ls.length:=List.countP_le_length
theorem aqZ {D:List Int} {ls:List Nat} {k:Nat}:Ka D ls k=ls.length↔∀l∈ls,Ae D l k:=by
 unfold Ka;rw [List.countP_eq_length];simp
section
variable {n:Nat} {nx:Nat→List Nat} {ord:List Nat} {pos:Nat→Nat} {D:List Int}
theorem aqo (t:TI n nx ord pos D) {l y y':Nat} (h:Ae D l y) (e:D.getD y (-1)=(y':Int)):(fun x=>(Ae D l x∧¬Ae D y x)∨x=y)=fun x=>Ae D l x∧¬Ae D y' x:=by
 funext x;apply propext;have h1:=(t.up _ _ e).2.2.1;constructor
 ·rintro (⟨a,b⟩|rfl)
  ·exact⟨a,fun c=>b ((Ae.step e).2 (.inr c))⟩
  ·exact⟨h,fun c=>by have:=t.le c;omega⟩
 ·rintro⟨a,b⟩
  by_cases c:Ae D y x
  ·rcases (Ae.step e).1 c with rfl|c
   ·exact .inr rfl
   ·exact absurd c b
  ·exact .inl ⟨a,c⟩
theorem atS {l y:Nat} (h:Ae D l y) (e:D.getD y (-1)<0):(fun x=>(Ae D l x∧¬Ae D y x)∨x=y)=Ae D l:=by
 funext x;apply propext;constructor
 ·rintro (⟨a,b⟩|rfl)
  ·exact a
  ·exact h
 ·intro a
  by_cases c:Ae D y x
  ·cases c with
   | self=>exact .inr rfl
   | up h1 _=>omega
  ·exact .inl ⟨a,c⟩
theorem tS (l:Nat):(fun x=>Ae D l x∧¬Ae D l x)=fun _=>False:=by funext x;apply propext;exact⟨fun h=>h.2 h.1,False.elim⟩
end
end
section
def MI (G:List AU) (rel:List Bool) (D:List Int) (hd:Nat) (bl:List Int) (ls:List Nat) (b:Nat):Prop:=(b:Int)∈bl∧rel.getD b false=true∧(∀l∈ls,Ae D l b)∧¬(b≠hd∧Uw (Aa G) (sn (Eu G.length bl)) hd b)
open Classical in
noncomputable def pB (G:List AU) (rel:List Bool) (D:List Int) (hd:Nat) (bl:List Int) (ls:List Nat) (k b:Nat):Bool:=decide (b<k∧MI G rel D hd bl ls b)
theorem TC {G:List AU} {rel:List Bool} {D:List Int} {hd:Nat} {bl:List Int} {ls:List Nat} {k b:Nat}:pB G rel D hd bl ls k b=true↔b<k∧MI G rel D hd bl ls b:=by unfold pB;simp
noncomputable def GN (G:List AU) (rel:List Bool) (D:List Int) (hd:Nat) (bl:List Int) (ls:List Nat) (k:Nat):List Bool:=(List.range G.length).map (pB G rel D hd bl ls k)
theorem Yb (G:List AU) (rel:List Bool) (D:List Int) (hd:Nat) (bl:List Int) (ls:List Nat) (k:Nat):(GN G rel D hd bl ls k).length=G.length:=by simp [GN]
theorem xP (G:List AU) (rel:List Bool) (D:List Int) (hd:Nat) (bl:List Int) (ls:List Nat):GN G rel D hd bl ls 0=List.replicate G.length false:=by
 apply KC
 ·simp [GN]
 ·intro i h1 h2
  simp only [GN,UE,Ug,List.getElem_replicate];rw [Ze];intro h;have:=(TC.1 h).1;omega
theorem wZ {G:List AU} {rel:List Bool} {D:List Int} {hd:Nat} {bl:List Int} {ls:List Nat} {k:Nat} {r:Bool} (hr:r=true↔MI G rel D hd bl ls k):(GN G rel D hd bl ls k).set k r=GN G rel D hd bl ls (k+1):=by
 apply KC
 ·simp [GN]
 ·intro i h1 h2
  rw [U8];simp only [GN,UE,Ug];by_cases e:k=i
  ·subst e
   rw [A9 rfl,Qj,hr,TC];exact⟨fun h=>⟨by omega,h⟩,fun h=>h.2⟩
  ·rw [A6 e,Qj,TC,TC]
   exact⟨fun h=>⟨by omega,h.2⟩,fun h=>⟨by omega,h.2⟩⟩
theorem uI {w:World} {sp:Nat} {bv pv cv rv dv:Value} {G:List AU} {C:List (List Ins)} {rel:List Bool} {D:List Int} {nx:Nat→List Nat} {ord:List Nat} {pos:Nat→Nat} (HS:Lu w sp bv pv cv rv dv G C rel D) (HB:GB G G.length) (gr:Gr G.length nx ord pos) (it:JL G.length nx ord pos D) (hd:Nat) (bl:List Int) (ls:List Nat) (ig EF:Nat) (l1 l2:Value) (p:Int) (HI:Hq w (.slice (some ⟨ig,0,none⟩) G.length EF) (Eu G.length bl)) (H1:Ints w l1 bl) (H2:Ints w l2 (Bg ls)) (hls:∀l∈ls,l∈ord) (hl5:ls.length≤5000000) :
  Calls Tryz.prog 48 #[.pointer (some ⟨sp,0,none⟩),.agg #[.int .i64 (hd:Int),l1,l2,.int .i64 p],.slice (some ⟨ig,0,none⟩) G.length EF] w fun e w'=>∃g,e=.returned (.slice (some ⟨g,0,none⟩) G.length G.length)∧w'.ownsRow w.heap.size 4 1 (.slice (some ⟨g,0,none⟩) G.length G.length) G.length (Fw (GN G rel D hd bl ls G.length))∧Below w.heap.size w w':=by
 obtain⟨A1,Ht,rfl,-,-⟩:=H1.slice;obtain⟨A2,EY,rfl,hb1,hb2⟩:=H2.slice;obtain⟨DA,Ik,rfl,hd1,hd2⟩:=HS.dom.slice;obtain⟨m1,hm1⟩:∃m,bl.length=m:=⟨_,rfl⟩;obtain⟨m,hm⟩:=A8 ((Bg ls).length);have hlm:ls.length=m:=by rw [←hm];simp [Bg]
 rw [HS.ld] at hd1;obtain⟨dq,VP,hDA,hdq,hdc⟩:∃dq VP,DA=some ⟨dq,VP,none⟩∧dq<w.heap.size∧∀k,k<G.length→w.cell? ⟨dq,VP+k,none⟩=some (.int .i64 (D.getD k (-1))):=by
  obtain⟨_,_,e1,_,_,e4⟩:=HS.dom;cases e1;obtain⟨q,off,e5,e6,e7⟩:=e4 (by rw [HS.ld];exact gr.n0);refine⟨q,off,e5,e6,fun k hk=>?_⟩;rw [e7 k (by rw [HS.ld];exact hk)];simp [List.getD,Ab (show k<D.length by rw [HS.ld];exact hk)]
 subst hDA;have PK:=HS.ld;rw [hm1,hm];rw [hm] at hb1;have⟨M7,HLD,HLM,HM⟩:=CU HS PK hlm hm;have HH2:=A3 (show Ints w (.slice A2 m EY) (Bg ls) by rw [←hm];exact H2);have HH1:=A3 (show Ints w (.slice A1 m1 Ht) bl by rw [←hm1];exact H1);have arX:=A3 (show Ints w (.slice A2 m EY) (Bg ls) by rw [←hm];exact H2);have⟨Uc,GR,IT,HDC,WE,PR⟩:=Lt HI gr it hdc hls HB;have atq:=HB.le;obtain⟨q4,hq4⟩:∃q,w.heap.size=q:=⟨_,rfl⟩;obtain⟨W1,hW1⟩:∃W,w.alloc (.cells #[.int .i64 (hd:Int),.slice A1 m1 Ht,.slice A2 m EY,.int .i64 p] 46)=W:=⟨_,rfl⟩;have b1:Below w.heap.size w W1:=hW1▸(AV _ _).alloc (AH _) _;have k4:W1.heap[q4]?=some (.cells #[.int .i64 (hd:Int),.slice A1 m1 Ht,.slice A2 m EY,.int .i64 p] 46 (0,0)):=by rw [←hq4,← hW1];exact AY _ _
 obtain⟨iI,Ef,Es,EN,FN⟩:=Dp Oy;obtain⟨U1,lm,D7,gr1⟩:=Qb (P:=Tryz.prog) W1 w.heap.size 38 3 iI (.int .i64 0) 1 JJ Ef Es EN .i64 .i64 G.length Xa CJ b1.size;rw [N6,show (Value.int .i64 0).cells=#[Value.int .i64 0] from rfl,Qs] at D7;have bU:Below w.heap.size w U1:=b1.grown gr1 b1.size (fun k hk=>by cases hk);have k4u:U1.heap[q4]?=_:=(gr1.block q4 (Bl.1 k4).1 AR).trans k4;obtain⟨c0,c1,c2,-,c4⟩:=FY k4u;obtain⟨g,hg⟩:∃q,W1.heap.size=q:=⟨_,rfl⟩;rw [hg] at lm D7;have hz:Aq (He G.length (Ka D (ls.take 0)))=List.replicate G.length (Value.int .i64 0):=by
  rw [List.take_zero];apply KC
  ·simp [Aq,He]
  ·intro i h1 h2;simp [Aq,He,Ka]
 have HR:=A3 (show U1.ownsRow w.heap.size 3 1 (.slice (some ⟨g,0,none⟩) G.length G.length) G.length (Aq (He G.length (Ka D (ls.take 0)))) by rw [hz];exact D7);have⟨BU,K4⟩:=AQ bU k4u;clear HS HI H1 H2 gr it hdc hls HB b1 k4 D7 gr1 bU k4u hz Ef Es EN FN iI hg hm hm1 hlm PK;go_enter Tryz.func48,Tryz.ntmps48;go_upto_region 3 with fail;clear lm c0 c1 c2 c4 hW1;have hmm:=@run_makeMap Tryz.prog;go_loopw [20] (fun a20 wr=>∃i:Nat,i≤m∧a20=.int .i64 (i:Int)∧wr.ownsRow w.heap.size 3 1 (.slice (some ⟨g,0,none⟩) G.length G.length) G.length (Aq (He G.length (Ka D (ls.take i))))∧wr.heap[q4]?=some (.cells #[.int .i64 (hd:Int),.slice A1 m1 Ht,.slice A2 m EY,.int .i64 p] 46 (0,0))∧Below w.heap.size w wr) (fun a20 _=>m - (intOf a20).toNat);case atStart=>exact⟨0,Ca _,rfl,HR.out,K4.out,BU.out⟩
 case round=>
  clear HR K4 BU;obtain⟨i,hi,rfl,hr,hk4,hb⟩:=hrel;have⟨HR,HK,HB⟩:=Bh hr hk4 hb;by_cases hlt:i<m
  ·have dl:decide ((i:Int)<(m:Int))=true:=Ac A0
   obtain⟨l,hl⟩:∃l,ls[i]?=some l:=⟨_,Ab (by rw [HLM.out];exact hlt)⟩;obtain⟨sv,lb,lo,hs,NS,hlb,y1⟩:=(HM.out▸HH2.out:Ints w (.slice A2 (Bg ls).length EY) (Bg ls)).at_ hb (j:=i) Xk;subst NS;obtain rfl:sv=(l:Int):=by simp [Bg,hl] at hs;exact hs.symm
   have slw:lb<wr.heap.size:=by have:=hb.size;omega
   have CT:=A3 (show ls.take (i+1)=ls.take i++[l] by rw [I6,hl];rfl);have hlo:=WE.out l (Bj hl);have HLO:=A3 hlo;obtain⟨mb,hmb⟩:∃q,wr.heap.size=q:=⟨_,rfl⟩;obtain⟨X,hX⟩:=A8 (wr.alloc (.map #[] 0));have bX:Below wr.heap.size wr X:=hX▸(AV _ _).alloc (AH _) _;have HIM:=A3 (show Im X mb (G8 (fun x=>Ae D l x∧¬Ae D l x)) by
    rw [tS,show G8 (fun _=>False)=fun _=>none by funext k;simp [G8],← hmb,← hX]
    exact Im.made wr)
   have HRX:=A3 (show X.ownsRow w.heap.size 3 1 (.slice (some ⟨g,0,none⟩) G.length G.length) G.length (Aq (He G.length (Jw D (ls.take i) (fun x=>Ae D l x∧¬Ae D l x)))) by
    rw [tS,aqF];exact CS hr bX)
   have⟨HKX,Ds⟩:=AQ ((bX.block q4 (Bl.1 hk4).1).trans hk4) (hb.trans (bX.mono hb.size));have VU:w.heap.size≤mb:=by have:=hb.size;omega
   clear hr hk4 hb hl hs hlo bX;go_upto_region 7 with fail;clear y1 slw hX hmb;go_loopw [11] (fun a11 wr=>∃V:Nat→Prop,((∃y:Nat,a11=.int .i64 (y:Int)∧y∈ord∧Ae D l y∧V=fun x=>Ae D l x∧¬Ae D y x)∨(a11=.int .i64 (-1)∧V=Ae D l))∧Im wr mb (G8 V)∧wr.ownsRow w.heap.size 3 1 (.slice (some ⟨g,0,none⟩) G.length G.length) G.length (Aq (He G.length (Jw D (ls.take i) V)))∧wr.heap[q4]?=some (.cells #[.int .i64 (hd:Int),.slice A1 m1 Ht,.slice (some ⟨lb,lo,none⟩) m EY,.int .i64 p] 46 (0,0))∧Below w.heap.size w wr) (fun a11 _=>if intOf a11<0 then 0 else pos (intOf a11).toNat+1);case atStart=>exact⟨_,.inl ⟨l,rfl,HLO.out,.self _,rfl⟩,HIM.out,HRX.out,HKX.out,Ds.out⟩
   case round=>
    clear HIM HRX HKX Ds HR HK HB;obtain⟨V,hV,him,hr,hk4,hb⟩:=hrel;have⟨HIM,HR,HK,HB⟩:=CU him hr hk4 hb;have hsc:=M7.out.cells;have u4:wr.cell? ⟨sp,4,none⟩=some (.slice (some ⟨dq,VP,none⟩) D.length Ik):=(hb.cell (p:=⟨sp,4,none⟩) hsc.2.2.2.2.2).trans hsc.2.2.2.2.1;rw [HLD.out] at u4;have YZ:sp<wr.heap.size:=by have:=hb.size;have:=hsc.2.2.2.2.2;omega
    clear hsc;rcases hV with⟨y,rfl,hyo,hay,Ud⟩|⟨rfl,Ud⟩
    ·have Ti:=GR.out.lt y hyo
     have Nn:¬V y:=by rw [Ud];exact fun h=>h.2 (.self _)
     have d0:decide ((0:Int)≤(y:Int))=true:=Ac A0;have iy:(y:Int)<(G.length:Int):=by omega
     have hl:=him.WH (P:=Tryz.prog) (kt:=3) (t:=99) (e:=4) Db N4 (uS wr) (JA (k:=(y:Int)) A0 A0) (ou Nn) false;simp only [kv,NJ,Lc] at hl;obtain⟨W2,hput,hm2,o1,o2,o3,o4,o5⟩:=him.put (P:=Tryz.prog) (kt:=3) (t:=99) (e:=4) Db N4 (k:=(y:Int)) (JA A0 A0) (.bool true);simp only [kv] at hput;rw [eH] at hm2;have J2:g≠mb:=fun e=>by
      obtain⟨es,cl,h1,_⟩:=him;rcases hr.2 with⟨h2,_⟩|⟨g',cap',cur,h2,_,h3,_⟩
      ·cases h2
      ·cases h2;rw [e,h1] at h3;cases h3
     have hqm:q4≠mb:=fun e=>by
      obtain⟨es,cl,h1,_⟩:=him;rw [e,h1] at hk4;cases hk4
     have hgb:wr.grownBy W2 (some mb):=⟨o1,o2,o3,by omega,fun k _ hne=>o5 k fun e=>hne (by rw [e])⟩;have hr2:=hr.kept hgb (.inr fun e=>J2 (by injection e));have hb2:=hb.grown hgb hb.size (fun k hk=>by cases hk;exact VU);have Pk:Jw D (ls.take i) V y≤5000001:=by
      have h1:=arB D (ls.take i) y;have h2:(ls.take i).length≤ls.length:=by simp;omega
      unfold Jw;split<;>omega
     have x1:=Mq hr2 (sH _ _) Ti;rw [sO Ti] at x1;have x2:=hr2.frozenAt y;obtain⟨cy,P8⟩:∃c,Jw D (ls.take i) V y=c:=⟨_,rfl⟩;rw [P8] at x1 Pk;have r1:=(hr2.stored y (.int .i64 ((cy:Int)+1))).1;have er:(He G.length (Jw D (ls.take i) V)).set y ((cy:Int)+1)=He G.length (Jw D (ls.take i) (fun x=>V x∨x=y)):=by
      have:=akr G.length (Jw D (ls.take i) V) y (cy+1);rw [←P8,arM Nn,P8] at this;exact this
     rw [TN,er] at r1;have sg:=hr2.lt g rfl;have R1:=A3 r1;have B3:=hb2.setCell (p:=⟨g,y,none⟩) sg.1 (.int .i64 ((cy:Int)+1));have⟨T6,M1⟩:=AQ B3 (hm2.keep (w':=W2.setCell ⟨g,y,none⟩ (.int .i64 ((cy:Int)+1))) (Bb _ _ _ _ (ED J2)));have hqg:q4≠g:=Kn hk4 hr AP∘fun e=>by rw [e];rfl
     have K1:=A3 (show (W2.setCell ⟨g,y,none⟩ (.int .i64 ((cy:Int)+1))).heap[q4]?=_ from (Bb _ _ _ _ hqg).trans ((o5 q4 hqm).trans hk4));have hsc:=M7.out.cells;have u5:(W2.setCell ⟨g,y,none⟩ (.int .i64 ((cy:Int)+1))).cell? ⟨sp,4,none⟩=some (.slice (some ⟨dq,VP,none⟩) D.length Ik):=(B3.cell (p:=⟨sp,4,none⟩) hsc.2.2.2.2.2).trans hsc.2.2.2.2.1;rw [HLD.out] at u5;have u6:=(B3.cell (p:=⟨dq,VP+y,none⟩) hdq).trans (HDC.out y Ti);obtain⟨d,hd'⟩:∃d,D.getD y (-1)=d:=⟨_,rfl⟩;rw [hd'] at u6;have HVN:=A3 (show (d = -1∧(fun x=>V x∨x=y)=Ae D l)∨∃y':Nat,d=(y':Int)∧y'∈ord∧Ae D l y'∧(fun x=>V x∨x=y)=(fun x=>Ae D l x∧¬Ae D y' x)∧pos y'<pos y by
      by_cases h0:0≤d
      ·obtain⟨y',rfl⟩:∃y':Nat,d=(y':Int):=⟨d.toNat,by omega⟩
       obtain⟨_,u2,u3,_,_⟩:=IT.out.ti.up y y' hd';exact .inr ⟨y',rfl,u2,hay.trans (.up hd' (.self _)),by rw [Ud];exact aqo IT.out.ti hay hd',u3⟩
      ·have:=IT.out.ti.ge y
       exact .inl ⟨by omega,by rw [Ud];exact atS hay A0⟩)
     clear him hr hk4 hb Ud hyo hay Nn hm2 o1 o2 o3 o5 hgb hr2 hb2 P8 r1 B3 hsc hd' sg J2 hqm hqg er;go_wp2_with fail;refine⟨⟨fun x=>V x∨x=y,?_,M1.out,R1.out,K1.out,T6.out⟩,?_⟩
     ·rcases HVN.out with⟨e,h⟩|⟨y',e,h1,h2,h3,h4⟩
      ·exact .inr ⟨by rw [e],h⟩
      ·exact .inl ⟨y',by rw [e],h1,h2,h3⟩
     ·rcases HVN.out with⟨e,h⟩|⟨y',e,h1,h2,h3,h4⟩
      ·subst e
       show (if (-1:Int)<0 then 0 else _)<(if (y:Int)<0 then 0 else pos ((y:Int).toNat)+1);rw [A9 AP,A6 A0];omega
      ·subst e
       show (if (y':Int)<0 then 0 else pos ((y':Int).toNat)+1)<(if (y:Int)<0 then 0 else pos ((y:Int).toNat)+1);rw [A6 A0,A6 A0,Cu,Cu];omega
    ·have d0:decide ((0:Int)≤-1)=false:=by decide
     have JN:=A3 (show wr.ownsRow w.heap.size 3 1 (.slice (some ⟨g,0,none⟩) G.length G.length) G.length (Aq (He G.length (Ka D (ls.take (i+1))))) by rw [CT.out,← arJ,← Ud];exact hr);clear him hr hk4 hb Ud;go_wp2_with fail;go_roundw;case rel=>exact⟨i+1,by omega,by go_num,JN.out,HK.out,HB.out⟩
     case measure=>exact Ai
  ·obtain rfl:m=i:=by omega
   have dl:decide ((m:Int)<(m:Int))=false:=by simp
   rw [K8 (by rw [HLM.out];exact AH _)] at hr;have EW:=A3 hr;obtain⟨i2,hi2,hs0,hs1,hs2⟩:=Dp bE;obtain⟨U2,lm,D7,gr1⟩:=Qb (P:=Tryz.prog) wr w.heap.size 55 4 i2 (.bool false) 1 YD hi2 hs0 hs1 .i64 .i64 G.length Xc CJ hb.size;rw [N6,show (Value.bool false).cells=#[Value.bool false] from rfl,Qs] at D7;obtain⟨ag,hag⟩:∃q,wr.heap.size=q:=⟨_,rfl⟩;rw [hag] at lm D7;have hz:Fw (GN G rel D hd bl ls 0)=List.replicate G.length (Value.bool false):=by rw [xP];simp [Fw]
   have IV:=A3 (show U2.ownsRow w.heap.size 4 1 (.slice (some ⟨ag,0,none⟩) G.length G.length) G.length (Fw (GN G rel D hd bl ls 0)) by rw [hz];exact D7);have Qx:=A3 (hr.kept gr1 (.inr (by simp [Value.ownBlock])));have Vj:=A3 ((gr1.block q4 (Bl.1 hk4).1 AR).trans hk4);have ND:=A3 (hb.grown gr1 hb.size (fun k hk=>by cases hk));clear hr hk4 hb D7 gr1 hz hi2 hs0 hs1 hs2 i2 hag HR HK HB EW;go_upto_region 14 with fail;clear lm;go_loopw [64] (fun a64 wr=>∃k:Nat,k≤G.length∧a64=.int .i64 (k:Int)∧wr.ownsRow w.heap.size 4 1 (.slice (some ⟨ag,0,none⟩) G.length G.length) G.length (Fw (GN G rel D hd bl ls k))∧wr.ownsRow w.heap.size 3 1 (.slice (some ⟨g,0,none⟩) G.length G.length) G.length (Aq (He G.length (Ka D ls)))∧wr.heap[q4]?=some (.cells #[.int .i64 (hd:Int),.slice A1 m1 Ht,.slice A2 m EY,.int .i64 p] 46 (0,0))∧Below w.heap.size w wr) (fun a64 _=>G.length - (intOf a64).toNat);case atStart=>exact⟨0,Ca _,rfl,IV.out,Qx.out,Vj.out,ND.out⟩
   case round=>
    clear IV Qx Vj ND;obtain⟨k,hk,rfl,hr,hc,hk4,hb⟩:=hrel;have⟨HR,HC,HK,HB⟩:=CU hr hc hk4 hb;by_cases hlt:k<G.length
    ·have dl:decide ((k:Int)<(G.length:Int))=true:=Ac A0
     have ik:(k:Int)<(G.length:Int):=by omega
     have Vb:wr.cell? ⟨ig,k,none⟩=some (.bool (decide ((k:Int)∈bl))):=by
      obtain⟨A',cap',e1,_,_,e4⟩:=Uc.out;rw [Sm] at e1 e4;obtain⟨b',off,e5,h1,h2⟩:=e4 A0;cases e1;cases e5;have:=h2 k hlt;rw [afM hlt,Er] at this;exact (hb.cell (p:=⟨ig,k,none⟩) h1).trans this
     have sig:ig<wr.heap.size:=by
      obtain⟨A',cap',e1,_,_,e4⟩:=Uc.out;rw [Sm] at e1 e4;obtain⟨b',off,e5,h1,h2⟩:=e4 A0;cases e1;cases e5;have:=hb.size;omega
     obtain⟨rq,ro,H8,Jr,hrq,hrc⟩:∃rq ro H8,rv=.slice (some ⟨rq,ro,none⟩) G.length H8∧rq<w.heap.size∧∀k,k<G.length→w.cell? ⟨rq,ro+k,none⟩=some (.bool (rel.getD k false)):=by
      obtain⟨A',cap',e1,_,_,e4⟩:=M7.out.rls;rw [M7.out.lr] at e1 e4;obtain⟨b',off,e5,h1,h2⟩:=e4 A0;exact⟨b',off,cap',by rw [e1,e5],h1,h2⟩
     have hsc:=M7.out.cells;have YZ:sp<wr.heap.size:=by have:=hb.size;have:=hsc.2.2.2.2.2;omega
     have u3:wr.cell? ⟨sp,3,none⟩=some (.slice (some ⟨rq,ro,none⟩) G.length H8):=by
      rw [←Jr];exact (hb.cell (p:=⟨sp,3,none⟩) hsc.2.2.2.2.2).trans hsc.2.2.2.1
     have Wl:=(hb.cell (p:=⟨rq,ro+k,none⟩) hrq).trans (hrc k hlt);have srq:rq<wr.heap.size:=by have:=hb.size;omega
     have UI:=Mq hc (sH _ _) hlt;rw [sO hlt] at UI;have sgq:=(hc.lt g rfl).2;obtain⟨q0,q1,q2,q3,q4s⟩:=FY hk4;have pa1:=jY hr (Yb _ _ _ _ _ _ _) hlt;have pa2:=hr.frozenAt k;have Oj:=(hr.lt ag rfl).2;have qz:=(hr.lt ag rfl).1;obtain⟨old,hold⟩:∃v,(GN G rel D hd bl ls k).getD k false=v:=⟨_,rfl⟩;rw [hold] at pa1;obtain⟨bi,TZ⟩:∃v,decide ((k:Int)∈bl)=v:=⟨_,rfl⟩;obtain⟨br,hbr⟩:∃v,rel.getD k false=v:=⟨_,rfl⟩;obtain⟨cn,Mf⟩:∃v,Ka D ls k=v:=⟨_,rfl⟩;obtain⟨cy,P8⟩:∃v:Bool,(v=true↔k≠hd∧Uw (Aa G) (sn (Eu G.length bl)) hd k):=by
      by_cases h:k≠hd∧Uw (Aa G) (sn (Eu G.length bl)) hd k
      ·exact⟨true,by simp [h]⟩
      ·exact⟨false,by simp only [NJ,false_iff];exact h⟩
     rw [TZ] at Vb;rw [hbr] at Wl;rw [Mf] at UI;have HCY:=A3 (show ∀x:Ext wr,Calls Tryz.prog 78 #[.pointer (some ⟨sp,0,none⟩),.agg #[.int .i64 (hd:Int),.slice A1 m1 Ht,.slice A2 m EY,.int .i64 p],.slice (some ⟨ig,0,none⟩) G.length EF,.int .i64 (k:Int)] x.w fun e w'=>e=.returned (.bool cy)∧Below x.w.heap.size x.w w' from fun x=>by
      have bx:=HB.out.trans (x.h.mono HB.out.size);refine (asV (M7.out.below bx) PR.out k hd _ _ _ bl (Bg ls) p (Eu G.length bl) (Uc.out.below bx) (Sm _ _) hlt (HH1.out.below bx) (arX.out.below bx)).mono ?_;rintro e w' ⟨⟨r,rfl,hr⟩,hb⟩;have:r=cy:=by rw [Qj,hr,P8]
      rw [this]
      exact⟨rfl,hb⟩)
     have rH:q4≠ag:=Kn hk4 hr AP∘fun e=>by rw [e];rfl
     have ER:=A3 (show ∀W,Below wr.heap.size wr W→∀r:Bool,(r=true↔MI G rel D hd bl ls k)→(W.setCell ⟨ag,k,none⟩ (.bool r)).ownsRow w.heap.size 4 1 (.slice (some ⟨ag,0,none⟩) G.length G.length) G.length (Fw (GN G rel D hd bl ls (k+1)))∧(W.setCell ⟨ag,k,none⟩ (.bool r)).ownsRow w.heap.size 3 1 (.slice (some ⟨g,0,none⟩) G.length G.length) G.length (Aq (He G.length (Ka D ls)))∧(W.setCell ⟨ag,k,none⟩ (.bool r)).heap[q4]?=some (.cells #[.int .i64 (hd:Int),.slice A1 m1 Ht,.slice A2 m EY,.int .i64 p] 46 (0,0))∧Below w.heap.size w (W.setCell ⟨ag,k,none⟩ (.bool r)) from fun W hW r hr2=>by
      have h1:=((CS HR.out hW).stored k (.bool r)).1;rw [jO,wZ hr2] at h1;have hcW:=CS HC.out hW;refine⟨h1,hcW.kept (Hz W ag k _) (.inr fun e=>Fs hcW (CS HR.out hW) AP g rfl (by
        have e2:g=ag:=by injection e
        rw [e2];rfl)),(Bb _ _ _ _ rH).trans ((hW.block q4 q4s).trans HK.out),(HB.out.trans (hW.mono HB.out.size)).setCell (p:=⟨ag,k,none⟩) qz _⟩)
     have Dw:=A3 (show MI G rel D hd bl ls k↔bi=true∧br=true∧cn=m∧cy=false by
      unfold MI;rw [←TZ,← hbr,← Mf,E4,← HLM.out,aqZ];exact and_congr_right fun _=>and_congr_right fun _=>and_congr_right fun _=>by
       rw [←P8];simp)
     clear hr hc hk4 hb Jr hrc hsc hold TZ hbr Mf P8 rH qz;rcases bi with _|_
     ·have Ld:=A3 (show (false=true↔MI G rel D hd bl ls k) by rw [Dw.out];simp)
      go_upto_region 16 with fail;refine KA 34 A4 A4 ?_;simp only [Fp,List.take_zero,G0,List.drop_zero];repeat (go_big_quiet_step ((go_at_call 78;exact Calls.AW (HCY.out _))))
      refine BD ?_;rintro _ ⟨x1,rfl⟩;have a1:=x1.cell ag k Oj;have a2:=x1.frozen ag k Oj;rw [pa1] at a1;rw [pa2] at a2;have sa1:ag<x1.w.heap.size:=by have:=x1.h.size;omega
      have hN:=ER.out x1.w x1.h false Ld.out;clear pa1 pa2 Vb Wl UI u3 q0 q1 q2 q3;go_wp2_with fail;go_roundw;case rel=>exact⟨k+1,by omega,by go_num,hN.1,hN.2.1,hN.2.2.1,hN.2.2.2⟩
      case measure=>exact Ai
     rcases br with _|_
     ·have Ld:=A3 (show (false=true↔MI G rel D hd bl ls k) by rw [Dw.out];simp)
      go_upto_region 16 with fail;refine KA 34 A4 A4 ?_;simp only [Fp,List.take_zero,G0,List.drop_zero];repeat (go_big_quiet_step ((go_at_call 78;exact Calls.AW (HCY.out _))))
      refine BD ?_;rintro _ ⟨x1,rfl⟩;have a1:=x1.cell ag k Oj;have a2:=x1.frozen ag k Oj;rw [pa1] at a1;rw [pa2] at a2;have sa1:ag<x1.w.heap.size:=by have:=x1.h.size;omega
      have hN:=ER.out x1.w x1.h false Ld.out;clear pa1 pa2 Vb Wl UI u3 q0 q1 q2 q3;go_wp2_with fail;go_roundw;case rel=>exact⟨k+1,by omega,by go_num,hN.1,hN.2.1,hN.2.2.1,hN.2.2.2⟩
      case measure=>exact Ai
     by_cases hcm:cn=m;case neg=>
      have dcm:((cn:Int)==(m:Int))=false:=Me.2 A0;have Ld:=A3 (show (false=true↔MI G rel D hd bl ls k) by rw [Dw.out];simp [hcm]);clear hcm;go_upto_region 16 with fail;refine KA 34 A4 A4 ?_;simp only [Fp,List.take_zero,G0,List.drop_zero];repeat (go_big_quiet_step ((go_at_call 78;exact Calls.AW (HCY.out _))))
      refine BD ?_;rintro _ ⟨x1,rfl⟩;have a1:=x1.cell ag k Oj;have a2:=x1.frozen ag k Oj;rw [pa1] at a1;rw [pa2] at a2;have sa1:ag<x1.w.heap.size:=by have:=x1.h.size;omega
      have hN:=ER.out x1.w x1.h false Ld.out;clear pa1 pa2 Vb Wl UI u3 q0 q1 q2 q3;go_wp2_with fail;go_roundw;case rel=>exact⟨k+1,by omega,by go_num,hN.1,hN.2.1,hN.2.2.1,hN.2.2.2⟩
      case measure=>exact Ai
     have dcm:((cn:Int)==(m:Int))=true:=by simp [hcm]
     rcases cy with _|_
     ·have Ld:=A3 (show (true=true↔MI G rel D hd bl ls k) by rw [Dw.out];simp [hcm])
      clear hcm;go_upto_region 16 with fail;refine KA 34 A4 A4 ?_;simp only [Fp,List.take_zero,G0,List.drop_zero];repeat (go_big_quiet_step ((go_at_call 78;exact Calls.AW (HCY.out _))))
      refine BD ?_;rintro _ ⟨x1,rfl⟩;have a1:=x1.cell ag k Oj;have a2:=x1.frozen ag k Oj;rw [pa1] at a1;rw [pa2] at a2;have sa1:ag<x1.w.heap.size:=by have:=x1.h.size;omega
      have hN:=ER.out x1.w x1.h true Ld.out;clear pa1 pa2 Vb Wl UI u3 q0 q1 q2 q3;go_wp2_with fail;go_roundw;case rel=>exact⟨k+1,by omega,by go_num,hN.1,hN.2.1,hN.2.2.1,hN.2.2.2⟩
      case measure=>exact Ai
     have Ld:=A3 (show (false=true↔MI G rel D hd bl ls k) by rw [Dw.out];simp);clear hcm;go_upto_region 16 with fail;refine KA 34 A4 A4 ?_;simp only [Fp,List.take_zero,G0,List.drop_zero];repeat (go_big_quiet_step ((go_at_call 78;exact Calls.AW (HCY.out _))))
     refine BD ?_;rintro _ ⟨x1,rfl⟩;have a1:=x1.cell ag k Oj;have a2:=x1.frozen ag k Oj;rw [pa1] at a1;rw [pa2] at a2;have sa1:ag<x1.w.heap.size:=by have:=x1.h.size;omega
     have hN:=ER.out x1.w x1.h false Ld.out;clear pa1 pa2 Vb Wl UI u3 q0 q1 q2 q3;go_wp2_with fail;go_roundw;case rel=>exact⟨k+1,by omega,by go_num,hN.1,hN.2.1,hN.2.2.1,hN.2.2.2⟩
     case measure=>exact Ai
    ·obtain rfl:k=G.length:=by omega
     have dl:decide ((G.length:Int)<(G.length:Int))=false:=by simp
     clear hr hc hk4 hb;go_wp2_with fail;go_ret;exact⟨ag,rfl,HR.out,HB.out⟩
end
def Rc (i:Ins):Bool:=CW i && (fm i.op.toNat).wr && decide (i.a≠0)
theorem yC (i:Ins) (h0:0≤i.op) (w:World) (T:CO w) :
  Calls Tryz.prog 77 #[.agg #[.int .u8 i.op,.int .i64 i.a,.int .i64 i.b,.int .i64 i.c,.int .i64 i.AD]] w fun e w'=>e=.returned (.tuple #[.int .i64 (if Rc i=true then i.a else 0),.bool (Rc i)])∧Below w.heap.size w w':=by
 have HV:∀W,CO W→Calls Tryz.prog 55 #[.agg #[.int .u8 i.op,.int .i64 i.a,.int .i64 i.b,.int .i64 i.c,.int .i64 i.AD]] W fun e w'=>e=.returned (.bool (CW i))∧Below W.heap.size W w':=fun W hT=>Ns i h0 W hT;obtain⟨v,hv⟩:=A8 (CW i);obtain⟨r,hr⟩:=A8 (Rc i);rw [hv] at HV;have HR:=A3 (show r=(v && (fm i.op.toNat).wr && decide (i.a≠0)) by rw [←hr,← hv];rfl);rw [hr];obtain⟨z,hz⟩:=A8 (if r=true then i.a else 0);rw [hz];have HZ:=A3 hz;clear hz;have rX:=A3 (show v=true→i.op<30 from fun hh=>by
  rw [←hv] at hh;unfold CW at hh;rw [Eh] at hh
  exact JB hh.1)
 clear hv hr;obtain⟨op,a,b,c,AD⟩:=i;simp only at HV h0;obtain⟨X,hX⟩:=A8 (w.alloc (.cells #[.int .u8 op,.int .i64 a,.int .i64 b,.int .i64 c,.int .i64 AD] 67));obtain⟨q,hq⟩:=A8 w.heap.size;have bX:Below w.heap.size w X:=hX▸(AV _ _).alloc (AH _) _;have kX:X.heap[q]?=some (.cells #[.int .u8 op,.int .i64 a,.int .i64 b,.int .i64 c,.int .i64 AD] 67 (0,0)):=by rw [←hq,← hX];exact AY _ _
 have c0:X.cell? ⟨q,0,none⟩=some (.int .u8 op):=by simp [World.cell?,kX]
 have c1:X.cell? ⟨q,1,none⟩=some (.int .i64 a):=by simp [World.cell?,kX]
 have c2:X.cell? ⟨q,2,none⟩=some (.int .i64 b):=by simp [World.cell?,kX]
 have c3:X.cell? ⟨q,3,none⟩=some (.int .i64 c):=by simp [World.cell?,kX]
 have c4:X.cell? ⟨q,4,none⟩=some (.int .i64 AD):=by simp [World.cell?,kX]
 have sq:q<X.heap.size:=(Bl.1 kX).1;have⟨HC,BX⟩:=AQ (show Calls Tryz.prog 55 #[.agg #[.int .u8 op,.int .i64 a,.int .i64 b,.int .i64 c,.int .i64 AD]] X fun e w'=>e=.returned (.bool v)∧Below X.heap.size X w' from HV X (T.below bX)) bX;go_enter Tryz.func77,Tryz.ntmps77;cases v with
 | false=>
  have HF:=A3 (show r=false by rw [HR.out];rfl);go_wp2_with (go_at_call 55;refine (Calls.ext HC.out).mono ?_;rintro e w' ⟨rfl,y,rfl⟩);go_ret2;exact⟨by rw [←HZ.out,HF.out];rfl,Ext.below (hq▸BX.out) ji y⟩
 | true=>
  obtain⟨k,rfl⟩:∃k:Nat,op=(k:Int):=⟨op.toNat,by omega⟩;have hk:k<30:=by have:=rX.out rfl;simp only at this;omega
  have ct:=(T.below bX).cells k hk 3 (.bool (fm k).wr) rfl;have HT0:=(T.below bX).pos;have EW:=A3 (show r=((fm k).wr && decide (a≠0)) by rw [HR.out];simp);obtain⟨wr,hwr⟩:=A8 ((fm k).wr);rw [hwr] at ct EW;clear HR rX hwr HV T;cases wr with
  | false=>
   have HF:=A3 (show r=false by rw [EW.out];rfl);go_wp2_with (go_at_call 55;refine (Calls.ext HC.out).mono ?_;rintro e w' ⟨rfl,y,rfl⟩);go_ret2;exact⟨by rw [←HZ.out,HF.out];rfl,Ext.below (hq▸BX.out) ji y⟩
  | true=>
   by_cases ha:a=0
   ·have da:(a==0)=true:=by simp [ha]
    have HF:=A3 (show r=false by rw [EW.out];simp [ha]);clear ha;go_wp2_with (go_at_call 55;refine (Calls.ext HC.out).mono ?_;rintro e w' ⟨rfl,y,rfl⟩);go_ret2;exact⟨by rw [←HZ.out,HF.out];rfl,Ext.below (hq▸BX.out) ji y⟩
   ·have da:(a==0)=false:=by simp [ha]
    have HF:=A3 (show r=true by rw [EW.out];simp [ha]);clear ha;go_wp2_with (go_at_call 55;refine (Calls.ext HC.out).mono ?_;rintro e w' ⟨rfl,y,rfl⟩);go_ret2;exact⟨by rw [←HZ.out,HF.out];rfl,Ext.below (hq▸BX.out) ji y⟩
structure Cs where
 wr:Nat
 st:Nat
 bd:Int
 fd:Bool
def cW (A7:Int) (i:Ins):Bool:=Rc i && decide (i.a=A7)
def cS (A7:Int) (i:Ins):Bool:=decide (i=⟨15,A7,A7,0,1⟩)
def cB (A7:Int) (i:Ins):Bool:=decide (i.op=25) && decide (i.a=A7)
def GH (A7:Int) (pb:Bool) (s:Cs) (i:Ins):Cs:=
 let t:=cB A7 i && pb && (!s.fd || decide (i.AD<s.bd))
 ⟨s.wr+(cW A7 i).toNat,s.st+(cW A7 i && (cS A7 i && pb)).toNat,if t=true then i.AD else s.bd,s.fd || t⟩
def Gu (A7:Int) (pb:Bool) (s:Cs) (l:List Ins):Cs:=l.foldl (GH A7 pb) s
def TG (A7:Int) (inl pl:List Bool) (C:List (List Ins)) (s:Cs) (b:Nat):Cs:=
 if inl.getD b false=true then Gu A7 (pl.getD b false) s (C.getD b []) else s
def Df (A7:Int) (inl pl:List Bool) (C:List (List Ins)) (k:Nat):Cs:=(List.range k).foldl (TG A7 inl pl C) ⟨0,0,0,false⟩
def Mg (A7:Int) (s:Cs):Int×Bool:=
 if A7<10∨13<A7 then (0,false) else if s.wr≠1∨s.st≠1∨s.fd=false then (0,false) else (s.bd,true)
theorem rG (A7:Int) (pb:Bool) (s:Cs) {l:List Ins} {j:Nat} {i:Ins} (h:l[j]?=some i):Gu A7 pb s (l.take (j+1))=GH A7 pb (Gu A7 pb s (l.take j)) i:=by
 unfold Gu;rw [I6,h,Qw];rfl
theorem yX (A7:Int) (pb:Bool) (s:Cs) (i:Ins):(GH A7 pb s i).wr≤s.wr+1∧(GH A7 pb s i).st≤s.st+1:=by
 unfold GH;simp only;have:=Bool.toNat_le (cW A7 i);have:=Bool.toNat_le (cW A7 i && (cS A7 i && pb));omega
theorem fc (A7:Int) (pb:Bool):∀(l:List Ins) (s:Cs),(Gu A7 pb s l).wr≤s.wr+l.length∧(Gu A7 pb s l).st≤s.st+l.length
 | [],s=>⟨AH _,AH _⟩
 | i :: l,s=>by
  have h1:=yX A7 pb s i;have h2:=fc A7 pb l (GH A7 pb s i);rw [IQ];show (Gu A7 pb (GH A7 pb s i) l).wr≤_∧(Gu A7 pb (GH A7 pb s i) l).st≤_;omega
theorem jy (A7:Int) (inl pl:List Bool) (C:List (List Ins)) (k:Nat):Df A7 inl pl C (k+1)=TG A7 inl pl C (Df A7 inl pl C k) k:=by
 unfold Df;rw [JT,Qw];rfl
theorem nI (A7:Int) (inl pl:List Bool) (C:List (List Ins)) (k:Nat) (hk:k≤C.length):(Df A7 inl pl C k).wr≤(C.take k).flatten.length∧(Df A7 inl pl C k).st≤(C.take k).flatten.length:=by
 induction k with
 | zero=>exact⟨AH _,AH _⟩
 | succ k ih=>
  have h1:=ih A0;rw [jy,I6,Ab (by omega:k<C.length)];simp only [Option.toList_some,List.flatten_append,jx,List.flatten_nil,Jz,G5];unfold TG;split
  ·rw [show C.getD k []=C[k]'A0 by simp [List.getD,Ab (by omega:k<C.length)]]
   have:=fc A7 (pl.getD k false) (C[k]'A0) (Df A7 inl pl C k);omega
  ·omega
theorem vX {P:Program} (d:Nat) {t:TypeId} {k:IntKind} (h:P.underlying t=some (.int k)) (a b:Int) (w:World):(Op.equalIn (d+1) t (.int k a) (.int k b)).run P w=.ok (a==b) w:=by
 simp [Op.equalIn,QB h]
theorem ap0 (a b c d e:Int) (w:World):(part 5 #[.int .u8 a,.int .i64 b,.int .i64 c,.int .i64 d,.int .i64 e] 0).run Tryz.prog w=.ok (.int .u8 a) w:=by kernel_rfl
theorem aqa (a b c d e:Int) (w:World):(part 3 #[.int .u8 a,.int .i64 b,.int .i64 c,.int .i64 d,.int .i64 e] 1).run Tryz.prog w=.ok (.int .i64 b) w:=by kernel_rfl
theorem alh (a b c d e:Int) (w:World):(part 3 #[.int .u8 a,.int .i64 b,.int .i64 c,.int .i64 d,.int .i64 e] 2).run Tryz.prog w=.ok (.int .i64 c) w:=by kernel_rfl
theorem arf (a b c d e:Int) (w:World):(part 3 #[.int .u8 a,.int .i64 b,.int .i64 c,.int .i64 d,.int .i64 e] 3).run Tryz.prog w=.ok (.int .i64 d) w:=by kernel_rfl
theorem arE (a b c d e:Int) (w:World):(part 3 #[.int .u8 a,.int .i64 b,.int .i64 c,.int .i64 d,.int .i64 e] 4).run Tryz.prog w=.ok (.int .i64 e) w:=by kernel_rfl
theorem atp (n:Nat) (a b c d e a' b' c' d' e':Int) (w:World):(Op.equalIn (n+1+1) 67 (.agg #[.int .u8 a,.int .i64 b,.int .i64 c,.int .i64 d,.int .i64 e]) (.agg #[.int .u8 a',.int .i64 b',.int .i64 c',.int .i64 d',.int .i64 e'])).run Tryz.prog w=.ok (decide ((⟨a,b,c,d,e⟩:Ins)=⟨a',b',c',d',e'⟩)) w:=by
 have e3:∀(a b:Int) (w:World),(Op.equalIn (n+1) 3 (.int .i64 a) (.int .i64 b)).run Tryz.prog w=.ok (a==b) w:=fun a b w=>vX n Db a b w;have e5:∀(a b:Int) (w:World),(Op.equalIn (n+1) 5 (.int .u8 a) (.int .u8 b)).run Tryz.prog w=.ok (a==b) w:=fun a b w=>vX n lN a b w;rw [Op.equalIn];simp [QB Tryz.underlying67,e3,e5,ap0,aqa,alh,arf,arE,QH];by_cases h1:a=a'<;>by_cases h2:b=b'<;>by_cases h3:c=c'<;>by_cases h4:d=d'<;>by_cases h5:e=e'<;>simp [h1,h2,h3,h4,h5]
theorem aqL (a b c d e a' b' c' d' e':Int) (w:World):(binOp .eql 67 (.agg #[.int .u8 a,.int .i64 b,.int .i64 c,.int .i64 d,.int .i64 e]) (.agg #[.int .u8 a',.int .i64 b',.int .i64 c',.int .i64 d',.int .i64 e'])).run Tryz.prog w=.ok (.bool (decide ((⟨a,b,c,d,e⟩:Ins)=⟨a',b',c',d',e'⟩))) w:=by
 simp only [binOp];simp [Op.equal,Op.maxDepth,atp 9998]
theorem uH (a b:Int):(a==b)=decide (a=b):=by by_cases h:a=b<;>simp [h]
theorem aqA {C:List (List Ins)} {x:List Ins} (h:x∈C):x.length≤C.flatten.length:=(List.sublist_flatten_of_mem h).length_le
theorem mQ {w:World} {sp:Nat} {bv pv cv rv dv:Value} {G:List AU} {C:List (List Ins)} {rel:List Bool} {D:List Int} (HS:Lu w sp bv pv cv rv dv G C rel D) (hn:G.length≤5000) (T:CO w) (Mu:∀l∈C,∀i∈l,0≤i.op) (hfl:C.flatten.length≤1000000000000000) (hd p:Int) (l1 l2 iv qv:Value) (inl pl:List Bool) (HI:Hq w iv inl) (hil:inl.length=G.length) (HP:Hq w qv pl) (hpl:pl.length=G.length) (A7:Int) :
  Calls Tryz.prog 47 #[.pointer (some ⟨sp,0,none⟩),.agg #[.int .i64 hd,l1,l2,.int .i64 p],iv,qv,.int .i64 A7] w fun e w'=>e=.returned (.tuple #[.int .i64 (Mg A7 (Df A7 inl pl C G.length)).1,.bool (Mg A7 (Df A7 inl pl C G.length)).2])∧Below w.heap.size w w':=by
 obtain⟨r,hr⟩:=A8 (Mg A7 (Df A7 inl pl C G.length));rw [hr];obtain⟨r1,r2⟩:=r;simp only;obtain⟨IA,EF,hiv,hi1,hi2⟩:∃A cap,iv=.slice A G.length cap∧G.length≤cap∧cap≤maxLen:=by
  obtain⟨A,cap,e,h1,h2,_⟩:=HI;exact⟨A,cap,by rw [e,hil],by omega,h2⟩
 subst hiv;obtain⟨PA,B7,hqv,hp1,hp2⟩:∃A cap,qv=.slice A G.length cap∧G.length≤cap∧cap≤maxLen:=by
  obtain⟨A,cap,e,h1,h2,_⟩:=HP;exact⟨A,cap,by rw [e,hpl],by omega,h2⟩
 subst hqv;have⟨HR,M7,TH,HO,UQ,Uc,Tw,WG⟩:=OI hr HS T Mu hfl HI HP hil;have IM:=A3 hpl;clear hr T Mu hfl HI HP hil hpl;obtain⟨CA,Dv,hcv,hc1,hc2⟩:∃A cap,cv=.slice A G.length cap∧G.length≤cap∧cap≤maxLen:=by
  obtain⟨A,cap,h1,h2,h3,h4⟩:=HS.MK;rw [HS.lc] at h1 h2;exact⟨A,cap,h1,h2,h3⟩
 subst hcv;obtain⟨W1,hW1⟩:∃W,w.alloc (.cells #[.int .i64 hd,l1,l2,.int .i64 p] 46)=W:=⟨_,rfl⟩;have b1:Below w.heap.size w W1:=hW1▸(AV _ _).alloc (AH _) _;have c2:W1.cell? ⟨sp,2,none⟩=some (.slice CA G.length Dv):=(b1.cell (p:=⟨sp,2,none⟩) HS.cells.2.2.2.2.2).trans HS.cells.2.2.1;have YZ:sp<W1.heap.size:=by have:=b1.size;have:=HS.cells.2.2.2.2.2;omega
 have B1:=A3 b1;clear HS b1;go_enter Tryz.func47,Tryz.ntmps47;by_cases h1:A7<10
 ·have d1:decide (A7<10)=true:=Ac h1
  have HF:=A3 (show (r1,r2)=(0,false) by rw [←HR.out];unfold Mg;rw [A9 (.inl h1)]);go_wp2_with fail;go_ret2;have h:=HF.out;injection h with h2 h3;exact⟨by rw [h2,h3];rfl,by first|exact B1.out|exact hW1▸B1.out⟩
 have d1:decide (A7<10)=false:=Ad h1;by_cases h2:13<A7
 ·have d2:decide (13<A7)=true:=Ac h2
  have HF:=A3 (show (r1,r2)=(0,false) by rw [←HR.out];unfold Mg;rw [A9 (.inr h2)]);go_wp2_with fail;go_ret2;have h:=HF.out;injection h with h2 h3;exact⟨by rw [h2,h3];rfl,by first|exact B1.out|exact hW1▸B1.out⟩
 have d2:decide (13<A7)=false:=Ad h2;have U9:=A3 (show ¬(A7<10∨13<A7) by omega);clear h1 h2;go_upto_region 7 with fail;obtain⟨W2,hW2⟩:∃W,W1.alloc (.cells #[.int .u8 15,.int .i64 A7,.int .i64 A7,.int .i64 0,.int .i64 1] 67)=W:=⟨_,rfl⟩;rw [hW2];obtain⟨g,hg⟩:∃q,W1.heap.size=q:=⟨_,rfl⟩;rw [hg];have K2:=A3 (show W2.heap[g]?=some (.cells #[.int .u8 15,.int .i64 A7,.int .i64 A7,.int .i64 0,.int .i64 1] 67 (0,0)) by rw [←hg,← hW2];exact AY _ _);have B2:=A3 (show Below w.heap.size w W2 by rw [←hW2];exact B1.out.alloc B1.out.size _);clear hW2 hW1 c2 YZ hg B1;go_loopw [12,13,14,15,37] (fun a12 a13 a14 a15 a37 wr=>∃k:Nat,k≤G.length∧a37=.int .i64 (k:Int)∧a12=.int .i64 ((Df A7 inl pl C k).wr:Int)∧a13=.int .i64 ((Df A7 inl pl C k).st:Int)∧a14=.int .i64 (Df A7 inl pl C k).bd∧a15=.bool (Df A7 inl pl C k).fd∧wr.heap[g]?=some (.cells #[.int .u8 15,.int .i64 A7,.int .i64 A7,.int .i64 0,.int .i64 1] 67 (0,0))∧Below w.heap.size w wr) (fun _ _ _ _ a37 _=>G.length - (intOf a37).toNat);case atStart=>exact⟨0,Ca _,rfl,rfl,rfl,rfl,rfl,K2.out,B2.out⟩
 case round=>
  clear K2 B2;obtain⟨k,hk,rfl,rfl,rfl,rfl,rfl,hg,hb⟩:=hrel;have⟨HG,HB⟩:=AQ hg hb;obtain⟨s,hs⟩:=A8 (Df A7 inl pl C k);rw [hs];have HS:=A3 hs;obtain⟨sw,ss,sb,sf⟩:=s;simp only;clear hs;by_cases hlt:k<G.length
  ·have dl:decide ((k:Int)<(G.length:Int))=true:=Ac A0
   obtain⟨ib,io,hIA,hib,hic⟩:∃b o,IA=some ⟨b,o,none⟩∧b<w.heap.size∧w.cell? ⟨b,o+k,none⟩=some (.bool (inl.getD k false)):=by
    obtain⟨A',cap',e1,_,_,e4⟩:=Uc.out;rw [WG.out] at e1 e4;cases e1;obtain⟨b',off,e5,h1,h2⟩:=e4 A0;exact⟨b',off,e5,h1,h2 k hlt⟩
   obtain⟨pb,po,XV,hpb,hpc⟩:∃b o,PA=some ⟨b,o,none⟩∧b<w.heap.size∧w.cell? ⟨b,o+k,none⟩=some (.bool (pl.getD k false)):=by
    obtain⟨A',cap',e1,_,_,e4⟩:=Tw.out;rw [IM.out] at e1 e4;cases e1;obtain⟨b',off,e5,h1,h2⟩:=e4 A0;exact⟨b',off,e5,h1,h2 k hlt⟩
   obtain⟨cb,co,u,x,hCA,hcb,hx,hcu,MD⟩:∃b o u x,CA=some ⟨b,o,none⟩∧b<w.heap.size∧C[k]?=some x∧w.cell? ⟨b,o+k,none⟩=some u∧Wy w u x:=by
    obtain⟨A',cap',e1,_,_,e4⟩:=M7.out.MK;have hlc:=M7.out.lc;rw [hlc] at e1 e4;cases e1;obtain⟨b',off,e5,h1,h2⟩:=e4 A0;obtain⟨u,h3,h4⟩:=h2 k _ (Ab (show k<C.length by omega));exact⟨b',off,u,_,e5,h1,Ab (show k<C.length by omega),h3,h4⟩
   obtain⟨XA,aul,rfl,hx1,hx2,hx4⟩:=MD;obtain⟨m,hm⟩:=A8 x.length;have auB:m≤1000000000000000:=by have:=aqA (Bj hx);have:=UQ.out;omega
   rw [hm] at hcu hx1 hx4;obtain⟨inb,gw⟩:∃b,inl.getD k false=b:=⟨_,rfl⟩;obtain⟨Hp,fR⟩:∃b,pl.getD k false=b:=⟨_,rfl⟩;rw [gw] at hic;rw [fR] at hpc;have hS1:=jy A7 inl pl C k;rw [HS.out] at hS1;unfold TG at hS1;rw [gw,fR,show C.getD k []=x by simp [List.getD,hx]] at hS1;have WN:=A3 hS1;have i1:=(hb.cell (p:=⟨ib,io+k,none⟩) hib).trans hic;have i2:=(hb.cell (p:=⟨pb,po+k,none⟩) hpb).trans hpc;have i3:=(hb.cell (p:=⟨cb,co+k,none⟩) hcb).trans hcu;have⟨HX,HX4,HM⟩:=Bh hx hx4 hm;have MJ:=hb.size;have s1:ib<wr.heap.size:=by omega
   have s2:pb<wr.heap.size:=by omega
   have s3:cb<wr.heap.size:=by omega
   have xI:=hpc;clear hic hpc hcu hS1 hx hx4 hm hb hg MJ gw fR;subst hIA XV hCA;have SN:=A3 (show k+1≤G.length from hlt);cases inb with
   | false=>
    have HN:=A3 (show Df A7 inl pl C (k+1)=⟨sw,ss,sb,sf⟩ by rw [WN.out];rfl);go_wp2_with fail;go_roundw;case rel=>exact⟨k+1,SN.out,by go_num,by rw [HN.out],by rw [HN.out],by rw [HN.out],by rw [HN.out],HG.out,HB.out⟩
    case measure=>exact Ai
   | true=>
    have HN:=A3 (show Df A7 inl pl C (k+1)=Gu A7 Hp ⟨sw,ss,sb,sf⟩ x by rw [WN.out];rfl);have HW:=A3 (show ∀j,j≤m→(Gu A7 Hp ⟨sw,ss,sb,sf⟩ (x.take j)).wr≤1000000000000000∧(Gu A7 Hp ⟨sw,ss,sb,sf⟩ (x.take j)).st≤1000000000000000 from fun j hj=>by
     have h1:=nI A7 inl pl C (k+1) (by rw [M7.out.lc];exact SN.out);have h0:=nI A7 inl pl C k (by rw [M7.out.lc];omega);rw [HS.out] at h0;have h2:=fc A7 Hp (x.take j) ⟨sw,ss,sb,sf⟩;have h3:(C.take k).flatten.length+x.length≤C.flatten.length:=by
      have e:C.take (k+1)=C.take k++[x]:=by rw [I6,HX.out];rfl
      have e2:C=C.take (k+1)++C.drop (k+1):=(Ul _ _).symm;rw [e] at e2;have e3:=congrArg (fun l=>l.flatten.length) e2;simp only [List.flatten_append,G5,jx,List.flatten_nil,Jz] at e3;omega
     have h4:=UQ.out;have h5:(x.take j).length≤x.length:=by rw [Ux];omega
     simp only at h0 h2
     omega)
    go_upto_region 11 with fail;clear i1 i2 i3 s1 s2 s3;go_loopw [12,13,14,15,49] (fun a12 a13 a14 a15 a49 wx=>∃j:Nat,j≤m∧a49=.int .i64 (j:Int)∧a12=.int .i64 ((Gu A7 Hp ⟨sw,ss,sb,sf⟩ (x.take j)).wr:Int)∧a13=.int .i64 ((Gu A7 Hp ⟨sw,ss,sb,sf⟩ (x.take j)).st:Int)∧a14=.int .i64 (Gu A7 Hp ⟨sw,ss,sb,sf⟩ (x.take j)).bd∧a15=.bool (Gu A7 Hp ⟨sw,ss,sb,sf⟩ (x.take j)).fd∧wx.heap[g]?=some (.cells #[.int .u8 15,.int .i64 A7,.int .i64 A7,.int .i64 0,.int .i64 1] 67 (0,0))∧Below w.heap.size w wx) (fun _ _ _ _ a49 _=>m - (intOf a49).toNat);case atStart=>exact⟨0,Ca _,rfl,rfl,rfl,rfl,rfl,HG.out,HB.out⟩
    case round=>
     obtain⟨j,hj,rfl,rfl,rfl,rfl,rfl,hgx,Q3⟩:=hrel;have⟨HGX,Ds⟩:=AQ hgx Q3;have hw:=HW.out j hj;obtain⟨s2,hs2⟩:=A8 (Gu A7 Hp ⟨sw,ss,sb,sf⟩ (x.take j));rw [hs2] at hw ⊢;have Pc:=A3 hs2;obtain⟨tw,ts,tb,tf⟩:=s2;simp only at hw ⊢;obtain⟨hw1,hw2⟩:=hw;clear hs2 hgx Q3;by_cases hjm:j<m
     ·have dj:decide ((j:Int)<(m:Int))=true:=Ac A0
      have Ay:=A3 (show j+1≤m from hjm);obtain⟨i,hi⟩:∃i,x[j]?=some i:=⟨_,Ab (by rw [HM.out];exact hjm)⟩;obtain⟨xb,xo,hXA,hxb,hxc⟩:=HX4.out A0;have hc:=hxc j i hi;obtain⟨op,ia,ib2,ic,im⟩:=i;have e0:=(Ds.out.cell (p:=⟨xb,_,none⟩) hxb).trans (hc 0 _ rfl);have e1:=(Ds.out.cell (p:=⟨xb,_,none⟩) hxb).trans (hc 1 _ rfl);have e2:=(Ds.out.cell (p:=⟨xb,_,none⟩) hxb).trans (hc 2 _ rfl);have e3:=(Ds.out.cell (p:=⟨xb,_,none⟩) hxb).trans (hc 3 _ rfl);have e4:=(Ds.out.cell (p:=⟨xb,_,none⟩) hxb).trans (hc 4 _ rfl);rw [Zg] at e0;have hop:0≤op:=HO.out x (Bj HX.out) _ (Bj hi);have Ln:=A3 (show Gu A7 Hp ⟨sw,ss,sb,sf⟩ (x.take (j+1))=GH A7 Hp ⟨tw,ts,tb,tf⟩ ⟨op,ia,ib2,ic,im⟩ by rw [rG A7 Hp _ hi,Pc.out]);have sxb:xb<wr.heap.size:=by have:=Ds.out.size;omega
      subst hXA;clear hc hxc hi;go_upto_region 13 with fail;obtain⟨qb,IJ⟩:∃q,wr.heap.size=q:=⟨_,rfl⟩;obtain⟨WB,hWB⟩:∃W,wr.alloc (.cells #[.int .u8 op,.int .i64 ia,.int .i64 ib2,.int .i64 ic,.int .i64 im] 67)=W:=⟨_,rfl⟩;rw [hWB,IJ];have bWB:Below wr.heap.size wr WB:=hWB▸(AV _ _).alloc (AH _) _;have kB:WB.heap[qb]?=some (.cells #[.int .u8 op,.int .i64 ia,.int .i64 ib2,.int .i64 ic,.int .i64 im] 67 (0,0)):=by rw [←IJ,← hWB];exact AY _ _
      have sqb:qb<WB.heap.size:=(Bl.1 kB).1;have b0:WB.cell? ⟨qb,0,none⟩=some (.int .u8 op):=by simp [World.cell?,kB]
      have b1:WB.cell? ⟨qb,1,none⟩=some (.int .i64 ia):=by simp [World.cell?,kB]
      have b2:WB.cell? ⟨qb,2,none⟩=some (.int .i64 ib2):=by simp [World.cell?,kB]
      have b3:WB.cell? ⟨qb,3,none⟩=some (.int .i64 ic):=by simp [World.cell?,kB]
      have b4:WB.cell? ⟨qb,4,none⟩=some (.int .i64 im):=by simp [World.cell?,kB]
      have sg0:g<wr.heap.size:=(Bl.1 HGX.out).1;have kG:WB.heap[g]?=some (.cells #[.int .u8 15,.int .i64 A7,.int .i64 A7,.int .i64 0,.int .i64 1] 67 (0,0)):=(bWB.block g sg0).trans HGX.out;have sg:g<WB.heap.size:=(Bl.1 kG).1;have d0:WB.cell? ⟨g,0,none⟩=some (.int .u8 15):=by simp [World.cell?,kG]
      have d1':WB.cell? ⟨g,1,none⟩=some (.int .i64 A7):=by simp [World.cell?,kG]
      have d2':WB.cell? ⟨g,2,none⟩=some (.int .i64 A7):=by simp [World.cell?,kG]
      have d3:WB.cell? ⟨g,3,none⟩=some (.int .i64 0):=by simp [World.cell?,kG]
      have d4:WB.cell? ⟨g,4,none⟩=some (.int .i64 1):=by simp [World.cell?,kG]
      have bB:Below w.heap.size w WB:=Ds.out.trans (bWB.mono Ds.out.size);have pc:WB.cell? ⟨pb,po+k,none⟩=some (.bool Hp):=(bB.cell (p:=⟨pb,po+k,none⟩) hpb).trans xI;have Yf:pb<WB.heap.size:=by have:=bB.size;omega
      have⟨IC,DF⟩:=AQ kG bB;obtain⟨bw,Am⟩:∃b,Rc ⟨op,ia,ib2,ic,im⟩=b:=⟨_,rfl⟩;have hwa:=yC ⟨op,ia,ib2,ic,im⟩ hop WB (TH.out.below bB);rw [Am] at hwa;have IE:=A3 hwa;clear e0 e1 e2 e3 e4 sxb bWB kB kG bB hWB IJ sg0 hwa hop;obtain⟨qa,MF⟩:∃b:Bool,(ia==A7)=b:=⟨_,rfl⟩;obtain⟨q5,hq5⟩:∃b:Bool,(op==25)=b:=⟨_,rfl⟩;obtain⟨ql,Xw⟩:∃b:Bool,decide (im<tb)=b:=⟨_,rfl⟩;obtain⟨qs,hqs⟩:∃b:Bool,decide ((⟨op,ia,ib2,ic,im⟩:Ins)=⟨15,A7,A7,0,1⟩)=b:=⟨_,rfl⟩;have HEQ:∀W,(binOp .eql 67 (.agg #[.int .u8 op,.int .i64 ia,.int .i64 ib2,.int .i64 ic,.int .i64 im]) (.agg #[.int .u8 15,.int .i64 A7,.int .i64 A7,.int .i64 0,.int .i64 1])).run Tryz.prog W=.ok (.bool qs) W:=fun W=>by rw [←hqs];exact aqL _ _ _ _ _ _ _ _ _ _ _
      have BJ:=A3 (show Gu A7 Hp ⟨sw,ss,sb,sf⟩ (x.take (j+1))=⟨tw+(bw && qa).toNat,ts+((bw && qa) && (qs && Hp)).toNat,if ((q5 && qa && Hp) && (!tf || ql))=true then im else tb,tf || ((q5 && qa && Hp) && (!tf || ql))⟩ by
       rw [Ln.out,← Am,← hqs,← Xw,show qa=decide (ia=A7) by rw [←MF];exact uH _ _,show q5=decide (op=25) by rw [←hq5];exact uH _ _]
       rfl)
      clear Am hqs Ln;rcases bw with _|_
      ·skip
       rcases q5 with _|_
       ·skip
        go_wp2_with (go_at_call 77;refine (Calls.ext IE.out).mono ?_;rintro e w' ⟨rfl,y,rfl⟩);go_roundw;case rel=>exact⟨j+1,Ay.out,by go_num,by rw [BJ.out];first|rfl|go_num,by rw [BJ.out];first|rfl|go_num,by rw [BJ.out];rfl,by rw [BJ.out];first|rfl|simp,(y.h.block g sg).trans IC.out,Ext.below DF.out DF.out.size y⟩
        case measure=>exact Ai
       ·skip
        rcases qa with _|_
        ·skip
         go_wp2_with (go_at_call 77;refine (Calls.ext IE.out).mono ?_;rintro e w' ⟨rfl,y,rfl⟩);go_roundw;case rel=>exact⟨j+1,Ay.out,by go_num,by rw [BJ.out];first|rfl|go_num,by rw [BJ.out];first|rfl|go_num,by rw [BJ.out];rfl,by rw [BJ.out];first|rfl|simp,(y.h.block g sg).trans IC.out,Ext.below DF.out DF.out.size y⟩
         case measure=>exact Ai
        ·skip
         rcases Hp with _|_
         ·skip
          go_wp2_with (go_at_call 77;refine (Calls.ext IE.out).mono ?_;rintro e w' ⟨rfl,y,rfl⟩);go_roundw;case rel=>exact⟨j+1,Ay.out,by go_num,by rw [BJ.out];first|rfl|go_num,by rw [BJ.out];first|rfl|go_num,by rw [BJ.out];rfl,by rw [BJ.out];first|rfl|simp,(y.h.block g sg).trans IC.out,Ext.below DF.out DF.out.size y⟩
          case measure=>exact Ai
         ·skip
          rcases tf with _|_
          ·skip
           go_wp2_with (go_at_call 77;refine (Calls.ext IE.out).mono ?_;rintro e w' ⟨rfl,y,rfl⟩);go_roundw;case rel=>exact⟨j+1,Ay.out,by go_num,by rw [BJ.out];first|rfl|go_num,by rw [BJ.out];first|rfl|go_num,by rw [BJ.out];rfl,by rw [BJ.out];first|rfl|simp,(y.h.block g sg).trans IC.out,Ext.below DF.out DF.out.size y⟩
           case measure=>exact Ai
          ·skip
           rcases ql with _|_
           ·skip
            go_wp2_with (go_at_call 77;refine (Calls.ext IE.out).mono ?_;rintro e w' ⟨rfl,y,rfl⟩);go_roundw;case rel=>exact⟨j+1,Ay.out,by go_num,by rw [BJ.out];first|rfl|go_num,by rw [BJ.out];first|rfl|go_num,by rw [BJ.out];rfl,by rw [BJ.out];first|rfl|simp,(y.h.block g sg).trans IC.out,Ext.below DF.out DF.out.size y⟩
            case measure=>exact Ai
           ·skip
            go_wp2_with (go_at_call 77;refine (Calls.ext IE.out).mono ?_;rintro e w' ⟨rfl,y,rfl⟩);go_roundw;case rel=>exact⟨j+1,Ay.out,by go_num,by rw [BJ.out];first|rfl|go_num,by rw [BJ.out];first|rfl|go_num,by rw [BJ.out];rfl,by rw [BJ.out];first|rfl|simp,(y.h.block g sg).trans IC.out,Ext.below DF.out DF.out.size y⟩
            case measure=>exact Ai
      ·skip
       rcases qa with _|_
       ·skip
        rcases q5 with _|_
        ·skip
         go_wp2_with (go_at_call 77;refine (Calls.ext IE.out).mono ?_;rintro e w' ⟨rfl,y,rfl⟩);go_roundw;case rel=>exact⟨j+1,Ay.out,by go_num,by rw [BJ.out];first|rfl|go_num,by rw [BJ.out];first|rfl|go_num,by rw [BJ.out];rfl,by rw [BJ.out];first|rfl|simp,(y.h.block g sg).trans IC.out,Ext.below DF.out DF.out.size y⟩
         case measure=>exact Ai
        ·skip
         go_wp2_with (go_at_call 77;refine (Calls.ext IE.out).mono ?_;rintro e w' ⟨rfl,y,rfl⟩);go_roundw;case rel=>exact⟨j+1,Ay.out,by go_num,by rw [BJ.out];first|rfl|go_num,by rw [BJ.out];first|rfl|go_num,by rw [BJ.out];rfl,by rw [BJ.out];first|rfl|simp,(y.h.block g sg).trans IC.out,Ext.below DF.out DF.out.size y⟩
         case measure=>exact Ai
       ·skip
        rcases qs with _|_
        ·skip
         rcases q5 with _|_
         ·skip
          go_wp2_with (go_at_call 77;refine (Calls.ext IE.out).mono ?_;rintro e w' ⟨rfl,y,rfl⟩);go_roundw;case rel=>exact⟨j+1,Ay.out,by go_num,by rw [BJ.out];first|rfl|go_num,by rw [BJ.out];first|rfl|go_num,by rw [BJ.out];rfl,by rw [BJ.out];first|rfl|simp,(y.h.block g sg).trans IC.out,Ext.below DF.out DF.out.size y⟩
          case measure=>exact Ai
         ·skip
          rcases Hp with _|_
          ·skip
           go_wp2_with (go_at_call 77;refine (Calls.ext IE.out).mono ?_;rintro e w' ⟨rfl,y,rfl⟩);go_roundw;case rel=>exact⟨j+1,Ay.out,by go_num,by rw [BJ.out];first|rfl|go_num,by rw [BJ.out];first|rfl|go_num,by rw [BJ.out];rfl,by rw [BJ.out];first|rfl|simp,(y.h.block g sg).trans IC.out,Ext.below DF.out DF.out.size y⟩
           case measure=>exact Ai
          ·skip
           rcases tf with _|_
           ·skip
            go_wp2_with (go_at_call 77;refine (Calls.ext IE.out).mono ?_;rintro e w' ⟨rfl,y,rfl⟩);go_roundw;case rel=>exact⟨j+1,Ay.out,by go_num,by rw [BJ.out];first|rfl|go_num,by rw [BJ.out];first|rfl|go_num,by rw [BJ.out];rfl,by rw [BJ.out];first|rfl|simp,(y.h.block g sg).trans IC.out,Ext.below DF.out DF.out.size y⟩
            case measure=>exact Ai
           ·skip
            rcases ql with _|_
            ·skip
             go_wp2_with (go_at_call 77;refine (Calls.ext IE.out).mono ?_;rintro e w' ⟨rfl,y,rfl⟩);go_roundw;case rel=>exact⟨j+1,Ay.out,by go_num,by rw [BJ.out];first|rfl|go_num,by rw [BJ.out];first|rfl|go_num,by rw [BJ.out];rfl,by rw [BJ.out];first|rfl|simp,(y.h.block g sg).trans IC.out,Ext.below DF.out DF.out.size y⟩
             case measure=>exact Ai
            ·skip
             go_wp2_with (go_at_call 77;refine (Calls.ext IE.out).mono ?_;rintro e w' ⟨rfl,y,rfl⟩);go_roundw;case rel=>exact⟨j+1,Ay.out,by go_num,by rw [BJ.out];first|rfl|go_num,by rw [BJ.out];first|rfl|go_num,by rw [BJ.out];rfl,by rw [BJ.out];first|rfl|simp,(y.h.block g sg).trans IC.out,Ext.below DF.out DF.out.size y⟩
             case measure=>exact Ai
        ·skip
         rcases Hp with _|_
         ·skip
          rcases q5 with _|_
          ·skip
           go_wp2_with (go_at_call 77;refine (Calls.ext IE.out).mono ?_;rintro e w' ⟨rfl,y,rfl⟩);go_roundw;case rel=>exact⟨j+1,Ay.out,by go_num,by rw [BJ.out];first|rfl|go_num,by rw [BJ.out];first|rfl|go_num,by rw [BJ.out];rfl,by rw [BJ.out];first|rfl|simp,(y.h.block g sg).trans IC.out,Ext.below DF.out DF.out.size y⟩
           case measure=>exact Ai
          ·skip
           go_wp2_with (go_at_call 77;refine (Calls.ext IE.out).mono ?_;rintro e w' ⟨rfl,y,rfl⟩);go_roundw;case rel=>exact⟨j+1,Ay.out,by go_num,by rw [BJ.out];first|rfl|go_num,by rw [BJ.out];first|rfl|go_num,by rw [BJ.out];rfl,by rw [BJ.out];first|rfl|simp,(y.h.block g sg).trans IC.out,Ext.below DF.out DF.out.size y⟩
           case measure=>exact Ai
         ·skip
          rcases q5 with _|_
          ·skip
           go_wp2_with (go_at_call 77;refine (Calls.ext IE.out).mono ?_;rintro e w' ⟨rfl,y,rfl⟩);go_roundw;case rel=>exact⟨j+1,Ay.out,by go_num,by rw [BJ.out];first|rfl|go_num,by rw [BJ.out];first|rfl|go_num,by rw [BJ.out];rfl,by rw [BJ.out];first|rfl|simp,(y.h.block g sg).trans IC.out,Ext.below DF.out DF.out.size y⟩
           case measure=>exact Ai
          ·skip
           rcases tf with _|_
           ·skip
            go_wp2_with (go_at_call 77;refine (Calls.ext IE.out).mono ?_;rintro e w' ⟨rfl,y,rfl⟩);go_roundw;case rel=>exact⟨j+1,Ay.out,by go_num,by rw [BJ.out];first|rfl|go_num,by rw [BJ.out];first|rfl|go_num,by rw [BJ.out];rfl,by rw [BJ.out];first|rfl|simp,(y.h.block g sg).trans IC.out,Ext.below DF.out DF.out.size y⟩
            case measure=>exact Ai
           ·skip
            rcases ql with _|_
            ·skip
             go_wp2_with (go_at_call 77;refine (Calls.ext IE.out).mono ?_;rintro e w' ⟨rfl,y,rfl⟩);go_roundw;case rel=>exact⟨j+1,Ay.out,by go_num,by rw [BJ.out];first|rfl|go_num,by rw [BJ.out];first|rfl|go_num,by rw [BJ.out];rfl,by rw [BJ.out];first|rfl|simp,(y.h.block g sg).trans IC.out,Ext.below DF.out DF.out.size y⟩
             case measure=>exact Ai
            ·skip
             go_wp2_with (go_at_call 77;refine (Calls.ext IE.out).mono ?_;rintro e w' ⟨rfl,y,rfl⟩);go_roundw;case rel=>exact⟨j+1,Ay.out,by go_num,by rw [BJ.out];first|rfl|go_num,by rw [BJ.out];first|rfl|go_num,by rw [BJ.out];rfl,by rw [BJ.out];first|rfl|simp,(y.h.block g sg).trans IC.out,Ext.below DF.out DF.out.size y⟩
             case measure=>exact Ai
     ·obtain rfl:m=j:=by omega
      have dj:decide ((m:Int)<(m:Int))=false:=by simp
      have Ln:=A3 (show Df A7 inl pl C (k+1)=⟨tw,ts,tb,tf⟩ by rw [HN.out,← Pc.out,K8 (by rw [HM.out];exact AH _)]);go_wp2_with fail;go_roundw;case rel=>exact⟨k+1,SN.out,by go_num,by rw [Ln.out],by rw [Ln.out],by rw [Ln.out],by rw [Ln.out],HGX.out,Ds.out⟩
      case measure=>exact Ai
  ·obtain rfl:k=G.length:=by omega
   have dl:decide ((G.length:Int)<(G.length:Int))=false:=by simp
   have HF:=A3 (show (r1,r2)=if sw≠1∨ss≠1∨sf=false then (0,false) else (sb,true) by rw [←HR.out,HS.out];unfold Mg;rw [A6 U9.out]);clear hg hb;rcases sf with _|_
   ·have HN:=A3 (show (r1,r2)=(0,false) by rw [HF.out,A9 (.inr (.inr rfl))])
    go_wp2_with fail;all_goals
     go_ret2;refine⟨?_,HB.out⟩;have h:=HN.out;injection h with h2 h3;rw [h2,h3];rfl
   ·by_cases e1:sw=1
    ·by_cases e2:ss=1
     ·have HN:=A3 (show (r1,r2)=(sb,true) by rw [HF.out,A6 (by simp [e1,e2])])
      subst e1 e2;go_wp2_with fail;go_ret2;refine⟨?_,HB.out⟩;have h:=HN.out;injection h with h2 h3;rw [h2,h3];rfl
     ·have HN:=A3 (show (r1,r2)=(0,false) by rw [HF.out,A9 (.inr (.inl e2))])
      have HE:=A3 e2;clear e2;subst e1;go_wp2_with fail
      ·exact absurd A0 HE.out
      ·go_ret2
       refine⟨?_,HB.out⟩;have h:=HN.out;injection h with h2 h3;rw [h2,h3];rfl
    ·have HN:=A3 (show (r1,r2)=(0,false) by rw [HF.out,A9 (.inl e1)])
     have HE:=A3 e1;clear e1;go_wp2_with fail
     ·exact absurd A0 HE.out
     ·exact absurd A0 HE.out
     ·go_ret2
      refine⟨?_,HB.out⟩;have h:=HN.out;injection h with h2 h3;rw [h2,h3];rfl
section
def IX (l:List Ins):List Value:=l.flatMap NC
theorem atu (l:List Ins) (y:Ins):IX (l++[y])=IX l++NC y:=by simp [IX]
theorem gJ:∀(Q:List Ins) (k j:Nat) (q:Ins),Q[k]?=some q→j<5→(IX Q)[k*5+j]?=(NC q)[j]?
 | y :: Q,0,j,q,h,hj=>by
  simp at h;subst h;have e:IX (y :: Q)=NC y++IX Q:=by simp [IX]
  rw [e,Tl,Er,Kr (by simpa [NC] using hj)]
 | y :: Q,k+1,j,q,h,hj=>by
  have h':Q[k]?=some q:=by simpa using h
  have e:IX (y :: Q)=NC y++IX Q:=by simp [IX]
  rw [e,Jg (by simp [NC];omega),show (k+1)*5+j - (NC y).length=k*5+j by simp [NC];omega];exact gJ Q k j q h' hj
theorem yZ {w:World} {B:Nat} {v:Value} {l:List Ins} (h:w.ownsRow B 67 5 v l.length (IX l)):Wy w v l:=by
 rcases h.2 with⟨rfl,h0⟩|⟨g,cap,cur,rfl,_,hg,h1,h2,_,_⟩
 ·exact⟨none,0,by rw [h0],by omega,by unfold maxLen;omega,fun h=>by omega⟩
 ·refine⟨_,cap,rfl,h1,h2,fun _=>⟨g,0,rfl,(Bl.1 hg).1,fun k c hk j u hu=>?_⟩⟩
  have DK:=(Bc.1 hk).1;have hj:j<5:=by
   have:=(Bc.1 hu).1;simpa [NC] using this
  rw [Er,h.cellAt _ A0,gJ l k j c hk hj,hu]
structure J7 (B:Nat) (wr:World) (pg n:Nat) (val:Nat→Value) (Ah:Nat→List Ins):Prop where
 C8:wr.ownsRow B 144 1 (.slice (some ⟨pg,0,none⟩) n n) n ((List.range n).map fun i=>val i)
 own:∀i,i<n→wr.ownsRow B 67 5 (val i) (Ah i).length (IX (Ah i))
 FR:∀i j,i<n→j<n→i≠j→∀q,(val i).ownBlock=some q→(val j).ownBlock≠some q
section
variable {B:Nat} {wr:World} {pg n:Nat} {val:Nat→Value} {Ah:Nat→List Ins}
theorem J7.below {wr':World} (h:J7 B wr pg n val Ah) (hb:Below wr.heap.size wr wr'):J7 B wr' pg n val Ah:=
 ⟨CS h.C8 hb,fun i hi=>CS (h.own i hi) hb,h.FR⟩
theorem J7.rg (h:J7 B wr pg n val Ah):B≤pg∧pg<wr.heap.size:=h.C8.lt pg rfl
theorem J7.cells (h:J7 B wr pg n val Ah) {i:Nat} (hi:i<n):wr.cell? ⟨pg,i,none⟩=some (val i)∧wr.frozen? ⟨pg,i,none⟩=false:=
 ⟨by rw [h.C8.cellAt _ A0,D8,FI hi];rfl,h.C8.frozenAt _⟩
theorem J7.made {W':World} (hr:W'.ownsRow B 144 1 (.slice (some ⟨pg,0,none⟩) n n) n (List.replicate n (.slice none 0 0))):J7 B W' pg n (fun _=>.slice none 0 0) (fun _=>[]):=by
 refine⟨?_,fun i hi=>NK _ _ _ _,fun i j hi hj _ q hq=>by cases hq⟩;have e:((List.range n).map fun _=>Value.slice none 0 0)=List.replicate n (Value.slice none 0 0):=by
  apply JR;intro q;by_cases hq:q<n
  ·simp [hq]
  ·simp [hq]
 rw [e];exact hr
theorem J7.kept {w2:World} {row:Option Nat} (h:J7 B wr pg n val Ah) (hg:wr.grownBy w2 row) (hp:row≠some pg) (hv:∀i,i<n→∀q,(val i).ownBlock=some q→row≠some q):J7 B w2 pg n val Ah:=
 ⟨h.C8.kept hg (.inr fun e=>hp e.symm),fun i hi=>(h.own i hi).kept hg (by
  cases e:(val i).ownBlock with
  | none=>exact .inl rfl
  | some q=>exact .inr fun e'=>hv i hi q e e'.symm),h.FR⟩
theorem J7.app {w2 W':World} {i:Nat} {y:Ins} {v':Value} (h:J7 B wr pg n val Ah) (hi:i<n) (hb:Below wr.heap.size wr w2) (hg:w2.grownBy W' (val i).ownBlock)
  (hown:W'.ownsRow B 67 5 v' ((Ah i).length+1) (IX (Ah i++[y]))) (DY:v'.ownBlock=(val i).ownBlock∨v'.ownBlock=some w2.heap.size) :
  J7 B (W'.setCell ⟨pg,i,none⟩ v') pg n (upd val i v') (upd Ah i (Ah i++[y])):=by
 have G:=grown_of hb hg;have S:=Hz W' pg i v';obtain⟨p1,p2⟩:=h.rg;have oi:=h.own i hi;have ob:∀q,(val i).ownBlock=some q→B≤q∧q≠pg:=fun q hq=>⟨(oi.lt q hq).1,fun e=>Fs oi h.C8 AP q hq NF⟩;have p':W'.ownsRow B 144 1 (.slice (some ⟨pg,0,none⟩) n n) n ((List.range n).map fun i=>val i):=h.C8.kept G (.inr (fun e'=>(ob pg e'.symm).2 rfl));have PG:∀q,v'.ownBlock=some q→q≠pg:=fun q hq e=>Fs hown p' AP q hq NF;refine⟨?_,fun j hj=>?_,fun a c ha hc hac q hq=>?_⟩
 ·rw [←kJ n val hi v']
  exact (p'.stored i v').1
 ·unfold upd
  by_cases e:j=i
  ·subst e
   rw [A9 rfl,A9 rfl];rw [show (Ah j++[y]).length=(Ah j).length+1 by simp];exact hown.kept S (by
    cases hv:v'.ownBlock with
    | none=>exact .inl rfl
    | some q=>exact .inr (fun e'=>PG q hv bg))
  ·rw [A6 e,A6 e]
   refine ((h.own j hj).kept G ?_).kept S ?_
   ·cases hv:(val j).ownBlock with
    | none=>exact .inl rfl
    | some q=>exact .inr (fun e'=>h.FR i j hi hj (fun e2=>e e2.symm) q e'.symm hv)
   ·cases hv:(val j).ownBlock with
    | none=>exact .inl rfl
    | some q=>
     refine .inr (fun e'=>?_);have SJ:q=pg:=by simpa using e'
     exact Fs (h.own j hj) h.C8 AP q hv (by rw [SJ];rfl)
 ·have new:∀a,a<n→a≠i→∀q,v'.ownBlock=some q→(val a).ownBlock≠some q:=fun a ha hai q hq hq2=>by
   rcases DY with h1|h1
   ·rw [h1] at hq
    exact h.FR i a hi ha (fun e=>hai e.symm) q hq hq2
   ·rw [h1] at hq
    cases hq;have:=((h.own a ha).lt _ hq2).2;have:=hb.size;omega
  unfold upd at hq ⊢;by_cases e1:a=i
  ·rw [A9 e1] at hq
   rw [A6 (fun e=>hac (e1.trans e.symm))];exact new c hc (fun e=>hac (e1.trans e.symm)) q hq
  ·rw [A6 e1] at hq
   by_cases e2:c=i
   ·rw [A9 e2]
    exact fun hq2=>new a ha e1 q hq2 hq
   ·rw [A6 e2]
    exact h.FR a c ha hc hac q hq
theorem J7.at3 (h:J7 B wr pg n val Ah):Xh wr (.slice (some ⟨pg,0,none⟩) n n) ((List.range n).map Ah):=by
 have pc:n≤maxLen:=by
  rcases h.C8.2 with⟨e,_⟩|⟨_,_,_,e,_,_,h1,h2,_⟩
  ·cases e
  ·cases e;exact h2
 refine⟨_,n,by simp,by simp,pc,fun _=>⟨pg,0,rfl,h.rg.2,fun i x hx=>?_⟩⟩;rw [D8] at hx;have hi:i<n:=by
  by_cases hi:i<n
  ·exact hi
  ·rw [Dy WV] at hx;cases hx
 rw [FI hi] at hx;simp only [YS,MG] at hx;subst hx;exact⟨val i,by rw [Er];exact (h.cells hi).1,yZ (h.own i hi)⟩
end
end
section
theorem Dg.lo {n:Nat}:∀ {l:List AU} {a z:Int},Dg n a l z→0≤a→∀x∈l,0≤x.lo
 | y :: l,a,z,h,h0,x,hx=>by
  have h1:=h.1.lo;have h2:=h.1.hi;rcases Da.1 hx with rfl|hx
  ·omega
  ·exact Dg.lo h.2 A0 x hx
def iJ (n:Nat) (cd:Nat→Int) (x:AU):Prop:=∀a:Nat,x.lo≤(a:Int)→(a:Int)<x.hi→a<n∧(Ba (cd a)).2=0
def Mx (n:Nat) (cd:Nat→Int) (G:List AU):Prop:=∀x∈G,iJ n cd x
def KF (cd:Nat→Int) (G:List AU):List (List Ins):=(List.range G.length).map (Cf cd G)
def Fz (cd:Nat→Int) (G:List AU):List Bool:=(KF cd G).map fun l=>l.any Hf
theorem zI (cd:Nat→Int) (G:List AU):(KF cd G).length=G.length:=by simp [KF]
theorem abF (n:Nat) (f:Nat→Bool) (b:Nat) (x:Bool):((List.range n).map fun i=>Value.bool (f i)).set b (.bool x)=(List.range n).map fun i=>Value.bool (upd f b x i):=by
 apply KC
 ·simp
 ·intro i h1 h2
  rw [U8];simp only [UE,Ug,upd];by_cases e:b=i
  ·rw [A9 e,A9 e.symm]
  ·rw [A6 e,A6 (ED e)]
structure Ez (V wr:World) (sp cb rb n:Nat) (bv pv:Value) (val:Nat→Value) (Ah:Nat→List Ins) (rl:Nat→Bool):Prop where
 AA:Below V.heap.size V wr
 sV:V.heap.size≤sp
 rV:V.heap.size≤rb
 head:wr.heap[sp]?=some (.cells #[bv,pv,.slice (some ⟨cb,0,none⟩) n n,.slice (some ⟨rb,0,none⟩) n n,.slice none 0 0] 159 (0,0))
 pm:J7 V.heap.size wr cb n val Ah
 E6:wr.heap[rb]?=some (.cells ((List.range n).map fun i=>Value.bool (rl i)).toArray 4 (0,0))
section
variable {V wr:World} {sp cb rb n:Nat} {bv pv:Value} {val:Nat→Value} {Ah:Nat→List Ins} {rl:Nat→Bool}
theorem Ez.lt (h:Ez V wr sp cb rb n bv pv val Ah rl):sp<wr.heap.size∧cb<wr.heap.size∧rb<wr.heap.size:=⟨Ak h.head,h.pm.rg.2,Ak h.E6⟩
theorem Ez.below {wr':World} (h:Ez V wr sp cb rb n bv pv val Ah rl) (hb:Below wr.heap.size wr wr'):Ez V wr' sp cb rb n bv pv val Ah rl:=by
 obtain⟨l1,l2,l3⟩:=h.lt;exact⟨h.AA.trans (hb.mono h.AA.size),h.sV,h.rV,(hb.block _ l1).trans h.head,h.pm.below hb,(hb.block _ l3).trans h.E6⟩
theorem Ez.cells (h:Ez V wr sp cb rb n bv pv val Ah rl):wr.cell? ⟨sp,0,none⟩=some bv∧wr.cell? ⟨sp,1,none⟩=some pv∧wr.cell? ⟨sp,2,none⟩=some (.slice (some ⟨cb,0,none⟩) n n)∧wr.cell? ⟨sp,3,none⟩=some (.slice (some ⟨rb,0,none⟩) n n):=by
 refine⟨?_,?_,?_,?_⟩<;>simp [World.cell?,h.head]
theorem Ez.rat (h:Ez V wr sp cb rb n bv pv val Ah rl) {i:Nat} (hi:i<n):wr.cell? ⟨rb,i,none⟩=some (.bool (rl i))∧wr.frozen? ⟨rb,i,none⟩=false:=by
 constructor
 ·simp [World.cell?,h.E6,hi]
 ·simp [World.frozen?,h.E6]
theorem Ez.Jj (h:Ez V wr sp cb rb n bv pv val Ah rl) {i:Nat} (hi:i<n):∀q,(val i).ownBlock=some q→V.heap.size≤q∧q≠sp∧q≠cb∧q≠rb:=fun q hq=>by
 have oi:=h.pm.own i hi;obtain⟨cs,hc⟩:=LS oi hq;exact⟨(oi.lt q hq).1,Dh hc h.head AP,fun e=>Fs oi h.pm.C8 AP q hq NF,Dh hc h.E6 AP⟩
theorem Ez.WD (h:Ez V wr sp cb rb n bv pv val Ah rl):sp≠cb∧rb≠cb∧sp≠rb:=by
 obtain⟨cs,hc⟩:=LS h.pm.C8 (q:=cb) rfl;exact⟨Dh h.head hc AP,Dh h.E6 hc AP,Dh h.head h.E6 AP⟩
theorem Ez.app {w2 W':World} {i:Nat} {y:Ins} {v':Value} (h:Ez V wr sp cb rb n bv pv val Ah rl) (hi:i<n) (hb:Below wr.heap.size wr w2) (hg:w2.grownBy W' (val i).ownBlock)
  (hown:W'.ownsRow V.heap.size 67 5 v' ((Ah i).length+1) (IX (Ah i++[y]))) (DY:v'.ownBlock=(val i).ownBlock∨v'.ownBlock=some w2.heap.size) :
  Ez V (W'.setCell ⟨cb,i,none⟩ v') sp cb rb n bv pv (upd val i v') (upd Ah i (Ah i++[y])) rl:=by
 have G:=grown_of hb hg;have S:=Hz W' cb i v';obtain⟨l1,l2,l3⟩:=h.lt;obtain⟨c1,c2,c3⟩:=h.WD;have MJ:=h.AA.size;have Iz:=G.size;have ob:=h.Jj hi;have p1:=h.pm.rg.1;have same:∀k,k<wr.heap.size→k≠cb→(∀q,(val i).ownBlock=some q→k≠q)→(W'.setCell ⟨cb,i,none⟩ v').heap[k]?=wr.heap[k]?:=fun k hk hkc hkq=>by
  rw [Bb _ _ _ _ (by show k≠cb;exact hkc)];exact G.block k hk (fun e=>hkq k e.symm rfl)
 exact⟨(h.AA.grown G MJ (fun k hk=>(ob k hk).1)).grown S A0 (fun k hk=>by cases hk;exact p1),h.sV,h.rV,(same sp l1 c1 (fun q hq=>(ob q hq).2.1.symm)).trans h.head,h.pm.app hi hb hg hown DY,(same rb l3 c2 (fun q hq=>(ob q hq).2.2.2.symm)).trans h.E6⟩
theorem Ez.mark (h:Ez V wr sp cb rb n bv pv val Ah rl) (i:Nat) (x:Bool):Ez V (wr.setCell ⟨rb,i,none⟩ (.bool x)) sp cb rb n bv pv val Ah (upd rl i x):=by
 have S:=Hz wr rb i (.bool x);obtain⟨l1,l2,l3⟩:=h.lt;obtain⟨c1,c2,c3⟩:=h.WD;have MJ:=h.AA.size;refine⟨h.AA.grown S MJ (fun k hk=>by cases hk;exact h.rV),h.sV,h.rV,?_,h.pm.kept S (fun e=>c2 (by simpa using e)) (fun j hj q hq e=>(h.Jj hj q hq).2.2.2 (by simpa using e.symm)),?_⟩
 ·rw [Bb _ _ _ _ (by show sp≠rb;exact c3)];exact h.head
 ·rw [Cl _ _ _ _ _ _ h.E6,Ax,abF]
theorem Ez.done {W':World} {G:List AU} {dv:Value} {D:List Int} (h:Ez V wr sp cb rb n bv pv val Ah rl) (hb:Below wr.heap.size wr W') (hB:E7 V bv G) (hG:G.length=n) (hI:Ints W' dv D) (hD:D.length=n) (EP:∃A k c,bv=.slice A k c) (hpv:∃A k c,pv=.slice A k c) :
  Lu (W'.setCell ⟨sp,4,none⟩ dv) sp bv pv (.slice (some ⟨cb,0,none⟩) n n) (.slice (some ⟨rb,0,none⟩) n n) dv G ((List.range n).map Ah) ((List.range n).map rl) D:=by
 have h':=h.below hb;have S:=Hz W' sp 4 dv;obtain⟨l1,l2,l3⟩:=h'.lt;obtain⟨c1,c2,c3⟩:=h'.WD;have hpm:=h'.pm.kept S (fun e=>c1 (by simpa using e)) (fun j hj q hq e=>(h'.Jj hj q hq).2.1 (by simpa using e.symm));have hbl:Below V.heap.size V (W'.setCell ⟨sp,4,none⟩ dv):=h'.AA.grown S h'.AA.size (fun k hk=>by cases hk;exact h.sV);have hmx:n≤maxLen:=by
  rcases h.pm.C8.2 with⟨e,_⟩|⟨_,_,_,e,_,_,h1,h2,_⟩
  ·cases e
  ·cases e;exact h2
 refine⟨?_,hB.below hbl,by have:=hpm.at3;exact this,?_,?_,by simp [hG],by simp [hG],by rw [hD,hG]⟩
 ·rw [Cl _ _ _ _ _ _ h'.head];rfl
 ·refine⟨some ⟨rb,0,none⟩,n,by simp,by simp,hmx,fun _=>⟨rb,0,rfl,by have:=S.size;omega,fun k hk=>?_⟩⟩
  have hk':k<n:=by simpa using hk
  have hr:(W'.setCell ⟨sp,4,none⟩ dv).heap[rb]?=some (.cells ((List.range n).map fun i=>Value.bool (rl i)).toArray 4 (0,0)):=by
   rw [Bb _ _ _ _ (by show rb≠sp;exact c3.symm)];exact h'.E6
  simp [World.cell?,hr,hk',List.getD]
 ·obtain⟨A,cap,e3,h1,h2,h4⟩:=hI
  refine⟨A,cap,e3,h1,h2,fun h0=>?_⟩;obtain⟨b,o,e5,h6,h7⟩:=h4 h0;have hne:b≠sp:=fun e=>by
   subst e;have h8:=h7 0 h0;obtain⟨a1,k1,d1,rfl⟩:=EP;obtain⟨a2,k2,d2,rfl⟩:=hpv;have h9:∀(j:Nat) (v:Value),(#[Value.slice a1 k1 d1,Value.slice a2 k2 d2,.slice (some ⟨cb,0,none⟩) n n,.slice (some ⟨rb,0,none⟩) n n,.slice none 0 0]:Array Value)[j]?=some v→∃A k c,v=Value.slice A k c:=fun j v hv=>by
    match j,hv with
    | 0,hv=>simp at hv;exact⟨_,_,_,hv.symm⟩
    | 1,hv=>simp at hv;exact⟨_,_,_,hv.symm⟩
    | 2,hv=>simp at hv;exact⟨_,_,_,hv.symm⟩
    | 3,hv=>simp at hv;exact⟨_,_,_,hv.symm⟩
    | 4,hv=>simp at hv;exact⟨_,_,_,hv.symm⟩
    | j+5,hv=>simp at hv
   have h10:W'.cell? ⟨b,o+0,none⟩=_:=h8;simp only [World.cell?,h'.head] at h10;obtain⟨_,_,_,h11⟩:=h9 _ _ h10;cases h11
  refine⟨b,o,e5,by have:=S.size;omega,fun k hk=>?_⟩;rw [←h7 k hk];exact World.cell?_setCell_far _ _ _ _ (fun e=>hne e.symm)
end
end
end Go.Proofs.YtlmgkipmfgijiaaGreatDoor
