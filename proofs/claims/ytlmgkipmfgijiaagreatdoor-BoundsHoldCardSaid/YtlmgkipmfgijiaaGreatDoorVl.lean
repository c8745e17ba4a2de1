/-
  What is proved here: parts aDef, aPot, aMem, aFn1, aTr, aCb, aPot2, aAn, aRf, aTr2, aTr3, aAf.
-/
import Derived.Test.YtlmgkipmfgijiaaGreatDoorVa
import Derived.Test.YtlmgkipmfgijiaaGreatDoorVh
import Derived.Test.YtlmgkipmfgijiaaGreatDoorVc
import Derived.Deep.MidRow
import Derived.Deep.WholeRow
import Derived.Test.YtlmgkipmfgijiaaGreatDoorVg
import Derived.Test.YtlmgkipmfgijiaaGreatDoorVb
import Derived.Deep.QuietTactic
import Derived.BigQuiet
import Derived.Laws.CopyOwn
import Derived.Test.YtlmgkipmfgijiaaGreatDoorVd
namespace Go.Proofs.YtlmgkipmfgijiaaGreatDoor
set_option linter.unusedVariables false
set_option linter.unusedSimpArgs false
set_option maxRecDepth 100000
set_option maxHeartbeats 8000000
open Go.RowKit
abbrev RG:=List (Int×Int)
def AE (r:RG):List Value:=r.flatMap fun x=>[.int .i32 x.1,.int .i32 x.2]
def Aj:RG:=List.replicate 16 (0,0)
def rg (r:RG) (k:Int):Int×Int:=r.getD k.toNat (0,0)
def Cr (r:RG) (k:Int) (x:Int×Int):RG:=if k=0 then r else r.set k.toNat x
structure R16 (r:RG):Prop where
 len:r.length=16
 wi:∀x∈r,AL x.1∧AL x.2
def En (r:RG):Bool:=r.all (fun x=>decide (x.1≤x.2)) && decide (rg r 0=(0,0))
def Lm (op:Int):Int:=if op=13 then 18 else op+4
def Yq:Int×Int:=(-2147483648,2147483647)
def Hu (i:Ins) (r:RG):Option RG:=
 if CW i=true∧En r=true then
  if 2≤i.op∧i.op≤13 then
   if (i.op=5∨i.op=6)∧rg r i.c=(0,0) then none else some (Cr r i.a (Dr (Lm i.op) (rg r i.b) (rg r i.c)))
  else if i.op=14 then some (Cr r i.a (i.AD,i.AD))
  else if i.op=15 then some (Cr r i.a (Dr 6 (rg r i.b) (i.AD,i.AD)))
  else if i.op=16 then some (Cr r i.a (Dr 14 (rg r i.b) (i.AD,i.AD)))
  else if i.op=17 then some (Cr r i.a (Dr 12 (rg r i.b) (i.AD,i.AD)))
  else if i.op=18∨i.op=20∨i.op=26 then some (Cr r i.a Yq)
  else if i.op=25 then (if emp (Ao (rg r i.a) (0,i.AD - 1))=true then none else some (Cr r i.a (Ao (rg r i.a) (0,i.AD - 1))))
  else some r
 else none
def Oo (x:Int×Int):Int×Int:=if x=(0,0) then (1,0) else if x.1=0 then (1,x.2) else if x.2=0 then (x.1,-1) else x
def Ij (op:Int) (taken:Bool) (x:Int×Int):Int×Int:=if (taken==decide (op=22))=true then Ao x (0,0) else Oo x
def Cx (i:Ins) (r:RG) (taken:Bool):Option RG:=
 if CW i=true∧En r=true then
  if i.op=22∨i.op=23 then (if emp (Ij i.op taken (rg r i.a))=true then none else some (Cr r i.a (Ij i.op taken (rg r i.a))))
  else if i.op=24 then (if taken=true then some r else none)
  else if taken=true then none else some r
 else none
def Cb (x y:RG):RG:=List.zipWith Cc x y
def Hw (x y:RG):RG:=List.zipWith Bi x y
def Dc:List Ins→RG→Option RG
 | [],r=>some r
 | i :: l,r=>match Hu i r with
  | none=>none
  | some r'=>Dc l r'
def ES (last:Ins) (m k:Nat) (r:RG):Option RG:=
 if ¬(last.op=22∨last.op=23) then some r
 else if m=2 then Cx last r (decide (k=1))
 else match Cx last r false,Cx last r true with
  | none,y=>y
  | some x,none=>some x
  | some x,some y=>some (Cb x y)
structure AS where
 reach:List Bool
 AG:List RG
 rep:List Int
def Ew (s:AS) (t:Nat):Option RG→AS×Bool
 | none=>(s,false)
 | some r=>
  if s.reach.getD t false=false then (⟨s.reach.set t true,s.AG.set t r,s.rep⟩,true)
  else if Cb (s.AG.getD t []) r=s.AG.getD t [] then (s,false)
  else (⟨s.reach,s.AG.set t (if 2≤s.rep.getD t 0 then Hw (s.AG.getD t []) (Cb (s.AG.getD t []) r) else Cb (s.AG.getD t []) r),s.rep.set t (s.rep.getD t 0+1)⟩,true)
def FU (last:Ins) (nx:List Int) (AX:RG) (s:AS):Nat→AS×Bool
 | 0=>(s,false)
 | k+1=>let p:=FU last nx AX s k;let q:=Ew p.1 (nx.getD k 0).toNat (ES last nx.length k AX);(q.1,p.2 || q.2)
structure AB where
 code:List Ins
 nx:List Int
def AB.last (b:AB):Ins:=b.code.getD (b.code.length - 1) ⟨0,0,0,0,0⟩
def Fh (b:AB) (n:Nat) (s:AS):AS×Bool:=match Dc b.code (s.AG.getD n []) with
 | none=>(s,false)
 | some AX=>FU b.last b.nx AX s b.nx.length
def D5 (B:List AB) (s:AS):Nat→AS×Bool
 | 0=>(s,false)
 | n+1=>let p:=D5 B s n;if p.1.reach.getD n false=true then (let q:=Fh (B.getD n ⟨[],[]⟩) n p.1;(q.1,p.2 || q.2)) else p
inductive Ends (B:List AB):AS→AS→Prop
 | done {s:AS} (h:(D5 B s B.length).2=false):Ends B s (D5 B s B.length).1
 | more {s s':AS} (h:(D5 B s B.length).2=true) (k:Ends B (D5 B s B.length).1 s'):Ends B s s'
theorem Ends.RP {B:List AB} {s a b:AS} (h:Ends B s a) (k:Ends B s b):a=b:=by
 induction h with
 | done h=>cases k with
  | done _=>rfl
  | more h' _=>rw [h] at h';cases h'
 | more h _ ih=>cases k with
  | done h'=>rw [h] at h';cases h'
  | more _ k'=>exact ih k'
def EI (n:Nat):AS:=⟨(List.replicate n false).set 0 true,List.replicate n Aj,List.replicate n 0⟩
def Ee (b:AB) (n k:Nat) (r:RG):List (Int×Int):=match Dc b.code r with
 | none=>((b.nx.take k).map fun t=>((n:Int),t))
 | some AX=>((List.range k).filter fun j=>(ES b.last b.nx.length j AX).isNone).map fun j=>((n:Int),b.nx.getD j 0)
def Em (B:List AB) (s:AS) (n:Nat):List (Int×Int):=(List.range n).flatMap fun j=>if s.reach.getD j false=true then Ee (B.getD j ⟨[],[]⟩) j (B.getD j ⟨[],[]⟩).nx.length (s.AG.getD j []) else []
theorem R16.at_ {r:RG} (h:R16 r) (k:Int):AL (rg r k).1∧AL (rg r k).2:=by
 unfold rg;by_cases hk:k.toNat<r.length
 ·have e:r.getD k.toNat (0,0)=r[k.toNat]:=by simp [List.getD,Ab hk]
  rw [e];exact h.wi _ (CQ hk)
 ·have e:r.getD k.toNat (0,0)=(0,0):=by simp [List.getD,Dy (kF hk)]
  rw [e];unfold AL;simp only;omega
theorem R16.set {r:RG} (h:R16 r) (k:Nat) {x:Int×Int} (hx:AL x.1∧AL x.2):R16 (r.set k x):=
 ⟨by rw [LB];exact h.len,fun y hy=>by rcases VQ hy with h1|rfl;exact h.wi _ h1;exact hx⟩
theorem R16.Cr {r:RG} (h:R16 r) (k:Int) {x:Int×Int} (hx:AL x.1∧AL x.2):R16 (Cr r k x):=by
 unfold Go.Proofs.YtlmgkipmfgijiaaGreatDoor.Cr;split
 ·exact h
 ·exact h.set _ hx
theorem R16.zero:R16 Aj:=⟨by simp [Aj],fun x hx=>by rw [(YW.1 hx).2];unfold AL;simp only;omega⟩
def Kz (x:Int×Int):Nat:=if x.2<x.1 then (if x=(1,0) then 3 else 4) else (if -2147483648<x.1 then 1 else 0)+(if x.2<2147483647 then 1 else 0)
def Jf (r:RG):Nat:=(r.map Kz).sum
def J3 (s:AS) (k:Nat):Nat:=if s.reach.getD k false=false then 70 else (2 - (s.rep.getD k 0).toNat)+Jf (s.AG.getD k [])
def Gq (s:AS) (n:Nat):Nat:=((List.range n).map (J3 s)).sum
theorem zC (x:Int×Int):Kz x≤4:=by unfold Kz;split<;>split<;>(try split)<;>omega
theorem zN {x y:Int×Int} (hx:AL x.1∧AL x.2) (hy:AL y.1∧AL y.2):AL (Cc x y).1∧AL (Cc x y).2:=by
 unfold Cc AL at *;split<;>split<;>first|omega|(simp only;omega)
theorem yV {x y:Int×Int} (hx:AL x.1∧AL x.2) (hy:AL y.1∧AL y.2):AL (Bi x y).1∧AL (Bi x y).2:=by
 unfold Bi AL at *;split
 ·split<;>first|omega|(simp only;omega)
 ·split
  ·exact hx
  ·simp only
   constructor<;>split<;>omega
theorem afT {x y:Int×Int} (hx:AL x.1∧AL x.2) (hy:AL y.1∧AL y.2):Kz (Cc x y)≤Kz x:=by
 obtain⟨a,b⟩:=x;obtain⟨c,d⟩:=y;unfold AL at hx hy;simp only at hx hy;unfold Cc emp Kz;by_cases h1:b<a<;>by_cases h2:d<c<;>simp only [h1,h2,decide_true,decide_false,QW,Lc,NJ,cX]
 ·simp;split<;>omega
 ·split<;>split<;>split<;>omega
 ·exact AH _
 ·rw [A6 A0]
  split<;>split<;>split<;>split<;>omega
theorem asA {x y:Int×Int} (hx:AL x.1∧AL x.2) (hy:AL y.1∧AL y.2):Kz (Bi x (Cc x y))≤Kz x∧(Cc x y≠x→Kz (Bi x (Cc x y))<Kz x):=by
 obtain⟨a,b⟩:=x;obtain⟨c,d⟩:=y;unfold AL at hx hy;simp only at hx hy;by_cases h1:b<a
 ·by_cases h2:d<c
  ·have e:Cc (a,b) (c,d)=(1,0):=by unfold Cc emp;simp [h1,h2]
   have e2:Bi (a,b) (1,0)=(1,0):=by unfold Bi emp;simp [h1]
   rw [e,e2];have e3:Kz (1,0)=3:=by unfold Kz;simp
   rw [e3];unfold Kz;simp only [h1,QW];refine⟨by split<;>omega,fun hn=>?_⟩;rw [A6 (fun h=>hn h.symm)];omega
  ·have e:Cc (a,b) (c,d)=(c,d):=by unfold Cc emp;simp [h1,h2]
   have e2:Bi (a,b) (c,d)=(c,d):=by unfold Bi emp;simp [h1,h2]
   rw [e,e2];unfold Kz;simp only [h1,h2,QW,Lc];constructor
   ·split<;>split<;>split<;>omega
   ·intro _;split<;>split<;>split<;>omega
 ·by_cases h2:d<c
  ·have e:Cc (a,b) (c,d)=(a,b):=by unfold Cc emp;simp [h1,h2]
   have e2:Bi (a,b) (a,b)=(a,b):=by unfold Bi emp;simp [h1]
   rw [e,e2];exact⟨AH _,fun h=>absurd rfl h⟩
  ·have e:Cc (a,b) (c,d)=(min a c,max b d):=by unfold Cc emp;simp [h1,h2]
   have h3:¬max b d<min a c:=by omega
   have e2:Bi (a,b) (min a c,max b d)=(if min a c<a then -2147483648 else a,if b<max b d then 2147483647 else b):=by unfold Bi emp;simp [h1,h3]
   rw [e,e2];unfold Kz;simp only [h1,Lc];have h4:¬(if b<max b d then (2147483647:Int) else b)<(if min a c<a then -2147483648 else a):=by (repeat' split)<;>omega
   have z1:¬((-2147483648:Int) < -2147483648):=by decide
   have z2:¬((2147483647:Int)<2147483647):=by decide
   rw [A6 h4];simp only [ne_eq,cX,not_and];by_cases q1:min a c<a<;>by_cases q2:b<max b d<;>simp only [q1,q2,QW,Lc,z1,z2]
   ·refine⟨by (repeat' split)<;>omega,fun _=>?_⟩
    rw [A9 (show -2147483648<a by omega),A9 (show b<2147483647 by omega)];decide
   ·refine⟨by (repeat' split)<;>omega,fun _=>?_⟩
    rw [A9 (show -2147483648<a by omega)];split<;>omega
   ·refine⟨by (repeat' split)<;>omega,fun _=>?_⟩
    rw [A9 (show b<2147483647 by omega)];split<;>omega
   ·exact⟨AH _,fun h=>absurd (show max b d=b by omega) (h A0)⟩
theorem R16.join {x y:RG} (hx:R16 x) (hy:R16 y):R16 (Cb x y):=
 ⟨by simp [Cb,hx.len,hy.len],fun z hz=>by
  obtain⟨i,hi,e⟩:=Rk hz;simp only [Cb,qB] at hi;simp only [Cb,List.getElem_zipWith] at e;rw [←e]
  exact zN (hx.wi _ (CQ _)) (hy.wi _ (CQ _))⟩
theorem R16.Xg {x y:RG} (hx:R16 x) (hy:R16 y):R16 (Hw x y):=
 ⟨by simp [Hw,hx.len,hy.len],fun z hz=>by
  obtain⟨i,hi,e⟩:=Rk hz;simp only [Hw,qB] at hi;simp only [Hw,List.getElem_zipWith] at e;rw [←e]
  exact yV (hx.wi _ (CQ _)) (hy.wi _ (CQ _))⟩
theorem oN:∀ {x y:RG},x.length=y.length→(∀z∈x,AL z.1∧AL z.2)→(∀z∈y,AL z.1∧AL z.2)→Jf (Cb x y)≤Jf x
 | [],[],_,_,_=>AH _
 | a :: x,b :: y,hl,hx,hy=>by
  have ih:=oN (x:=x) (y:=y) dS (fun z hz=>hx z (Fu _ hz)) (fun z hz=>hy z (Fu _ hz));have h:=afT (hx a (Lf ..)) (hy b (Lf ..));simp only [Cb,Jf,List.zipWith_cons_cons,XX,bK] at *;omega
theorem vB:∀ {x y:RG},x.length=y.length→(∀z∈x,AL z.1∧AL z.2)→(∀z∈y,AL z.1∧AL z.2)→Jf (Hw x (Cb x y))≤Jf x∧(Cb x y≠x→Jf (Hw x (Cb x y))<Jf x)
 | [],[],_,_,_=>⟨AH _,fun h=>absurd rfl h⟩
 | a :: x,b :: y,hl,hx,hy=>by
  obtain⟨i1,i2⟩:=vB (x:=x) (y:=y) dS (fun z hz=>hx z (Fu _ hz)) (fun z hz=>hy z (Fu _ hz));obtain⟨h1,h2⟩:=asA (hx a (Lf ..)) (hy b (Lf ..));simp only [Cb,Hw,Jf,List.zipWith_cons_cons,XX,bK,ne_eq,Y0,not_and] at *;refine⟨by omega,fun hn=>?_⟩;by_cases q:Cc a b=a
  ·have:=i2 (hn q);omega
  ·have:=h2 q;omega
theorem eY:∀ {r:RG},Jf r≤4*r.length
 | []=>AH _
 | a :: r=>by
  have ih:=eY (r:=r);have h:=zC a;simp only [Jf,XX,bK,IQ] at *;omega
structure JS (n:Nat) (s:AS):Prop where
 l1:s.reach.length=n
 l2:s.AG.length=n
 l3:s.rep.length=n
 r16:∀r∈s.AG,R16 r
 rep:∀x∈s.rep,0≤x∧x+(Gq s n:Int)≤70*(n:Int)
theorem wF {f g:Nat→Nat} {n t:Nat} (ht:t<n) (h:∀k,k≠t→g k=f k):((List.range n).map g).sum+f t=((List.range n).map f).sum+g t:=by
 induction n with
 | zero=>omega
 | succ n ih=>
  simp only [JT,Qh,XX,Xx,List.sum_append,bK,List.sum_nil];by_cases e:t=n
  ·subst e
   have:(List.range t).map g=(List.range t).map f:=SI fun k hk=>h k (by have:=Gp.1 hk;omega);rw [this];omega
  ·have:=ih A0
   rw [h n (fun e2=>e e2.symm)];omega
theorem JS.get {n:Nat} {s:AS} (h:JS n s) {t:Nat} (ht:t<n):R16 (s.AG.getD t []):=by
 have hl:t<s.AG.length:=by rw [h.l2];exact ht
 have e:s.AG.getD t []=s.AG[t]:=by simp [List.getD,Ab hl]
 rw [e];exact h.r16 _ (CQ hl)
theorem JS.VX {n:Nat} {s:AS} (h:JS n s) {t:Nat} (ht:t<n):0≤s.rep.getD t 0∧s.rep.getD t 0+(Gq s n:Int)≤70*(n:Int):=by
 have hl:t<s.rep.length:=by rw [h.l3];exact ht
 have e:s.rep.getD t 0=s.rep[t]:=by simp [List.getD,Ab hl]
 rw [e];exact h.rep _ (CQ hl)
theorem SS {α:Type} {l:List α} {t:Nat} {x d:α} (ht:t<l.length):(l.set t x).getD t d=x:=by simp [List.getD,ht]
theorem OH {α:Type} {l:List α} {t k:Nat} {x d:α} (hk:k≠t):(l.set t x).getD k d=l.getD k d:=by simp [List.getD,Gv,ED hk]
theorem Zf {n:Nat} {s:AS} (h:JS n s) {t:Nat} (ht:t<n) (o:Option RG) (ho:∀r,o=some r→R16 r):JS n (Ew s t o).1∧((Ew s t o).2=true→Gq (Ew s t o).1 n<Gq s n)∧((Ew s t o).2=false→(Ew s t o).1=s):=by
 cases o with
 | none=>exact⟨h,(fun e=>by cases e),fun _=>rfl⟩
 | some r=>
  have hr:=ho r rfl;have hg:=h.get ht;have Zn:=h.VX ht;unfold Ew;simp only;by_cases h1:s.reach.getD t false=false
  ·rw [A9 h1]
   have hp:Gq ⟨s.reach.set t true,s.AG.set t r,s.rep⟩ n<Gq s n:=by
    have hu:=wF (f:=J3 s) (g:=J3 ⟨s.reach.set t true,s.AG.set t r,s.rep⟩) ht (fun k hk=>by unfold J3;simp only;rw [OH hk,OH hk]);have e1:J3 s t=70:=by unfold J3;rw [A9 h1]
    have e2:J3 ⟨s.reach.set t true,s.AG.set t r,s.rep⟩ t≤66:=by
     unfold J3;simp only;rw [SS (by rw [h.l1];exact ht),SS (by rw [h.l2];exact ht)];have:=eY (r:=r);rw [hr.len] at this;simp;omega
    unfold Gq;omega
   refine⟨⟨by simp [h.l1],by simp [h.l2],h.l3,fun x hx=>?_,fun x hx=>?_⟩,fun _=>hp,(fun e=>by cases e)⟩
   ·rcases VQ hx with h2|rfl
    ·exact h.r16 _ h2
    ·exact hr
   ·have:=h.rep x hx
    dsimp only;omega
  ·rw [A6 h1]
   by_cases h2:Cb (s.AG.getD t []) r=s.AG.getD t []
   ·rw [A9 h2]
    exact⟨h,(fun e=>by cases e),fun _=>rfl⟩
   ·rw [A6 h2]
    simp only;obtain⟨j,hj⟩:=A8 (if 2≤s.rep.getD t 0 then Hw (s.AG.getD t []) (Cb (s.AG.getD t []) r) else Cb (s.AG.getD t []) r);have mz:=hg.join hr;have aq1:R16 j:=by rw [←hj];split;exact hg.Xg mz;exact mz
    have hjp:(2 - (s.rep.getD t 0+1).toNat)+Jf j<(2 - (s.rep.getD t 0).toNat)+Jf (s.AG.getD t []):=by
     have hlen:(s.AG.getD t []).length=r.length:=by rw [hg.len,hr.len]
     rw [←hj];split
     ·rename_i h3
      have:=(vB hlen hg.wi hr.wi).2 h2;omega
     ·have:=oN hlen hg.wi hr.wi
      omega
    rw [hj];have hp:Gq ⟨s.reach,s.AG.set t j,s.rep.set t (s.rep.getD t 0+1)⟩ n<Gq s n:=by
     have hu:=wF (f:=J3 s) (g:=J3 ⟨s.reach,s.AG.set t j,s.rep.set t (s.rep.getD t 0+1)⟩) ht (fun k hk=>by unfold J3;simp only;rw [OH hk,OH hk]);have e1:J3 s t=(2 - (s.rep.getD t 0).toNat)+Jf (s.AG.getD t []):=by unfold J3;rw [A6 h1]
     have e2:J3 ⟨s.reach,s.AG.set t j,s.rep.set t (s.rep.getD t 0+1)⟩ t=(2 - (s.rep.getD t 0+1).toNat)+Jf j:=by
      unfold J3;simp only;rw [SS (by rw [h.l3];exact ht),SS (by rw [h.l2];exact ht),A6 h1]
     unfold Gq;omega
    refine⟨⟨h.l1,by simp [h.l2],by simp [h.l3],fun x hx=>?_,fun x hx=>?_⟩,fun _=>hp,(fun e=>by cases e)⟩
    ·rcases VQ hx with h3|rfl
     ·exact h.r16 _ h3
     ·exact aq1
    ·rcases VQ hx with h3|rfl
     ·have:=h.rep x h3
      omega
     ·omega
section
theorem QC {P:Program} {ops:Array Oper} {rest:List Oper} {op:Oper} {a:Act} {w:World} {Q:Exit→Act→World→Prop} (hw:Region.wanted op (yielded ops a.tmps)=true) (ty:TypeId) (x:Operand) (ho:op.op=.load ty x)
  (b o:Nat) (hx:a.eval x=.pointer (some ⟨b,o,none⟩)) (cs:List Value) (d:TypeDesc) (hc:w.rangeAt b o cs)
  (hu:P.underlying ty=some d) (hd:d.isRow=true) (hi:(P.info? ty).map (·.size)=some cs.length)
  (h:wpList P ops Q rest (a.put op.dst (.agg cs.toArray)) w):wpList P ops Q (op :: rest) a w:=
 wpList_step fun K hK=>by simp only [hw,QW];exact wp_load_mid ty x ho b o hx cs d hc hu hd hi (hK _ _ h)
theorem Cp (r:RG):(AE r).length=r.length*2:=by
 induction r with
 | nil=>rfl
 | cons a l ih=>simp only [AE,Jy,G5,IQ] at *;rw [ih];simp;omega
theorem ak:∀(r:RG) (k j:Nat) (x:Int×Int),r[k]?=some x→j<2→(AE r)[k*2+j]?=[Value.int .i32 x.1,.int .i32 x.2][j]?
 | y :: L,0,j,x,h,hj=>by
  simp at h;subst h;unfold AE;rw [Jy,Tl,Er,Kr (by simpa using hj)]
 | y :: L,k+1,j,x,h,hj=>by
  have h':L[k]?=some x:=by simpa using h
  have ih:=ak L k j x h' hj;unfold AE at ih ⊢;rw [Jy,Jg CD,← ih];simp only [IQ,bk];congr 1
  omega
theorem qW:∀(r:RG) (k:Nat) (x:Int×Int),((AE r).set (k*2) (.int .i32 x.1)).set (k*2+1) (.int .i32 x.2)=AE (r.set k x)
 | [],k,x=>by simp [AE]
 | y :: L,0,x=>by simp [AE]
 | y :: L,k+1,x=>by
  have ih:=qW L k x;simp only [AE,Jy,Aw] at ih ⊢;rw [←ih,show (k+1)*2=k*2+2 by omega];simp
theorem Xp (r:RG) (k:Nat):rg r (k:Int)=r.getD k (0,0):=by simp [rg]
theorem Nl {r:RG} {k:Nat} (hk:k<r.length):r[k]?=some (rg r (k:Int)):=by
 rw [Xp];simp [List.getD,Ab hk]
theorem afj {r:RG} {k:Nat} (hk:k<r.length):(AE r).toArray.extract (k*2) (k*2+2)=#[.int .i32 (rg r (k:Int)).1,.int .i32 (rg r (k:Int)).2]:=by
 have hl:=Cp r;apply Array.ext
 ·simp;omega
 ·intro i h1 h2
  have h3:i<2:=by simpa using h2
  have:=ak r k i _ (Nl hk) h3;rw [Ab A0] at this;simp only [Array.getElem_extract,Az];rw [Ab (by simpa using h3)] at this;simpa using this
theorem fW {r:RG} {k:Nat} (hk:k<r.length) (w:World):(part 172 (AE r).toArray (k*2)).run Tryz.prog w=.ok (.agg #[.int .i32 (rg r (k:Int)).1,.int .i32 (rg r (k:Int)).2]) w:=by
 have h1:(isAgg 172).run Tryz.prog w=.ok true w:=by kernel_rfl
 have h2:(sizeOf 172).run Tryz.prog w=.ok 2 w:=by kernel_rfl
 unfold part;simp only [QH,h1,h2,cO,QW,eX];rw [afj hk]
theorem apc {r:RG} (hr:r.length=16) {k:Nat} (hk:k<16) (w:World):(Instr.index 174 (.agg (AE r).toArray) (.int .i64 (k:Int))).run Tryz.prog w=.ok (.agg #[.int .i32 (rg r (k:Int)).1,.int .i32 (rg r (k:Int)).2]) w:=by
 have h2:(sizeOf 172).run Tryz.prog w=.ok 2 w:=by kernel_rfl
 have h4:=fW (r:=r) (k:=k) A0 w;simp [Instr.index,QB BI,asIntOf,QH,h2,hk,h4]
theorem p9 {P:Program} {w:World} (q:Nat→Bool) (g:Nat→Option Bool×PUnit→Sem (ForInStep (Option Bool×PUnit))):∀(l:List Nat),(∀i∈l,∀s,(g i s).run P w=.ok (if q i then .yield (none,()) else .done (some false,())) w)→
  (forIn l ((none,()):Option Bool×PUnit) g).run P w=.ok (if l.all q then (none,()) else (some false,())) w
 | [],_=>by simp
 | i :: l,h=>by
  have ih:=p9 q g l (fun j hj=>h j (Fu _ hj));have h1:=h i (Lf ..) (none,());rw [List.forIn_cons,QH,h1];cases hq:q i<;>simp [hq,ih]
theorem aqr (d:Nat) {a b:RG} (ha:a.length=16) (hb:b.length=16) (w:World):(Op.equalIn (d+1+1+1) 174 (.agg (AE a).toArray) (.agg (AE b).toArray)).run Tryz.prog w=.ok (decide (a=b)) w:=by
 rw [Op.equalIn];simp [QB BI,QH];rw [p9 (fun i=>decide (rg a (i:Int)=rg b (i:Int)))]
 ·have e:(List.range' 0 16).all (fun i=>decide (rg a (i:Int)=rg b (i:Int)))=decide (a=b):=by
   rw [Qj,Mm,E4];constructor
   ·intro h
    apply JR;intro i;by_cases hi:i<16
    ·have:=h i (by simp [List.mem_range'_1];omega)
     rw [E4] at this;rw [Nl A0,Nl A0,this]
    ·rw [Dy A0,Dy A0]
   ·rintro rfl i _
    simp
  rw [e];cases decide (a=b)<;>simp
 ·intro i hi s
  have hi2:i<16:=by simp [List.mem_range'_1] at hi;omega
  have h1:=fW (r:=a) (k:=i) A0 w;have h2:=fW (r:=b) (k:=i) A0 w;have h3:=wH d (rg a (i:Int)).1 (rg a (i:Int)).2 (rg b (i:Int)).1 (rg b (i:Int)).2 w;simp only [QH,h1,h2,cO,h3];by_cases h4:rg a (i:Int)=rg b (i:Int)
  ·simp [h4]
  ·have:((rg a (i:Int)).1==(rg b (i:Int)).1 && (rg a (i:Int)).2==(rg b (i:Int)).2)=false:=by
    rw [Ze];intro h5;rw [Eh] at h5;exact h4 (Wu (by simpa using h5.1) (by simpa using h5.2))
   simp [this,h4]
theorem uP {a b:RG} (ha:a.length=16) (hb:b.length=16) (w:World):(binOp .eql 174 (.agg (AE a).toArray) (.agg (AE b).toArray)).run Tryz.prog w=.ok (.bool (decide (a=b))) w:=by
 simp only [binOp];simp [Op.equal,Op.maxDepth,aqr 9997 ha hb]
def Ag (w:World) (b:Nat) (T:TypeId) (r:RG):Prop:=w.heap[b]?=some (.cells (AE r).toArray T (0,0))
section
variable {w:World} {b:Nat} {T:TypeId} {r:RG}
theorem Ag.lt (h:Ag w b T r):b<w.heap.size:=(Bl.1 h).1
theorem Ag.lo (h:Ag w b T r) {k:Nat} (hk:k<r.length):w.cell? ⟨b,k*2,none⟩=some (.int .i32 (rg r (k:Int)).1):=by
 have:=ak r k 0 _ (Nl hk) A0;unfold Ag at h;simpa [World.cell?,h] using this
theorem Ag.hi (h:Ag w b T r) {k:Nat} (hk:k<r.length):w.cell? ⟨b,k*2+1,none⟩=some (.int .i32 (rg r (k:Int)).2):=by
 have:=ak r k 1 _ (Nl hk) A0;unfold Ag at h;simpa [World.cell?,h] using this
theorem Ag.fz (h:Ag w b T r) (o:Nat):w.frozen? ⟨b,o,none⟩=false:=by unfold Ag at h;simp [World.frozen?,h]
theorem Ag.keep {w':World} (h:Ag w b T r) (hb:Below w.heap.size w w'):Ag w' b T r:=(hb.block b h.lt).trans h
theorem Ag.set (h:Ag w b T r) (k:Nat) (x:Int×Int):Ag ((w.setCell ⟨b,k*2,none⟩ (.int .i32 x.1)).setCell ⟨b,k*2+1,none⟩ (.int .i32 x.2)) b T (r.set k x):=by
 unfold Ag at h ⊢;rw [Cl _ b _ _ T _ (Cl w b _ _ T _ h),← qW];simp
theorem Ag.range (h:Ag w b T r):w.rangeAt b 0 (AE r):=fun j v hv=>by
 unfold Ag at h;simp [World.cell?,h,hv]
end
end
theorem aK (w:World) (cA cB:Array Value) (tA tB:TypeId) (x:Ext ((w.alloc (.cells cA tA)).alloc (.cells cB tB))):w.heap.size+1<x.w.heap.size∧x.w.heap[w.heap.size]?=some (.cells cA tA (0,0))∧x.w.heap[w.heap.size+1]?=some (.cells cB tB (0,0))∧Below w.heap.size w x.w:=by
 have e2:((w.alloc (.cells cA tA)).alloc (.cells cB tB)).heap.size=w.heap.size+1+1:=by simp only [F9]
 have hs:=x.h.size;refine⟨by omega,?_,?_,Ext.below (((AV _ _).alloc (AH _) _).alloc AR _) A0 x⟩
 ·rw [x.h.block _ A0,Bv _ _ AR];exact AY _ _
 ·rw [x.h.block _ A0];exact Et _ _ AR
theorem ru (op:Int) (h1:2≤op) (h2:op≤13) (w:World):Calls Tryz.prog 132 #[.int .u8 op] w fun e w'=>e=.returned (.int .u8 (Lm op))∧w=w':=by
 have h:op=2∨op=3∨op=4∨op=5∨op=6∨op=7∨op=8∨op=9∨op=10∨op=11∨op=12∨op=13:=by omega
 rcases h with rfl|rfl|rfl|rfl|rfl|rfl|rfl|rfl|rfl|rfl|rfl|rfl;all_goals
  go_enter Tryz.func132,Tryz.ntmps132
  go_wp2
  go_ret;exact⟨rfl,rfl⟩
theorem aak (xl xh:Int) (h1:xl=0) (h2:xh=0) (w:World):Calls Tryz.prog 135 #[.agg #[.int .i32 xl,.int .i32 xh]] w fun e w'=>e=.returned (.agg #[.int .i32 (1),.int .i32 (0)])∧Below w.heap.size w w':=by
 have E:=Ki xl xh 0 0;have hb:(xl==0 && xh==0)=true:=by simp [h1,h2]
 rw [hb] at E;clear h1 h2;go_enter jo,jQ
 go_wp2
 refine C7 A4 A4 ?_;repeat (go_big_quiet_step (exact Calls.AW (Ed 0 _)))
 refine BD ?_;rintro _ ⟨x,rfl⟩;obtain⟨hz2,k0,k1,Am⟩:=aK w _ _ _ _ x;clear k0 k1 Am;go_wp2_with (go_at_call 128;refine (Calls.AW (C9 _)).mono ?_;rintro e w' ⟨rfl,y,rfl⟩);all_goals
  refine Af (v:=.agg #[.int .i32 (1),.int .i32 (0)]) ?hr rfl ⟨rfl,?AA⟩;case hr=>
   simp [results,eR,go_sem]
  case AA=>
   exact CH
theorem aqQ (xl xh:Int) (h1:xl=0) (h2:xh≠0) (w:World):Calls Tryz.prog 135 #[.agg #[.int .i32 xl,.int .i32 xh]] w fun e w'=>e=.returned (.agg #[.int .i32 (1),.int .i32 (xh)])∧Below w.heap.size w w':=by
 have E:=Ki xl xh 0 0;have hb:(xl==0 && xh==0)=false:=by simp [h2]
 rw [hb] at E;have d1:(xl==0)=true:=by simp [h1]
 clear h1 h2;go_enter jo,jQ
 go_wp2
 refine C7 A4 A4 ?_;repeat (go_big_quiet_step (exact Calls.AW (Ed 0 _)))
 refine BD ?_;rintro _ ⟨x,rfl⟩;obtain⟨hz2,k0,k1,Am⟩:=aK w _ _ _ _ x;have c0:x.w.cell? ⟨w.heap.size,0,none⟩=some (.int .i32 xl):=by rw [J9 _ _ _ _ _ _ k0];rfl
 have c1:x.w.cell? ⟨w.heap.size,1,none⟩=some (.int .i32 xh):=by rw [J9 _ _ _ _ _ _ k0];rfl
 have c2:x.w.cell? ⟨w.heap.size+1,0,none⟩=some (.int .i32 0):=by rw [J9 _ _ _ _ _ _ k1];rfl
 have c3:x.w.cell? ⟨w.heap.size+1,1,none⟩=some (.int .i32 0):=by rw [J9 _ _ _ _ _ _ k1];rfl
 clear k0 k1 Am;go_wp2_with (go_at_call 128;refine (Calls.AW (C9 _)).mono ?_;rintro e w' ⟨rfl,y,rfl⟩);all_goals
  refine Af (v:=.agg #[.int .i32 (1),.int .i32 (xh)]) ?hr rfl ⟨rfl,?AA⟩;case hr=>
   simp [results,eR,go_sem]
  case AA=>
   exact CH
theorem aqq (xl xh:Int) (h1:xl≠0) (h2:xh=0) (w:World):Calls Tryz.prog 135 #[.agg #[.int .i32 xl,.int .i32 xh]] w fun e w'=>e=.returned (.agg #[.int .i32 (xl),.int .i32 (-1)])∧Below w.heap.size w w':=by
 have E:=Ki xl xh 0 0;have hb:(xl==0 && xh==0)=false:=by simp [h1]
 rw [hb] at E;have d1:(xl==0)=false:=by simp [h1]
 have d2:(xh==0)=true:=by simp [h2]
 clear h1 h2;go_enter jo,jQ
 go_wp2
 refine C7 A4 A4 ?_;repeat (go_big_quiet_step (exact Calls.AW (Ed 0 _)))
 refine BD ?_;rintro _ ⟨x,rfl⟩;obtain⟨hz2,k0,k1,Am⟩:=aK w _ _ _ _ x;have c0:x.w.cell? ⟨w.heap.size,0,none⟩=some (.int .i32 xl):=by rw [J9 _ _ _ _ _ _ k0];rfl
 have c1:x.w.cell? ⟨w.heap.size,1,none⟩=some (.int .i32 xh):=by rw [J9 _ _ _ _ _ _ k0];rfl
 have c2:x.w.cell? ⟨w.heap.size+1,0,none⟩=some (.int .i32 0):=by rw [J9 _ _ _ _ _ _ k1];rfl
 have c3:x.w.cell? ⟨w.heap.size+1,1,none⟩=some (.int .i32 0):=by rw [J9 _ _ _ _ _ _ k1];rfl
 clear k0 k1 Am;go_wp2_with (go_at_call 128;refine (Calls.AW (C9 _)).mono ?_;rintro e w' ⟨rfl,y,rfl⟩);all_goals
  refine Af (v:=.agg #[.int .i32 (xl),.int .i32 (-1)]) ?hr rfl ⟨rfl,?AA⟩;case hr=>
   simp [results,eR,go_sem]
  case AA=>
   exact CH
theorem aty (xl xh:Int) (h1:xl≠0) (h2:xh≠0) (w:World):Calls Tryz.prog 135 #[.agg #[.int .i32 xl,.int .i32 xh]] w fun e w'=>e=.returned (.agg #[.int .i32 (xl),.int .i32 (xh)])∧Below w.heap.size w w':=by
 have E:=Ki xl xh 0 0;have hb:(xl==0 && xh==0)=false:=by simp [h1]
 rw [hb] at E;have d1:(xl==0)=false:=by simp [h1]
 have d2:(xh==0)=false:=by simp [h2]
 clear h1 h2;go_enter jo,jQ
 go_wp2
 refine C7 A4 A4 ?_;repeat (go_big_quiet_step (exact Calls.AW (Ed 0 _)))
 refine BD ?_;rintro _ ⟨x,rfl⟩;obtain⟨hz2,k0,k1,Am⟩:=aK w _ _ _ _ x;have c0:x.w.cell? ⟨w.heap.size,0,none⟩=some (.int .i32 xl):=by rw [J9 _ _ _ _ _ _ k0];rfl
 have c1:x.w.cell? ⟨w.heap.size,1,none⟩=some (.int .i32 xh):=by rw [J9 _ _ _ _ _ _ k0];rfl
 have c2:x.w.cell? ⟨w.heap.size+1,0,none⟩=some (.int .i32 0):=by rw [J9 _ _ _ _ _ _ k1];rfl
 have c3:x.w.cell? ⟨w.heap.size+1,1,none⟩=some (.int .i32 0):=by rw [J9 _ _ _ _ _ _ k1];rfl
 clear k0 k1 Am;go_wp2_with (go_at_call 128;refine (Calls.AW (C9 _)).mono ?_;rintro e w' ⟨rfl,y,rfl⟩);all_goals
  refine Af (v:=.agg #[.int .i32 (xl),.int .i32 (xh)]) ?hr rfl ⟨rfl,?AA⟩;case hr=>
   simp [results,eR,go_sem]
  case AA=>
   exact CH
theorem afR (xl xh:Int) (w:World):Calls Tryz.prog 135 #[.agg #[.int .i32 xl,.int .i32 xh]] w fun e w'=>e=.returned (.agg #[.int .i32 (Oo (xl,xh)).1,.int .i32 (Oo (xl,xh)).2])∧Below w.heap.size w w':=by
 by_cases h1:xl=0<;>by_cases h2:xh=0
 ·refine (aak xl xh h1 h2 w).mono fun e w' ⟨q,hb⟩=>⟨q.trans ?_,hb⟩
  simp [Oo,h1,h2]
 ·refine (aqQ xl xh h1 h2 w).mono fun e w' ⟨q,hb⟩=>⟨q.trans ?_,hb⟩
  simp [Oo,h1,h2]
 ·refine (aqq xl xh h1 h2 w).mono fun e w' ⟨q,hb⟩=>⟨q.trans ?_,hb⟩
  simp [Oo,h1,h2]
 ·refine (aty xl xh h1 h2 w).mono fun e w' ⟨q,hb⟩=>⟨q.trans ?_,hb⟩
  simp [Oo,h1,h2]
theorem xY {r:RG} {k:Nat} (hk:k<r.length) (h:(rg r (k:Int)).2<(rg r (k:Int)).1):En r=false:=by
 have:r.all (fun x=>decide (x.1≤x.2))=false:=by
  rw [rL];refine⟨rg r (k:Int),Bj (Nl hk),?_⟩;simp;omega
 simp [En,this]
theorem atP {r:RG} (h:∀k,k<r.length→(rg r (k:Int)).1≤(rg r (k:Int)).2):En r=decide (rg r 0=(0,0)):=by
 have:r.all (fun x=>decide (x.1≤x.2))=true:=by
  rw [Mm];intro x hx;obtain⟨k,hk⟩:=LH.1 hx;have hl:=(Bc.1 hk).1;have e:=Nl hl;rw [hk] at e;have:=h k hl;rw [←FZ e] at this;simpa using this
 simp [En,this]
theorem Rv (r:RG) (hr:r.length=16) (w:World):Calls Tryz.prog 129 #[.agg (AE r).toArray] w fun e w'=>e=.returned (.bool (En r))∧Below w.heap.size w w':=by
 obtain⟨V,hV⟩:=A8 (w.alloc (.cells (AE r).toArray 174));have bV:Below w.heap.size w V:=hV▸(AV _ _).alloc (AH _) _;have kV:Ag V w.heap.size 174 r:=by rw [←hV];exact AY _ _
 have hrg:=kV.range;have Un:(Tryz.prog.info? 174).map (·.size)=some (AE r).length:=by rw [Cp,hr];kernel_rfl
 have sV:=kV.lt;have⟨KV,BV,HR⟩:=Bh kV bV hr;clear kV bV hr;go_enter Tryz.func129,Tryz.ntmps129;go_upto_region 2 with (refine DR rfl 174 (.tmp 1) rfl w.heap.size 0 rfl (AE r) _ hrg BI rfl Un ?_);clear hV;go_loopw [4,6] (fun a4 a6 wr=>∃k:Nat,k≤16∧a6=.int .i64 (k:Int)∧(∀j:Nat,j<k→(rg r (j:Int)).1≤(rg r (j:Int)).2)∧Below V.heap.size V wr) (fun _ a6 _=>16 - (intOf a6).toNat);case atStart=>exact⟨0,by omega,rfl,fun j hj=>by omega,AV _ _⟩
 case round=>
  obtain⟨k,hk,rfl,hall,hb⟩:=hrel;have⟨HA,HB⟩:=AQ hall hb;have hsz:=hb.size;clear hall hb;by_cases hlt:k<16
  ·have dl:decide ((k:Int)<16)=true:=Ac A0
   have hix:=apc HR.out hlt;obtain⟨lo,hlo⟩:=A8 ((rg r (k:Int)).1);obtain⟨hi,hhi⟩:=A8 ((rg r (k:Int)).2);rw [hlo,hhi] at hix;have⟨HLO,HHI⟩:=AQ hlo hhi;clear hlo hhi;have SR:=A3 (Ar lo hi);by_cases he:hi<lo
   ·have d2:decide (hi<lo)=true:=Ac he
    go_wp2_with (go_at_call 127;refine (SR.out _).mono ?_;rintro e w' ⟨rfl,hb2⟩);go_ret;refine⟨by rw [xY (by rw [HR.out];exact hlt) (by rw [HLO.out,HHI.out];exact he)];rfl,BV.out.trans ((HB.out.trans ?_).mono BV.out.size)⟩;exact (((AV _ _).alloc (AH _) _).trans (hb2.mono AR)).mono hsz
   ·have d2:decide (hi<lo)=false:=Ad he
    go_wp2_with (go_at_call 127;refine (SR.out _).mono ?_;rintro e w' ⟨rfl,hb2⟩);go_roundw;case rel=>
     refine⟨k+1,by omega,by go_num,fun j hj=>?_,HB.out.trans ((((AV _ _).alloc (AH _) _).trans (hb2.mono AR)).mono hsz)⟩;by_cases hjk:j=k
     ·subst hjk;rw [HLO.out,HHI.out];omega
     ·exact HA.out j A0
    case measure=>exact Ai
  ·have HK:=A3 (show k=16 by omega)
   have HP:=A3 (atP (r:=r) (fun j hj=>HA.out j (by rw [HR.out] at hj;rw [HK.out];exact hj)));have KW:=KV.out.keep HB.out;obtain⟨lo,hlo⟩:=A8 ((rg r 0).1);obtain⟨hi,hhi⟩:=A8 ((rg r 0).2);have c0:wr.cell? ⟨w.heap.size,0,none⟩=some (.int .i32 lo):=by rw [←hlo];simpa using KW.lo (k:=0) (by rw [HR.out];omega)
   have c1:wr.cell? ⟨w.heap.size,1,none⟩=some (.int .i32 hi):=by rw [←hhi];simpa using KW.hi (k:=0) (by rw [HR.out];omega)
   have E:=Ki lo hi 0 0;have HQ:=A3 (show En r=(lo==0 && hi==0) by
    rw [HP.out,← hlo,← hhi,Qj,E4,Eh,Vu,Vu,Prod.ext_iff])
   have sW:w.heap.size<wr.heap.size:=by omega
   clear KW hlo hhi hrg;have dl:decide ((k:Int)<16)=false:=Ad A0;go_upto_region 7 with fail;refine C7 A4 A4 ?_;repeat (go_big_quiet_step (exact Calls.AW (Ed 0 _)))
   refine BD ?_;rintro _ ⟨x,rfl⟩;go_wp2_with fail;go_ret;exact⟨by rw [HQ.out];rfl,BV.out.trans ((HB.out.trans (x.h.mono hsz)).mono BV.out.size)⟩
def Cq:Option RG→Value
 | none=>.tuple #[.agg (AE Aj).toArray,.bool false]
 | some r=>.tuple #[.agg (AE r).toArray,.bool true]
theorem Iw {w:World} {ib:Nat} {o a b c i:Int} (h:w.heap[ib]?=some (.cells #[.int .u8 o,.int .i64 a,.int .i64 b,.int .i64 c,.int .i64 i] 67 (0,0))) :
  w.cell? ⟨ib,0,none⟩=some (.int .u8 o)∧w.cell? ⟨ib,1,none⟩=some (.int .i64 a)∧w.cell? ⟨ib,2,none⟩=some (.int .i64 b)∧w.cell? ⟨ib,3,none⟩=some (.int .i64 c)∧w.cell? ⟨ib,4,none⟩=some (.int .i64 i)∧ib<w.heap.size:=
 ⟨J9 _ _ _ _ _ _ h,J9 _ _ _ _ _ _ h,J9 _ _ _ _ _ _ h,J9 _ _ _ _ _ _ h,J9 _ _ _ _ _ _ h,(Bl.1 h).1⟩
theorem O7 (w:World) (cA cB cC:Array Value) (tA tB tC:TypeId):∃V,((w.alloc (.cells cA tA)).alloc (.cells cB tB)).alloc (.cells cC tC)=V∧V.heap[w.heap.size]?=some (.cells cA tA (0,0))∧V.heap[w.heap.size+1]?=some (.cells cB tB (0,0))∧V.heap[w.heap.size+1+1]?=some (.cells cC tC (0,0))∧Below w.heap.size w V∧w.heap.size+1+1<V.heap.size:=by
 refine⟨_,rfl,?_,?_,Et _ _ AR,(((AV _ _).alloc (AH _) _).alloc AR _).alloc CD _,by simp⟩
 ·rw [Bv _ _ CD,Bv _ _ AR];exact AY _ _
 ·rw [Bv _ _ AR];exact Et _ _ AR
theorem Ct (r:RG):(AE r).toArray.all (·.oneCell')=true:=qw fun v hv=>by
 unfold AE at hv;obtain⟨x,_,h⟩:=TB.1 hv;simp only [Da,WS,SL] at h;rcases h with rfl|rfl<;>rfl
theorem apE (op a b c im:Int) (h0:0≤op) (r:RG) (hr:R16 r) (w:World) (T:CO w) (hno:CW ⟨op,a,b,c,im⟩=false∨(CW ⟨op,a,b,c,im⟩=true∧En r=false)) :
  Calls Tryz.prog 107 #[.agg #[.int .u8 op,.int .i64 a,.int .i64 b,.int .i64 c,.int .i64 im],.agg (AE r).toArray] w fun e w'=>e=.returned (Cq none)∧Below w.heap.size w w':=by
 obtain⟨V,hV,k0,k1,k2,bV,sV⟩:=O7 w #[.int .u8 op,.int .i64 a,.int .i64 b,.int .i64 c,.int .i64 im] (AE r).toArray BL.toArray 67 174 174;obtain⟨a0,a1,a2,a3,a4,lV⟩:=Iw k0;have K1:=A3 (show Ag V (w.heap.size+1) 174 r from k1);have Jv:=A3 (show (Tryz.prog.info? 174).map (·.size)=some (AE r).length by rw [Cp,hr.len];kernel_rfl);have⟨K2,BV,Co,EU⟩:=CU k2 bV (Calls.ext (Ns ⟨op,a,b,c,im⟩ h0 V (T.below bV))) (fun x:Ext V=>Calls.AW (x:=x) (Rv r hr.len x.w));clear k0 k1 k2 bV;go_enter Tryz.func107,Tryz.ntmps107;go_upto_region 1 with fail;clear hV;rcases hno with hv|⟨hv,hp⟩
 ·rw [hv] at Co
  go_wp2_with (first|(go_at_call 55;refine Co.out.mono ?_;rintro e w' ⟨rfl,y,rfl⟩)|(refine Bk rfl 174 (.tmp 4) (.tmp 16) rfl (w.heap.size+1+1) BL.toArray rfl rfl 174 _ (((Ext.h _).block _ sV).trans K2.out) A4 rfl Bd ?_));refine Af (results_cell_tmp (P:=Tryz.prog) aU _ _ (w.heap.size+1+1) BL _ rfl (Ev (Fg _ _ _ _ _ _ ((y.h.block _ sV).trans K2.out))) BI rfl A4) rfl ⟨rfl,Bu (BV.out.trans (y.h.mono BV.out.size)) A0 _⟩
 ·rw [hv] at Co
  rw [hp] at EU;go_wp2_with (first|(go_at_call 55;refine Co.out.mono ?_;rintro e w' ⟨rfl,y,rfl⟩)|(go_at_call 129;refine (EU.out _).mono ?_;rintro e w' ⟨rfl,z,rfl⟩)|(refine QC JU _ _ rfl _ _ rfl (AE r) _ (K1.out.keep (Ext.h _)).range BI rfl Jv.out ?_)|(refine Bk rfl 174 (.tmp 4) (.tmp 16) rfl (w.heap.size+1+1) BL.toArray rfl rfl 174 _ (((Ext.h _).block _ sV).trans K2.out) A4 rfl Bd ?_));refine Af (results_cell_tmp (P:=Tryz.prog) aU _ _ (w.heap.size+1+1) BL _ rfl (Ev (Fg _ _ _ _ _ _ ((z.h.block _ sV).trans K2.out))) BI rfl A4) rfl ⟨rfl,Bu (BV.out.trans (z.h.mono BV.out.size)) A0 _⟩
theorem mL {r:RG} (hl:r.length=16) (h0:rg r 0=(0,0)) (an:Nat) (x:Int×Int):(r.set an x).set 0 (0,0)=Cr r (an:Int) x:=by
 have hz:r.set 0 (0,0)=r:=by
  apply JR;intro i;by_cases hi:i=0
  ·subst hi
   rw [Gv];have:=Nl (r:=r) (k:=0) A0;rw [show ((0:Nat):Int)=0 from rfl] at this;rw [this];simp [hl];exact h0.symm
  ·rw [Gv];simp [ED hi]
 unfold Cr;by_cases ha:an=0
 ·subst ha
  simp [hz]
 ·rw [A6 A0,List.set_comm _ _ ha,hz]
  simp
theorem rO {r:RG} (hl:r.length=16) (h0:rg r 0=(0,0)):r.set 0 (0,0)=r:=by
 have h:=mL hl h0 0 (0,0);rw [List.set_set] at h;rw [h];rfl
theorem fG {r:RG} (h:En r=true):rg r 0=(0,0):=by
 unfold En at h;rw [Eh,E4] at h;exact h.2
theorem zi (w:World) (cA cB cC cD:Array Value) (tA tB tC tD:TypeId):∃V,(((w.alloc (.cells cA tA)).alloc (.cells cB tB)).alloc (.cells cC tC)).alloc (.cells cD tD)=V∧V.heap[w.heap.size]?=some (.cells cA tA (0,0))∧V.heap[w.heap.size+1]?=some (.cells cB tB (0,0))∧V.heap[w.heap.size+1+1]?=some (.cells cC tC (0,0))∧V.heap[w.heap.size+1+1+1]?=some (.cells cD tD (0,0))∧Below w.heap.size w V∧w.heap.size+1+1+1<V.heap.size:=by
 obtain⟨V,e,h0,h1,h2,hb,hs⟩:=O7 w cA cB cC tA tB tC;have hs3:V.heap.size=w.heap.size+1+1+1:=by rw [←e];simp
 refine⟨V.alloc (.cells cD tD),by rw [←e],?_,?_,?_,?_,hb.alloc A0 _,by simp;omega⟩
 ·rw [Bv _ _ A0];exact h0
 ·rw [Bv _ _ A0];exact h1
 ·rw [Bv _ _ A0];exact h2
 ·rw [←hs3];exact AY _ _
theorem arR {x y z:RG} {F:Int×Int→Int×Int→Int×Int} (hx:x.length=16) (hy:y.length=16) (hz:z.length=16) (h:∀j:Nat,j<16→rg z (j:Int)=F (rg x (j:Int)) (rg y (j:Int))):z=List.zipWith F x y:=by
 apply JR;intro i;by_cases hi:i<16
 ·have:=h i hi
  rw [Nl A0,this];rw [oG,Nl A0,Nl A0]
 ·rw [Dy A0,Dy (by rw [qB];omega)]
theorem dH (fid:FuncId) (F:Int×Int→Int×Int→Int×Int) (he:∀(args:Array Value) (w:World),(callFunc fid args).run Tryz.prog w=.ok (.enter fid args) w)
  (hF:∀a b c d w,Calls Tryz.prog fid #[.agg #[.int .i32 a,.int .i32 b],.agg #[.int .i32 c,.int .i32 d]] w fun e w'=>e=.returned (.agg #[.int .i32 (F (a,b) (c,d)).1,.int .i32 (F (a,b) (c,d)).2])∧Below w.heap.size w w')
  (x y:RG) (hx:x.length=16) (hy:y.length=16) (w:World) :
  Calls Tryz.prog 104 #[.agg (AE x).toArray,.agg (AE y).toArray,.func (.func fid) #[] #[]] w fun e w'=>e=.returned (.agg (AE (List.zipWith F x y)).toArray)∧Below w.heap.size w w':=by
 obtain⟨V,hV,k0,k1,k2,k3,bV,sV⟩:=zi w (AE x).toArray (AE y).toArray BL.toArray BL.toArray 174 174 174 174;have⟨K0,K1,K2,K3,BV,HX,HY,HF⟩:=OI (show Ag V w.heap.size 174 x from k0) (show Ag V (w.heap.size+1) 174 y from k1) k2 (show Ag V (w.heap.size+1+1+1) 174 Aj from k3) bV hx hy hF;clear k0 k1 k2 k3 bV hF hx hy;go_enter Tryz.func104,Tryz.ntmps104;go_upto_region 3 with fail;clear hV;go_loopw [9] (fun a9 wr=>∃k:Nat,∃z:RG,k≤16∧a9=.int .i64 (k:Int)∧z.length=16∧(∀j:Nat,j<k→rg z (j:Int)=F (rg x (j:Int)) (rg y (j:Int)))∧Below (w.heap.size+1+1+1) V wr∧Ag wr (w.heap.size+1+1+1) 174 z) (fun a9 _=>16 - (intOf a9).toNat);case atStart=>exact⟨0,Aj,by omega,rfl,by simp [Aj],fun j hj=>by omega,AV _ _,K3.out⟩
 case round=>
  obtain⟨k,z,hk,rfl,hz,hall,hb,kz⟩:=hrel;have⟨HA,HB,HZ,HSZ⟩:=CU hall hb hz hb.size;clear hall hb hz;by_cases hlt:k<16
  ·have dl:decide ((k:Int)<16)=true:=Ac A0
   have ik:(k:Int)<16:=by omega
   have KX:Ag wr w.heap.size 174 x:=(HB.out.block _ A0).trans K0.out;have KY:Ag wr (w.heap.size+1) 174 y:=(HB.out.block _ A0).trans K1.out;obtain⟨xl,hxl⟩:∃v,(rg x (k:Int)).1=v:=⟨_,rfl⟩;obtain⟨xh,FT⟩:∃v,(rg x (k:Int)).2=v:=⟨_,rfl⟩;obtain⟨yl,hyl⟩:∃v,(rg y (k:Int)).1=v:=⟨_,rfl⟩;obtain⟨yh,WZ⟩:∃v,(rg y (k:Int)).2=v:=⟨_,rfl⟩;have c0:wr.cell? ⟨w.heap.size,k*2,none⟩=some (.int .i32 xl):=by rw [←hxl];exact KX.lo (by rw [HX.out];exact hlt)
   have c1:wr.cell? ⟨w.heap.size,k*2+1,none⟩=some (.int .i32 xh):=by rw [←FT];exact KX.hi (by rw [HX.out];exact hlt)
   have c2:wr.cell? ⟨w.heap.size+1,k*2,none⟩=some (.int .i32 yl):=by rw [←hyl];exact KY.lo (by rw [HY.out];exact hlt)
   have c3:wr.cell? ⟨w.heap.size+1,k*2+1,none⟩=some (.int .i32 yh):=by rw [←WZ];exact KY.hi (by rw [HY.out];exact hlt)
   have l0:w.heap.size<wr.heap.size:=KX.lt;have l1:w.heap.size+1<wr.heap.size:=KY.lt;have l3:w.heap.size+1+1+1<wr.heap.size:=kz.lt;have f0:wr.frozen? ⟨w.heap.size+1+1+1,k*2,none⟩=false:=kz.fz _;have f1:wr.frozen? ⟨w.heap.size+1+1+1,k*2+1,none⟩=false:=kz.fz _;have z0:wr.cell? ⟨w.heap.size+1+1+1,k*2,none⟩=some (.int .i32 (rg z (k:Int)).1):=kz.lo (by rw [HZ.out];exact hlt);have z1:wr.cell? ⟨w.heap.size+1+1+1,k*2+1,none⟩=some (.int .i32 (rg z (k:Int)).2):=kz.hi (by rw [HZ.out];exact hlt);obtain⟨p,q,hp⟩:∃p q,F (xl,xh) (yl,yh)=(p,q):=⟨_,_,rfl⟩;have HG:=A3 (show ∀w,Calls Tryz.prog fid #[.agg #[.int .i32 xl,.int .i32 xh],.agg #[.int .i32 yl,.int .i32 yh]] w fun e w'=>e=.returned (.agg #[.int .i32 p,.int .i32 q])∧Below w.heap.size w w' from fun w=>by
    have:=HF.out xl xh yl yh w;rw [hp] at this
    exact this)
   have HP:=A3 (show F (rg x (k:Int)) (rg y (k:Int))=(p,q) by rw [←hp,← hxl,← FT,← hyl,← WZ]);have KZ:=A3 kz;clear hp hxl FT hyl WZ KX KY kz;go_upto_region 5 with fail;refine KA 9 A4 A4 ?_;simp only [Fp,List.take_zero,G0,List.drop_zero];repeat (go_big_quiet_step (exact Calls.AW (HG.out _)))
   refine BD ?_;rintro _ ⟨x1,rfl⟩;go_wp2_with fail;go_roundw;case rel=>
    refine⟨k+1,z.set k (p,q),by omega,by go_num,by rw [LB];exact HZ.out,fun j hj=>?_,?_,(KZ.out.keep x1.h).set k (p,q)⟩
    ·by_cases hjk:j=k
     ·subst hjk
      rw [HP.out,Xp];simp [List.getD,show j<z.length by rw [HZ.out];exact hlt]
     ·have:=HA.out j A0
      rw [←this,Xp,Xp];simp [List.getD,Gv,ED hjk]
    ·exact CY (CY (HB.out.trans (x1.h.mono (by have:=HSZ.out;omega))) (AH _) _) (AH _) _
   case measure=>exact Ai
  ·obtain rfl:k=16:=by omega
   have⟨HR,Dq⟩:=AQ (arR HX.out HY.out HZ.out HA.out) kz.range;have JW:=A3 (show (Tryz.prog.info? 174).map (·.size)=some (AE z).length by rw [Cp,HZ.out];kernel_rfl);have Qi:=A3 (show (Tryz.prog.info? 174).map (·.size)=some (AE z).toArray.size by rw [Ig,Cp,HZ.out];kernel_rfl);have Qz:=A3 (show (BL.toArray:Array Value).size=(AE z).toArray.size by rw [show (AE z).toArray.size=32 by rw [Ig,Cp,HZ.out]];rfl);have R7:=A3 (Ct z);have KO:=A3 ((HB.out.block _ A0).trans K2.out);go_wp2_with (first|(refine DR rfl _ _ rfl _ _ rfl (AE z) _ Dq.out BI rfl JW.out ?_)|(refine Bk rfl 174 (.tmp 6) (.tmp 23) rfl (w.heap.size+1+1) (AE z).toArray rfl rfl 174 _ KO.out Qi.out Qz.out R7.out ?_));refine Af (ad5 (P:=Tryz.prog) Tryz.results104 _ _ (w.heap.size+1+1) (AE z) _ rfl (Ev (Fg _ _ _ _ _ _ KO.out)) BI rfl JW.out) rfl ⟨?_,Bu (BV.out.trans (HB.out.mono A0)) A0 _⟩;rw [HR.out]
theorem Z0 (l:List Int):AL (Au l).1∧AL (Au l).2:=by
 rcases mH l with h|⟨h,h1,h2⟩
 ·rw [h];unfold AL;simp only;omega
 ·rw [h]
  have h3:Mo l≤IY l:=by
   by_cases hl:l=[]
   ·subst hl;decide
   ·exact Ph (tU (mX hl)) (sJ (mX hl))
  unfold AL;simp only;omega
theorem uN (a n:Bool):AL (CR a n).1∧AL (CR a n).2:=by cases a<;>cases n<;>(unfold CR AL;simp)
theorem uw {x y:Int×Int} (hx:AL x.1∧AL x.2) (hy:AL y.1∧AL y.2):AL (Ao x y).1∧AL (Ao x y).2:=by
 unfold Ao AL at *;split<;>simp only<;>omega
theorem ape {x y:Int} (h:AL x):AL (x.tmod y):=by
 unfold AL at *;have h1:=Int.natAbs_tmod x y;have h2:x.natAbs % y.natAbs≤x.natAbs:=Nat.mod_le _ _;by_cases h0:0≤x
 ·have:=Xu y h0
  omega
 ·have h3:0≤(-x).tmod y:=Xu y A0
  rw [Int.neg_tmod] at h3;omega
theorem lJ {a:Int} (h:AL a) (n:Nat):AL (a / 2 ^ n):=by
 have h1:=o6 a n;unfold AL at *;by_cases h2:0≤a
 ·have:=h1.1 h2;omega
 ·have:=h1.2 A0;omega
theorem aq6 (b:Bool):AL (EH b):=by cases b<;>(unfold AL EH;simp)
theorem aqE {c:Prop} [Decidable c] {a b:Int} (ha:AL a) (hb:AL b):AL (if c then a else b):=by split<;>assumption
theorem rT {op a b:Int} (ha:AL a):AL (wv op a b):=by
 have z:AL 0:=by unfold AL;omega
 unfold wv
 repeat' (first|exact Z7 _|exact bJ _ _ _|exact aq6 _|exact z|exact ape ha|exact lJ ha _|refine aqE ?_ ?_)
theorem ZY {op:Int} {x y:Int×Int} (hx:AL x.1∧AL x.2) (hy:AL y.1∧AL y.2):AL (Dr op x y).1∧AL (Dr op x y).2:=by
 have full:AL ((-2147483648,2147483647):Int×Int).1∧AL ((-2147483648,2147483647):Int×Int).2:=by unfold AL;simp
 have em:AL ((1,0):Int×Int).1∧AL ((1,0):Int×Int).2:=by unfold AL;simp
 unfold Dr;split
 ·exact full
 split
 ·exact em
 rename_i ne;split
 ·split
  ·rename_i h
   exact⟨rT hx.1,rT hx.1⟩
  ·exact em
 unfold Ep;split;exact Z0 _
 split;exact Z0 _
 split;exact Z0 _
 split
 ·unfold OE
  split;exact em
  split;exact full
  exact Z0 _
 split
 ·unfold FE
  split
  ·exact em
  ·unfold AL OC at *
   simp only;constructor<;>split<;>omega
 split
 ·unfold Jd
  have ho:∀n:Int,AL n→0≤n→AL (Gn n):=fun n h1 h2=>by
   have h3:=yU (n:=n) (m:=2147483647) h1.2;have h4:=zz h2 h1.2;have h5:Gn 2147483647=2147483647:=by decide
   unfold AL at *;omega
  have hm:AL (max x.2 y.2):=by unfold AL at *;omega
  split;· unfold AL at *;simp only;omega
  split;· unfold AL at *;simp only;omega
  split;· unfold AL at *;simp only;omega
  split
  ·refine⟨by unfold AL at *;simp only;omega,ho _ hm A0⟩
  split;· unfold AL at *;simp only;omega
  split
  ·refine⟨by unfold AL;simp,ho _ hm A0⟩
  exact full
 split
 ·unfold Kh
  split
  ·split
   ·exact Z0 _
   ·exact full
  ·split
   ·exact⟨lJ hx.1 _,lJ hx.2 _⟩
   ·unfold AL at *
    simp only;constructor<;>split<;>omega
 split
 ·unfold OJ
  (repeat' split)<;>exact uN _ _
 ·unfold Q8
  split<;>exact uN _ _
theorem o7 {i:Ins} (hv:CW i=true) (h0:0≤i.op):AL i.AD∧AL (i.AD - 1):=by
 obtain⟨k,hk⟩:=(QJ h0).1 hv;have h1:=hk.AD;have h2:∀k,k<30→-131072≤OM k∧PB k≤131071:=by decide
 have:=h2 k hk.lt;unfold AL;omega
theorem eD {i:Ins} {r r':RG} (h0:0≤i.op) (hr:R16 r) (h:Hu i r=some r'):R16 r':=by
 unfold Hu at h;split at h
 ·rename_i hv
  obtain⟨w1,w2⟩:=o7 hv.1 h0;have z:AL 0:=by unfold AL;omega
  split at h
  ·split at h
   ·cases h
   ·cases h
    exact hr.Cr _ (ZY (hr.at_ _) (hr.at_ _))
  split at h
  ·cases h;exact hr.Cr _ ⟨w1,w1⟩
  split at h
  ·cases h;exact hr.Cr _ (ZY (hr.at_ _) ⟨w1,w1⟩)
  split at h
  ·cases h;exact hr.Cr _ (ZY (hr.at_ _) ⟨w1,w1⟩)
  split at h
  ·cases h;exact hr.Cr _ (ZY (hr.at_ _) ⟨w1,w1⟩)
  split at h
  ·cases h;exact hr.Cr _ (by unfold Yq AL;simp)
  split at h
  ·split at h
   ·cases h
   ·cases h;exact hr.Cr _ (uw (hr.at_ _) ⟨z,w2⟩)
  cases h;exact hr
 ·cases h
theorem atD {op:Int} {t:Bool} {x:Int×Int} (hx:AL x.1∧AL x.2):AL (Ij op t x).1∧AL (Ij op t x).2:=by
 unfold Ij;split
 ·exact uw hx (by unfold AL;simp)
 ·unfold Oo AL at *
  (repeat' split)<;>first|omega|(simp only;omega)
theorem Ip {i:Ins} {r r':RG} {t:Bool} (hr:R16 r) (h:Cx i r t=some r'):R16 r':=by
 unfold Cx at h;split at h
 ·split at h
  ·split at h
   ·cases h
   ·cases h;exact hr.Cr _ (atD (hr.at_ _))
  split at h
  ·split at h
   ·cases h;exact hr
   ·cases h
  ·split at h
   ·cases h
   ·cases h;exact hr
 ·cases h
theorem TM:∀ {l:List Ins} {r r':RG},(∀i∈l,0≤i.op)→R16 r→Dc l r=some r'→R16 r'
 | [],r,r',_,hr,h=>by cases h;exact hr
 | i :: l,r,r',ho,hr,h=>by
  unfold Dc at h;cases e:Hu i r with
  | none=>rw [e] at h;cases h
  | some x=>
   rw [e] at h;exact TM (fun j hj=>ho j (Fu _ hj)) (eD (ho i (Lf ..)) hr e) h
theorem XJ {last:Ins} {m k:Nat} {r r':RG} (hr:R16 r) (h:ES last m k r=some r'):R16 r':=by
 unfold ES at h;split at h
 ·cases h;exact hr
 split at h
 ·exact Ip hr h
 ·split at h
  ·exact Ip hr h
  ·rename_i h1 _
   cases h;exact Ip hr h1
  ·rename_i h1 h2
   cases h;exact (Ip hr h1).join (Ip hr h2)
theorem qC {n:Nat} {last:Ins} {nx:List Int} {AX:RG} (ha:R16 AX) (BK:∀t∈nx,0≤t∧t<n) {s:AS} (hs:JS n s):∀k,k≤nx.length→JS n (FU last nx AX s k).1∧((FU last nx AX s k).2=true→Gq (FU last nx AX s k).1 n<Gq s n)∧((FU last nx AX s k).2=false→(FU last nx AX s k).1=s)
 | 0,_=>⟨hs,(fun h=>by cases h),fun _=>rfl⟩
 | k+1,hk=>by
  obtain⟨h1,h2,h3⟩:=qC ha BK hs k A0;have ht:0≤nx.getD k 0∧nx.getD k 0<n:=by
   have e:nx.getD k 0=nx[k]:=by simp [List.getD,Ab (show k<nx.length by omega)]
   rw [e];exact BK _ (CQ _)
  obtain⟨g1,g2,g3⟩:=Zf h1 (t:=(nx.getD k 0).toNat) A0 (ES last nx.length k AX) (fun r hr=>XJ ha hr);unfold FU;simp only;refine⟨g1,fun h=>?_,fun h=>?_⟩
  ·rw [Yu] at h
   cases q1:(FU last nx AX s k).2<;>cases q2:(Ew (FU last nx AX s k).1 (nx.getD k 0).toNat (ES last nx.length k AX)).2
   ·rw [q1,q2] at h;simp at h
   ·have:=g2 q2;rw [h3 q1] at this ⊢;exact this
   ·rw [g3 q2];exact h2 q1
   ·have:=g2 q2;have:=h2 q1;omega
  ·rw [dR] at h
   rw [g3 h.2,h3 h.1]
structure jW (n:Nat) (b:AB):Prop where
 op:∀i∈b.code,0≤i.op
 nx:∀t∈b.nx,0≤t∧t<n
theorem ais {n:Nat} {b:AB} (hb:jW n b) {s:AS} (hs:JS n s) {k:Nat} (hk:k<n):JS n (Fh b k s).1∧((Fh b k s).2=true→Gq (Fh b k s).1 n<Gq s n)∧((Fh b k s).2=false→(Fh b k s).1=s):=by
 unfold Fh;split
 ·exact⟨hs,(fun h=>by cases h),fun _=>rfl⟩
 ·rename_i AX h
  exact qC (TM hb.op (hs.get hk) h) hb.nx hs _ (AH _)
theorem oa {n:Nat} {B:List AB} (hB:∀b∈B,jW n b) (hl:B.length=n) {s:AS} (hs:JS n s):∀k,k≤n→JS n (D5 B s k).1∧((D5 B s k).2=true→Gq (D5 B s k).1 n<Gq s n)∧((D5 B s k).2=false→(D5 B s k).1=s)
 | 0,_=>⟨hs,(fun h=>by cases h),fun _=>rfl⟩
 | k+1,hk=>by
  obtain⟨h1,h2,h3⟩:=oa hB hl hs k A0;have e:B.getD k ⟨[],[]⟩=B[k]'A0:=by simp [List.getD,Ab (show k<B.length by omega)]
  obtain⟨g1,g2,g3⟩:=ais (hB _ (CQ (show k<B.length by omega))) h1 (k:=k) A0;rw [←e] at g1 g2 g3;unfold D5;simp only;split
  ·simp only
   refine⟨g1,fun h=>?_,fun h=>?_⟩
   ·rw [Yu] at h
    cases q1:(D5 B s k).2<;>cases q2:(Fh (B.getD k ⟨[],[]⟩) k (D5 B s k).1).2
    ·rw [q1,q2] at h;simp at h
    ·have:=g2 q2;rw [h3 q1] at this ⊢;exact this
    ·rw [g3 q2];exact h2 q1
    ·have:=g2 q2;have:=h2 q1;omega
   ·rw [dR] at h
    rw [g3 h.2,h3 h.1]
  ·exact⟨h1,h2,h3⟩
theorem rj (n:Nat):JS n (EI n):=by
 refine⟨by simp [EI],by simp [EI],by simp [EI],fun r hr=>by rw [(YW.1 hr).2];exact R16.zero,fun x hx=>?_⟩;rw [(YW.1 hx).2];have hb:∀k,J3 (EI n) k≤70:=fun k=>by
  unfold J3;split
  ·exact AH _
  ·have h:Jf ((EI n).AG.getD k [])≤64:=by
    have:=eY (r:=(EI n).AG.getD k []);have hl:((EI n).AG.getD k []).length≤16:=by
     unfold EI;simp only [List.getD];by_cases hk:k<n
     ·simp [hk,Aj]
     ·simp [hk]
    omega
   omega
 have:∀m,((List.range m).map (J3 (EI n))).sum≤70*m:=fun m=>by
  induction m with
  | zero=>simp
  | succ m ih=>
   simp only [JT,Qh,XX,Xx,List.sum_append,bK,List.sum_nil];have:=hb m;omega
 have:=this n;unfold Gq;omega
section
def Nf (l:List Ins):List Value:=l.flatMap fun i=>[.int .u8 i.op,.int .i64 i.a,.int .i64 i.b,.int .i64 i.c,.int .i64 i.AD]
theorem Us:∀(l:List Ins) (k j:Nat) (i:Ins),l[k]?=some i→j<5→(Nf l)[k*5+j]?=[Value.int .u8 i.op,.int .i64 i.a,.int .i64 i.b,.int .i64 i.c,.int .i64 i.AD][j]?
 | y :: L,0,j,x,h,hj=>by
  simp at h;subst h;unfold Nf;rw [Jy,Tl,Er,Kr (by simpa using hj)]
 | y :: L,k+1,j,x,h,hj=>by
  have h':L[k]?=some x:=by simpa using h
  have ih:=Us L k j x h' hj;unfold Nf at ih ⊢;rw [Jy,Jg CD,← ih];simp only [IQ,bk];congr 1
  omega
theorem aah (l:List Ins) (i:Ins):Nf (l++[i])=Nf l++[.int .u8 i.op,.int .i64 i.a,.int .i64 i.b,.int .i64 i.c,.int .i64 i.AD]:=by simp [Nf]
def JY (L:List RG):List Value:=L.flatMap AE
theorem Vr:∀ {L:List RG},(∀r∈L,r.length=16)→(JY L).length=L.length*32
 | [],_=>rfl
 | r :: L,h=>by
  have ih:=Vr (L:=L) (fun x hx=>h x (Fu _ hx));have h1:=h r (Lf ..);unfold JY at ih ⊢;rw [Jy,G5,ih,Cp,h1,IQ];omega
theorem Uq:∀ {L:List RG} {k:Nat} {r:RG},(∀r∈L,r.length=16)→L[k]?=some r→∀j,j<32→(JY L)[k*32+j]?=(AE r)[j]?
 | y :: L,0,r,h,hk,j,hj=>by
  simp at hk;subst hk;unfold JY;rw [Jy,Tl,Er,Kr (by rw [Cp,h y (Lf ..)];omega)]
 | y :: L,k+1,r,h,hk,j,hj=>by
  have hk':L[k]?=some r:=by simpa using hk
  have ih:=Uq (fun x hx=>h x (Fu _ hx)) hk' j hj;unfold JY at ih ⊢;rw [Jy,Jg (by rw [Cp,h y (Lf ..)];omega),← ih,Cp,h y (Lf ..)];congr 1
  omega
theorem ao3 {L:List RG} (h:∀r∈L,r.length=16) {k:Nat} (hk:k<L.length) {r:RG} (hr:r.length=16) :
  (JY L).take (k*32)++AE r++(JY L).drop (k*32+32)=JY (L.set k r):=by
 have hl:=Vr h;have h':∀x∈L.set k r,x.length=16:=fun x hx=>by rcases VQ hx with h1|rfl;exact h _ h1;exact hr
 have hl':=Vr h';rw [LB] at hl';have hc:(AE r).length=32:=by rw [Cp,hr]
 apply JR;intro q;by_cases hq:q<L.length*32
 ·obtain⟨a,b,hb,rfl⟩:∃a b,b<32∧q=a*32+b:=⟨q / 32,q % 32,dW _ A0,by omega⟩
  have ha:a<L.length:=by omega
  by_cases e:a=k
  ·subst e
   rw [Uq h' (r:=r) (by simp [ha]) b hb,ZQ,Jg fZ,Ux,Nat.min_eq_left A0,show a*32+b - a*32=b by omega,Kr A0]
  ·rw [Uq h' (r:=L[a]) (by rw [Gv];simp [ED e,ha]) b hb,← Uq h (Ab ha) b hb]
   by_cases e2:a<k
   ·rw [ZQ,Kr fZ,XP,A9 A0]
   ·rw [Jg (by rw [G5,Ux];omega),G5,Ux,hc,Nat.min_eq_left A0,jH]
    congr 1
    omega
 ·rw [Dy (by rw [G5,G5,Ux,List.length_drop,hc];omega),Dy A0]
structure An (V w:World) (ab cb rb ib pb:Nat) (bv pv:Value) (G:List AU) (B:List AB) (val:Nat→Value) (s:AS):Prop where
 AA:Below V.heap.size V w
 fX:E7 V bv G
 lG:G.length=B.length
 gnx:∀(k:Nat) (x:AU) (b:AB),G[k]?=some x→B[k]?=some b→x.nx=b.nx
 lB:B.length≤1000000
 aV:V.heap.size≤ab
 rV:V.heap.size≤rb
 iV:V.heap.size≤ib
 pV:V.heap.size≤pb
 head:w.heap[ab]?=some (.cells #[bv,pv,.slice (some ⟨cb,0,none⟩) B.length B.length,.slice (some ⟨rb,0,none⟩) B.length B.length,.slice (some ⟨ib,0,none⟩) B.length B.length,.slice (some ⟨pb,0,none⟩) B.length B.length] 169 (0,0))
 JH:w.ownsRow V.heap.size 144 1 (.slice (some ⟨cb,0,none⟩) B.length B.length) B.length ((List.range B.length).map val)
 own:∀(k:Nat) (b:AB),B[k]?=some b→w.ownsRow V.heap.size 67 5 (val k) b.code.length (Nf b.code)
 E6:w.heap[rb]?=some (.cells (s.reach.map Value.bool).toArray 4 (0,0))
 Hi:w.heap[ib]?=some (.cells (JY s.AG).toArray 174 (0,0))
 C8:w.heap[pb]?=some (.cells (s.rep.map (Value.int .i64)).toArray 3 (0,0))
 El:JS B.length s
section
variable {V w:World} {ab cb rb ib pb:Nat} {bv pv:Value} {G:List AU} {B:List AB} {val:Nat→Value} {s:AS}
theorem An.lt (h:An V w ab cb rb ib pb bv pv G B val s):ab<w.heap.size∧cb<w.heap.size∧rb<w.heap.size∧ib<w.heap.size∧pb<w.heap.size:=
 ⟨Ak h.head,(h.JH.lt cb rfl).2,Ak h.E6,Ak h.Hi,Ak h.C8⟩
theorem LS {w:World} {B:Nat} {e:TypeId} {z n q:Nat} {v:Value} {xs:List Value} (h:w.ownsRow B e z v n xs) (hq:v.ownBlock=some q):∃cs,w.heap[q]?=some (.cells cs e (0,0)):=by
 rcases h.2 with⟨rfl,_⟩|⟨g,cap,cur,rfl,_,hg,_⟩
 ·cases hq
 ·cases hq;exact⟨_,hg⟩
theorem Dh {w:World} {q q':Nat} {cs cs':Array Value} {e e':TypeId} (h:w.heap[q]?=some (.cells cs e (0,0))) (h':w.heap[q']?=some (.cells cs' e' (0,0))) (hne:e≠e'):q≠q':=by
 rintro rfl;rw [h] at h';cases h';exact hne rfl
theorem An.ne (h:An V w ab cb rb ib pb bv pv G B val s):ab≠rb∧ab≠ib∧ab≠pb∧cb≠rb∧cb≠ib∧cb≠pb∧rb≠ib∧rb≠pb∧ib≠pb:=by
 obtain⟨cs,hc⟩:=LS h.JH (q:=cb) rfl;exact⟨Dh h.head h.E6 AP,Dh h.head h.Hi AP,Dh h.head h.C8 AP,Dh hc h.E6 AP,Dh hc h.Hi AP,Dh hc h.C8 AP,Dh h.E6 h.Hi AP,Dh h.E6 h.C8 AP,Dh h.Hi h.C8 AP⟩
def Ol (rb ib pb:Nat):Nat→Prop:=fun k=>k=rb∨k=ib∨k=pb
theorem An.to {w':World} {s':AS} (h:An V w ab cb rb ib pb bv pv G B val s) (hf:Fr (Ol rb ib pb) w w')
  (hr:w'.heap[rb]?=some (.cells (s'.reach.map Value.bool).toArray 4 (0,0))) (hi:w'.heap[ib]?=some (.cells (JY s'.AG).toArray 174 (0,0)))
  (hp:w'.heap[pb]?=some (.cells (s'.rep.map (Value.int .i64)).toArray 3 (0,0))) (ha:JS B.length s'):An V w' ab cb rb ib pb bv pv G B val s':=by
 obtain⟨n1,n2,n3,n4,n5,n6,_⟩:=h.ne;have hS:∀k,Ol rb ib pb k→V.heap.size≤k:=fun k hk=>by
  have:=h.rV;have:=h.iV;have:=h.pV;rcases hk with rfl|rfl|rfl<;>assumption
 have hq:∀ {e:TypeId} {z n:Nat} {v:Value} {xs:List Value},w.ownsRow V.heap.size e z v n xs→e≠4→e≠174→e≠3→∀q,v.ownBlock=some q→¬Ol rb ib pb q:=fun ho e1 e2 e3 q hq hk=>by
  obtain⟨cs,hc⟩:=LS ho hq;rcases hk with rfl|rfl|rfl
  ·exact Dh hc h.E6 e1 rfl
  ·exact Dh hc h.Hi e2 rfl
  ·exact Dh hc h.C8 e3 rfl
 refine⟨h.AA.trans (hf.below h.AA.size hS),h.fX,h.lG,h.gnx,h.lB,h.aV,h.rV,h.iV,h.pV,?_,?_,fun k b hk=>?_,hr,hi,hp,ha⟩
 ·rw [hf.block ab h.lt.1 (by unfold Ol;omega)];exact h.head
 ·exact hf.own h.JH (hq h.JH AP AP AP)
 ·exact hf.own (h.own k b hk) (hq (h.own k b hk) AP AP AP)
theorem An.below {w':World} (h:An V w ab cb rb ib pb bv pv G B val s) (hb:Below w.heap.size w w'):An V w' ab cb rb ib pb bv pv G B val s:=by
 obtain⟨l1,l2,l3,l4,l5⟩:=h.lt;exact h.to (Fr.of hb) ((hb.block _ l3).trans h.E6) ((hb.block _ l4).trans h.Hi) ((hb.block _ l5).trans h.C8) h.El
theorem An.cells (h:An V w ab cb rb ib pb bv pv G B val s):w.cell? ⟨ab,0,none⟩=some bv∧w.cell? ⟨ab,2,none⟩=some (.slice (some ⟨cb,0,none⟩) B.length B.length)∧w.cell? ⟨ab,3,none⟩=some (.slice (some ⟨rb,0,none⟩) B.length B.length)∧w.cell? ⟨ab,4,none⟩=some (.slice (some ⟨ib,0,none⟩) B.length B.length)∧w.cell? ⟨ab,5,none⟩=some (.slice (some ⟨pb,0,none⟩) B.length B.length):=by
 refine⟨?_,?_,?_,?_,?_⟩<;>simp [World.cell?,h.head]
theorem An.code (h:An V w ab cb rb ib pb bv pv G B val s) {k:Nat} {b:AB} (hk:B[k]?=some b):w.cell? ⟨cb,k,none⟩=some (val k)∧(val k=.slice none 0 0∧b.code=[]∨∃q cap,val k=.slice (some ⟨q,0,none⟩) b.code.length cap∧b.code.length≤cap∧cap≤maxLen∧q<w.heap.size∧∀j i,b.code[j]?=some i→
  w.cell? ⟨q,j*5,none⟩=some (.int .u8 i.op)∧w.cell? ⟨q,j*5+1,none⟩=some (.int .i64 i.a)∧w.cell? ⟨q,j*5+2,none⟩=some (.int .i64 i.b)∧w.cell? ⟨q,j*5+3,none⟩=some (.int .i64 i.c)∧w.cell? ⟨q,j*5+4,none⟩=some (.int .i64 i.AD)):=by
 have hlt:=(Bc.1 hk).1;refine⟨by rw [h.JH.cellAt _ A0,D8,FI hlt];rfl,?_⟩;have ho:=h.own k b hk;rcases ho.2 with⟨h1,h2⟩|⟨g,cap,cur,h1,h2,h3,h4,h5,h6,h7⟩
 ·exact .inl ⟨h1,iQ.1 h2⟩
 ·refine .inr ⟨g,cap,h1,h4,h5,Ak h3,fun j i hi=>?_⟩
  have hj:=(Bc.1 hi).1;rw [h1] at ho;refine⟨?_,?_,?_,?_,?_⟩
  ·rw [ho.cellAt _ A0,show j*5=j*5+0 by omega,Us _ _ _ _ hi A0];rfl
  ·rw [ho.cellAt _ A0,Us _ _ _ _ hi A0];rfl
  ·rw [ho.cellAt _ A0,Us _ _ _ _ hi A0];rfl
  ·rw [ho.cellAt _ A0,Us _ _ _ _ hi A0];rfl
  ·rw [ho.cellAt _ A0,Us _ _ _ _ hi A0];rfl
theorem An.Zh (h:An V w ab cb rb ib pb bv pv G B val s) {t:Nat} (ht:t<B.length):w.cell? ⟨rb,t,none⟩=some (.bool (s.reach.getD t false))∧w.frozen? ⟨rb,t,none⟩=false:=by
 have hl:t<s.reach.length:=by rw [h.El.l1];exact ht
 constructor
 ·simp [World.cell?,h.E6,List.getD,Ab hl]
 ·simp [World.frozen?,h.E6]
theorem An.VX (h:An V w ab cb rb ib pb bv pv G B val s) {t:Nat} (ht:t<B.length):w.cell? ⟨pb,t,none⟩=some (.int .i64 (s.rep.getD t 0))∧w.frozen? ⟨pb,t,none⟩=false:=by
 have hl:t<s.rep.length:=by rw [h.El.l3];exact ht
 constructor
 ·simp [World.cell?,h.C8,List.getD,Ab hl]
 ·simp [World.frozen?,h.C8]
theorem An.Xq (h:An V w ab cb rb ib pb bv pv G B val s):∀r∈s.AG,r.length=16:=fun r hr=>(h.El.r16 r hr).len
theorem ar9 {w:World} {q:Nat} {T:TypeId} {xs cs:List Value} {o:Nat} (h:w.heap[q]?=some (.cells xs.toArray T (0,0))) (hc:∀j,j<cs.length→xs[o+j]?=cs[j]?):w.rangeAt q o cs:=fun j v hv=>by
 have hj:=(Bc.1 hv).1;have:=hc j hj;rw [hv] at this;simp [World.cell?,h,this]
theorem An.FV (h:An V w ab cb rb ib pb bv pv G B val s) {t:Nat} (ht:t<B.length):w.rangeAt ib (t*32) (AE (s.AG.getD t [])):=by
 have hl:t<s.AG.length:=by rw [h.El.l2];exact ht
 have e:s.AG.getD t []=s.AG[t]:=by simp [List.getD,Ab hl]
 have h16:=h.Xq _ (CQ hl);refine ar9 h.Hi (fun j hj=>?_);rw [e] at hj ⊢;rw [Cp,h16] at hj;exact Uq h.Xq (Ab hl) j hj
end
end
theorem refine_no (op a b c im:Int) (h0:0≤op) (r:RG) (hr:R16 r) (tk:Bool) (w:World) (T:CO w) (hno:CW ⟨op,a,b,c,im⟩=false∨(CW ⟨op,a,b,c,im⟩=true∧En r=false)) :
  Calls Tryz.prog 108 #[.agg #[.int .u8 op,.int .i64 a,.int .i64 b,.int .i64 c,.int .i64 im],.agg (AE r).toArray,.bool tk] w fun e w'=>e=.returned (Cq none)∧Below w.heap.size w w':=by
 obtain⟨V,hV,k0,k1,k2,bV,sV⟩:=O7 w #[.int .u8 op,.int .i64 a,.int .i64 b,.int .i64 c,.int .i64 im] (AE r).toArray BL.toArray 67 174 174;obtain⟨a0,a1,a2,a3,a4,lV⟩:=Iw k0;have K1:=A3 (show Ag V (w.heap.size+1) 174 r from k1);have Jv:=A3 (show (Tryz.prog.info? 174).map (·.size)=some (AE r).length by rw [Cp,hr.len];kernel_rfl);have⟨K2,BV,Co,EU⟩:=CU k2 bV (Calls.ext (Ns ⟨op,a,b,c,im⟩ h0 V (T.below bV))) (fun x:Ext V=>Calls.AW (x:=x) (Rv r hr.len x.w));clear k0 k1 k2 bV;go_enter XN,Yc;go_upto_region 1 with fail;clear hV;rcases hno with hv|⟨hv,hp⟩
 ·rw [hv] at Co
  go_wp2_with (first|(go_at_call 55;refine Co.out.mono ?_;rintro e w' ⟨rfl,y,rfl⟩)|(refine Bk rfl 174 (.tmp 6) (.tmp 16) rfl (w.heap.size+1+1) BL.toArray rfl rfl 174 _ (((Ext.h _).block _ sV).trans K2.out) A4 rfl Bd ?_));refine Af (results_cell_tmp (P:=Tryz.prog) TR _ _ (w.heap.size+1+1) BL _ rfl (Ev (Fg _ _ _ _ _ _ ((y.h.block _ sV).trans K2.out))) BI rfl A4) rfl ⟨rfl,Bu (BV.out.trans (y.h.mono BV.out.size)) A0 _⟩
 ·rw [hv] at Co
  rw [hp] at EU;go_wp2_with (first|(go_at_call 55;refine Co.out.mono ?_;rintro e w' ⟨rfl,y,rfl⟩)|(go_at_call 129;refine (EU.out _).mono ?_;rintro e w' ⟨rfl,z,rfl⟩)|(refine QC JU _ _ rfl _ _ rfl (AE r) _ (K1.out.keep (Ext.h _)).range BI rfl Jv.out ?_)|(refine Bk rfl 174 (.tmp 6) (.tmp 16) rfl (w.heap.size+1+1) BL.toArray rfl rfl 174 _ (((Ext.h _).block _ sV).trans K2.out) A4 rfl Bd ?_));refine Af (results_cell_tmp (P:=Tryz.prog) TR _ _ (w.heap.size+1+1) BL _ rfl (Ev (Fg _ _ _ _ _ _ ((z.h.block _ sV).trans K2.out))) BI rfl A4) rfl ⟨rfl,Bu (BV.out.trans (z.h.mono BV.out.size)) A0 _⟩
theorem refine_rest (op:Int) (an bn cn:Nat) (im:Int) (ha:an<16) (hop:(0≤op∧op≤21)∨(25≤op∧op≤29)) (r:RG) (hr:R16 r) (w:World) (T:CO w) (hv:CW ⟨op,an,bn,cn,im⟩=true) (hp:En r=true) :
  Calls Tryz.prog 108 #[.agg #[.int .u8 op,.int .i64 (an:Int),.int .i64 (bn:Int),.int .i64 (cn:Int),.int .i64 im],.agg (AE r).toArray,.bool false] w fun e w'=>e=.returned (Cq (some r))∧Below w.heap.size w w':=by
 have h0:0≤op:=by omega
 have LQ:=A3 hop;clear hop;obtain⟨V,hV,k0,k1,k2,bV,sV⟩:=O7 w #[.int .u8 op,.int .i64 (an:Int),.int .i64 (bn:Int),.int .i64 (cn:Int),.int .i64 im] (AE r).toArray BL.toArray 67 174 174;obtain⟨a0,a1,a2,a3,a4,lV⟩:=Iw k0;have K1:=A3 (show Ag V (w.heap.size+1) 174 r from k1);have Jv:=A3 (show (Tryz.prog.info? 174).map (·.size)=some (AE r).length by rw [Cp,hr.len];kernel_rfl);have⟨K2,BV,Co,EU⟩:=CU k2 bV (Calls.ext (Ns ⟨op,an,bn,cn,im⟩ h0 V (T.below bV))) (fun x:Ext V=>Calls.AW (x:=x) (Rv r hr.len x.w));clear k0 k1 k2 bV;go_enter XN,Yc;go_upto_region 1 with fail;clear hV;rw [hv] at Co;rw [hp] at EU;clear hp hv;have hop:=LQ.out;clear LQ;have e1:(op==22)=false:=by rw [Me];omega
 have e2:(op==23)=false:=by rw [Me];omega
 have e3:(op==24)=false:=by rw [Me];omega
 clear hop;go_upto_region 16 with (first|(go_at_call 55;refine Co.out.mono ?_;rintro e w' ⟨rfl,y,rfl⟩)|(go_at_call 129;refine (EU.out _).mono ?_;rintro e w' ⟨rfl,z,rfl⟩)|(refine QC JU _ _ rfl _ _ rfl (AE r) _ (K1.out.keep (Ext.h _)).range BI rfl Jv.out ?_));obtain⟨r3,hr3⟩:=A8 r;have l3:r3.length=16:=by rw [←hr3];exact hr.len
 have Ey:=A3 hr3;obtain⟨Z,hZ⟩:=A8 z.w;have kZ:Ag Z (w.heap.size+1) 174 r3:=by rw [←hZ];exact Ey.out▸K1.out.keep z.h
 have Od:Z.heap[w.heap.size+1+1]?=some (.cells BL.toArray 174 (0,0)):=by rw [←hZ];exact (z.h.block _ sV).trans K2.out
 have bZ:Below w.heap.size w Z:=by rw [←hZ];exact BV.out.trans (z.h.mono BV.out.size)
 rw [hZ];have⟨Dq,OP,BZ⟩:=Bh kZ.range Od bZ;have JW:=A3 (show (Tryz.prog.info? 174).map (·.size)=some (AE r3).length by rw [Cp,l3];kernel_rfl);have Qi:=A3 (show (Tryz.prog.info? 174).map (·.size)=some (AE r3).toArray.size by rw [Ig,Cp,l3];kernel_rfl);have Qz:=A3 (show (BL.toArray:Array Value).size=(AE r3).toArray.size by rw [show (AE r3).toArray.size=32 by rw [Ig,Cp,l3]];rfl);have R7:=A3 (Ct r3);clear hZ kZ Od bZ l3;go_wp2_with (first|(refine DR rfl _ _ rfl _ _ rfl (AE r3) _ Dq.out BI rfl JW.out ?_)|(refine Bk rfl 174 (.tmp 6) (.tmp 57) rfl (w.heap.size+1+1) (AE r3).toArray rfl rfl 174 _ OP.out Qi.out Qz.out R7.out ?_));refine Af (results_cell_tmp (P:=Tryz.prog) TR _ _ (w.heap.size+1+1) (AE r3) _ rfl (Ev (Fg _ _ _ _ _ _ OP.out)) BI rfl JW.out) rfl ⟨?_,Bu BZ.out A0 _⟩;rw [Ey.out];rfl
theorem refine_restT (op:Int) (an bn cn:Nat) (im:Int) (ha:an<16) (hop:(0≤op∧op≤21)∨(25≤op∧op≤29)) (r:RG) (hr:R16 r) (w:World) (T:CO w) (hv:CW ⟨op,an,bn,cn,im⟩=true) (hp:En r=true) :
  Calls Tryz.prog 108 #[.agg #[.int .u8 op,.int .i64 (an:Int),.int .i64 (bn:Int),.int .i64 (cn:Int),.int .i64 im],.agg (AE r).toArray,.bool true] w fun e w'=>e=.returned (Cq (none))∧Below w.heap.size w w':=by
 have h0:0≤op:=by omega
 have LQ:=A3 hop;clear hop;obtain⟨V,hV,k0,k1,k2,bV,sV⟩:=O7 w #[.int .u8 op,.int .i64 (an:Int),.int .i64 (bn:Int),.int .i64 (cn:Int),.int .i64 im] (AE r).toArray BL.toArray 67 174 174;obtain⟨a0,a1,a2,a3,a4,lV⟩:=Iw k0;have K1:=A3 (show Ag V (w.heap.size+1) 174 r from k1);have Jv:=A3 (show (Tryz.prog.info? 174).map (·.size)=some (AE r).length by rw [Cp,hr.len];kernel_rfl);have⟨K2,BV,Co,EU⟩:=CU k2 bV (Calls.ext (Ns ⟨op,an,bn,cn,im⟩ h0 V (T.below bV))) (fun x:Ext V=>Calls.AW (x:=x) (Rv r hr.len x.w));clear k0 k1 k2 bV;go_enter XN,Yc;go_upto_region 1 with fail;clear hV;rw [hv] at Co;rw [hp] at EU;clear hp hv;have hop:=LQ.out;clear LQ;have e1:(op==22)=false:=by rw [Me];omega
 have e2:(op==23)=false:=by rw [Me];omega
 have e3:(op==24)=false:=by rw [Me];omega
 clear hop;go_wp2_with (first|(go_at_call 55;refine Co.out.mono ?_;rintro e w' ⟨rfl,y,rfl⟩)|(go_at_call 129;refine (EU.out _).mono ?_;rintro e w' ⟨rfl,z,rfl⟩)|(refine QC JU _ _ rfl _ _ rfl (AE r) _ (K1.out.keep (Ext.h _)).range BI rfl Jv.out ?_)|(refine Bk rfl 174 (.tmp 6) (.tmp 20) rfl (w.heap.size+1+1) BL.toArray rfl rfl 174 _ (((Ext.h _).block _ sV).trans K2.out) A4 rfl Bd ?_));refine Af (results_cell_tmp (P:=Tryz.prog) TR _ _ (w.heap.size+1+1) BL _ rfl (Ev (Fg _ _ _ _ _ _ ((z.h.block _ sV).trans K2.out))) BI rfl A4) rfl ⟨rfl,Bu (BV.out.trans (z.h.mono BV.out.size)) A0 _⟩
theorem refine_jmp (op:Int) (an bn cn:Nat) (im:Int) (ha:an<16) (hop:op=24) (r:RG) (hr:R16 r) (w:World) (T:CO w) (hv:CW ⟨op,an,bn,cn,im⟩=true) (hp:En r=true) :
  Calls Tryz.prog 108 #[.agg #[.int .u8 op,.int .i64 (an:Int),.int .i64 (bn:Int),.int .i64 (cn:Int),.int .i64 im],.agg (AE r).toArray,.bool true] w fun e w'=>e=.returned (Cq (some r))∧Below w.heap.size w w':=by
 have h0:0≤op:=by omega
 have LQ:=A3 hop;clear hop;obtain⟨V,hV,k0,k1,k2,bV,sV⟩:=O7 w #[.int .u8 op,.int .i64 (an:Int),.int .i64 (bn:Int),.int .i64 (cn:Int),.int .i64 im] (AE r).toArray BL.toArray 67 174 174;obtain⟨a0,a1,a2,a3,a4,lV⟩:=Iw k0;have K1:=A3 (show Ag V (w.heap.size+1) 174 r from k1);have Jv:=A3 (show (Tryz.prog.info? 174).map (·.size)=some (AE r).length by rw [Cp,hr.len];kernel_rfl);have⟨K2,BV,Co,EU⟩:=CU k2 bV (Calls.ext (Ns ⟨op,an,bn,cn,im⟩ h0 V (T.below bV))) (fun x:Ext V=>Calls.AW (x:=x) (Rv r hr.len x.w));clear k0 k1 k2 bV;go_enter XN,Yc;go_upto_region 1 with fail;clear hV;rw [hv] at Co;rw [hp] at EU;clear hp hv;have hop:=LQ.out;clear LQ;subst hop;go_upto_region 16 with (first|(go_at_call 55;refine Co.out.mono ?_;rintro e w' ⟨rfl,y,rfl⟩)|(go_at_call 129;refine (EU.out _).mono ?_;rintro e w' ⟨rfl,z,rfl⟩)|(refine QC JU _ _ rfl _ _ rfl (AE r) _ (K1.out.keep (Ext.h _)).range BI rfl Jv.out ?_));obtain⟨r3,hr3⟩:=A8 r;have l3:r3.length=16:=by rw [←hr3];exact hr.len
 have Ey:=A3 hr3;obtain⟨Z,hZ⟩:=A8 z.w;have kZ:Ag Z (w.heap.size+1) 174 r3:=by rw [←hZ];exact Ey.out▸K1.out.keep z.h
 have Od:Z.heap[w.heap.size+1+1]?=some (.cells BL.toArray 174 (0,0)):=by rw [←hZ];exact (z.h.block _ sV).trans K2.out
 have bZ:Below w.heap.size w Z:=by rw [←hZ];exact BV.out.trans (z.h.mono BV.out.size)
 rw [hZ];have⟨Dq,OP,BZ⟩:=Bh kZ.range Od bZ;have JW:=A3 (show (Tryz.prog.info? 174).map (·.size)=some (AE r3).length by rw [Cp,l3];kernel_rfl);have Qi:=A3 (show (Tryz.prog.info? 174).map (·.size)=some (AE r3).toArray.size by rw [Ig,Cp,l3];kernel_rfl);have Qz:=A3 (show (BL.toArray:Array Value).size=(AE r3).toArray.size by rw [show (AE r3).toArray.size=32 by rw [Ig,Cp,l3]];rfl);have R7:=A3 (Ct r3);clear hZ kZ Od bZ l3;go_wp2_with (first|(refine DR rfl _ _ rfl _ _ rfl (AE r3) _ Dq.out BI rfl JW.out ?_)|(refine Bk rfl 174 (.tmp 6) (.tmp 57) rfl (w.heap.size+1+1) (AE r3).toArray rfl rfl 174 _ OP.out Qi.out Qz.out R7.out ?_));refine Af (results_cell_tmp (P:=Tryz.prog) TR _ _ (w.heap.size+1+1) (AE r3) _ rfl (Ev (Fg _ _ _ _ _ _ OP.out)) BI rfl JW.out) rfl ⟨?_,Bu BZ.out A0 _⟩;rw [Ey.out];rfl
theorem refine_jmpF (op:Int) (an bn cn:Nat) (im:Int) (ha:an<16) (hop:op=24) (r:RG) (hr:R16 r) (w:World) (T:CO w) (hv:CW ⟨op,an,bn,cn,im⟩=true) (hp:En r=true) :
  Calls Tryz.prog 108 #[.agg #[.int .u8 op,.int .i64 (an:Int),.int .i64 (bn:Int),.int .i64 (cn:Int),.int .i64 im],.agg (AE r).toArray,.bool false] w fun e w'=>e=.returned (Cq (none))∧Below w.heap.size w w':=by
 have h0:0≤op:=by omega
 have LQ:=A3 hop;clear hop;obtain⟨V,hV,k0,k1,k2,bV,sV⟩:=O7 w #[.int .u8 op,.int .i64 (an:Int),.int .i64 (bn:Int),.int .i64 (cn:Int),.int .i64 im] (AE r).toArray BL.toArray 67 174 174;obtain⟨a0,a1,a2,a3,a4,lV⟩:=Iw k0;have K1:=A3 (show Ag V (w.heap.size+1) 174 r from k1);have Jv:=A3 (show (Tryz.prog.info? 174).map (·.size)=some (AE r).length by rw [Cp,hr.len];kernel_rfl);have⟨K2,BV,Co,EU⟩:=CU k2 bV (Calls.ext (Ns ⟨op,an,bn,cn,im⟩ h0 V (T.below bV))) (fun x:Ext V=>Calls.AW (x:=x) (Rv r hr.len x.w));clear k0 k1 k2 bV;go_enter XN,Yc;go_upto_region 1 with fail;clear hV;rw [hv] at Co;rw [hp] at EU;clear hp hv;have hop:=LQ.out;clear LQ;subst hop;go_wp2_with (first|(go_at_call 55;refine Co.out.mono ?_;rintro e w' ⟨rfl,y,rfl⟩)|(go_at_call 129;refine (EU.out _).mono ?_;rintro e w' ⟨rfl,z,rfl⟩)|(refine QC JU _ _ rfl _ _ rfl (AE r) _ (K1.out.keep (Ext.h _)).range BI rfl Jv.out ?_)|(refine Bk rfl 174 (.tmp 6) (.tmp 51) rfl (w.heap.size+1+1) BL.toArray rfl rfl 174 _ (((Ext.h _).block _ sV).trans K2.out) A4 rfl Bd ?_)|(refine Bk rfl 174 (.tmp 6) (.tmp 56) rfl (w.heap.size+1+1) BL.toArray rfl rfl 174 _ (((Ext.h _).block _ sV).trans K2.out) A4 rfl Bd ?_));refine Af (results_cell_tmp (P:=Tryz.prog) TR _ _ (w.heap.size+1+1) BL _ rfl (Ev (Fg _ _ _ _ _ _ ((z.h.block _ sV).trans K2.out))) BI rfl A4) rfl ⟨rfl,Bu (BV.out.trans (z.h.mono BV.out.size)) A0 _⟩
theorem aez:∀k,k<30→(FO k).PE≤15∧(FO k).Oz≤15∧(FO k).Nw≤15∧-131072≤OM k∧PB k≤131071:=by decide
def brR (op:Int) (tk:Bool) (r:RG) (a:Int):Option RG:=if emp (Ij op tk (rg r a))=true then none else some (Cr r a (Ij op tk (rg r a)))
theorem xW {op:Int} {tk:Bool} {r:RG} (hl:r.length=16) (h0:rg r 0=(0,0)) {an:Nat} {x:Int×Int} (hx:Ij op tk (rg r (an:Int))=x) (he:¬emp x=true):r.set an x=Cr r (an:Int) x:=by
 unfold Cr;by_cases ha:an=0
 ·subst ha
  rw [A9 (show ((0:Nat):Int)=0 from rfl)];rw [show ((0:Nat):Int)=0 from rfl,h0] at hx;have:x=(0,0):=by
   unfold Ij at hx;split at hx
   ·rw [←hx];decide
   ·exfalso
    apply he;rw [←hx];decide
  rw [this];exact rO hl h0
 ·rw [A6 A0]
  simp
theorem aqi {r:RG} {an:Nat} {x:Int×Int} (h:an<r.length):rg (r.set an x) (an:Int)=x:=by
 rw [Xp];simp [List.getD,h]
theorem refine_br (op:Int) (an bn cn:Nat) (im:Int) (ha:an<16) (hop:op=22∨op=23) (r:RG) (hr:R16 r) (tk:Bool) (w:World) (T:CO w) (hv:CW ⟨op,an,bn,cn,im⟩=true) (hp:En r=true) :
  Calls Tryz.prog 108 #[.agg #[.int .u8 op,.int .i64 (an:Int),.int .i64 (bn:Int),.int .i64 (cn:Int),.int .i64 im],.agg (AE r).toArray,.bool tk] w fun e w'=>e=.returned (Cq (brR op tk r (an:Int)))∧Below w.heap.size w w':=by
 have h0:0≤op:=by omega
 have LQ:=A3 hop;clear hop;obtain⟨V,hV,k0,k1,k2,bV,sV⟩:=O7 w #[.int .u8 op,.int .i64 (an:Int),.int .i64 (bn:Int),.int .i64 (cn:Int),.int .i64 im] (AE r).toArray BL.toArray 67 174 174;obtain⟨a0,a1,a2,a3,a4,lV⟩:=Iw k0;have K1:=A3 (show Ag V (w.heap.size+1) 174 r from k1);have Jv:=A3 (show (Tryz.prog.info? 174).map (·.size)=some (AE r).length by rw [Cp,hr.len];kernel_rfl);have⟨K2,BV,Co,EU⟩:=CU k2 bV (Calls.ext (Ns ⟨op,an,bn,cn,im⟩ h0 V (T.below bV))) (fun x:Ext V=>Calls.AW (x:=x) (Rv r hr.len x.w));clear k0 k1 k2 bV;go_enter XN,Yc;go_upto_region 1 with fail;clear hV;rw [hv] at Co;rw [hp] at EU;have HP:=A3 hp;clear hp hv;have hop:=LQ.out;clear LQ;obtain⟨O,hO⟩:=A8 (brR op tk r (an:Int));have HO:=A3 hO;have NU:=A3 (show ∀x,Ij op tk (rg r (an:Int))=x→(emp x=true→O=none)∧(¬emp x=true→O=some (r.set an x)) from fun x hx=>⟨fun h=>by rw [←hO];unfold brR;rw [hx,A9 h],fun h=>by rw [←hO];unfold brR;rw [hx,A6 h,xW hr.len (fG HP.out) hx h]⟩);clear hO;obtain⟨al,hal⟩:=A8 ((rg r (an:Int)).1);obtain⟨ah,Ue⟩:=A8 ((rg r (an:Int)).2);have r4:V.cell? ⟨w.heap.size+1,an*2,none⟩=some (.int .i32 al):=by rw [←hal];exact K1.out.lo Zl
 have r5:V.cell? ⟨w.heap.size+1,an*2+1,none⟩=some (.int .i32 ah):=by rw [←Ue];exact K1.out.hi Zl
 have rf0:V.frozen? ⟨w.heap.size+1,an*2,none⟩=false:=K1.out.fz _;have rf1:V.frozen? ⟨w.heap.size+1,an*2+1,none⟩=false:=K1.out.fz _;have Ky:=A3 (show rg r (an:Int)=(al,ah) from Wu hal Ue);have ia:(an:Int)<16:=by omega
 have lR:w.heap.size+1<V.heap.size:=by omega
 clear hal Ue;have hc:((op=22∧tk=true)∨(op=23∧tk=false))∨(op=22∧tk=false)∨(op=23∧tk=true):=by rcases hop with h|h<;>cases tk<;>simp [h]
 clear hop;rcases hc with hc|hc
 focus
  obtain⟨xa,xb,hx⟩:∃xa xb,Ao (al,ah) (0,0)=(xa,xb):=⟨_,_,rfl⟩;have hf:=fun w=>aA al ah 0 0 w;rw [hx] at hf;have HF:=A3 hf;have HX:=A3 (show Ij op tk (rg r (an:Int))=(xa,xb) by rw [Ky.out];unfold Ij;rw [A9 (by rcases hc with⟨rfl,rfl⟩|⟨rfl,rfl⟩<;>decide)];exact hx);clear hf hx;rcases hc with⟨rfl,rfl⟩|⟨rfl,rfl⟩;all_goals
   go_upto_region 9 with (first|(go_at_call 55;refine Co.out.mono ?_;rintro e w' ⟨rfl,y,rfl⟩)|(go_at_call 129;refine (EU.out _).mono ?_;rintro e w' ⟨rfl,z,rfl⟩)|(refine QC JU _ _ rfl _ _ rfl (AE r) _ (K1.out.keep (Ext.h _)).range BI rfl Jv.out ?_));refine YI 9 A4 A4 ?_;simp only [Fp,List.take_zero,G0,List.drop_zero];repeat (go_big_quiet_step (first|(go_at_call 130;exact Calls.AW (Ed 0 _))|(go_at_call 134;exact Calls.AW (HF.out _))))
   refine BD ?_;rintro _ ⟨x1,rfl⟩;go_upto_region 11 with fail
 rotate_left 2
 focus
  obtain⟨xa,xb,hx⟩:∃xa xb,Oo (al,ah)=(xa,xb):=⟨_,_,rfl⟩;have hf:=fun w=>afR al ah w;rw [hx] at hf;have HF:=A3 hf;have HX:=A3 (show Ij op tk (rg r (an:Int))=(xa,xb) by rw [Ky.out];unfold Ij;rw [A6 (by rcases hc with⟨rfl,rfl⟩|⟨rfl,rfl⟩<;>decide)];exact hx);clear hf hx;rcases hc with⟨rfl,rfl⟩|⟨rfl,rfl⟩;all_goals
   go_upto_region 10 with (first|(go_at_call 55;refine Co.out.mono ?_;rintro e w' ⟨rfl,y,rfl⟩)|(go_at_call 129;refine (EU.out _).mono ?_;rintro e w' ⟨rfl,z,rfl⟩)|(refine QC JU _ _ rfl _ _ rfl (AE r) _ (K1.out.keep (Ext.h _)).range BI rfl Jv.out ?_));refine YI 8 A4 A4 ?_;simp only [Fp,List.take_zero,G0,List.drop_zero];repeat (go_big_quiet_step (first|(go_at_call 135;exact Calls.AW (HF.out _))))
   refine BD ?_;rintro _ ⟨x1,rfl⟩;go_upto_region 11 with fail
 all_goals
  obtain⟨Y,hY⟩:=A8 ((x1.w.setCell ⟨w.heap.size+1,an*2,none⟩ (.int .i32 xa)).setCell ⟨w.heap.size+1,an*2+1,none⟩ (.int .i32 xb));obtain⟨r3,hr3⟩:=A8 (r.set an (xa,xb));have l3:r3.length=16:=by rw [←hr3,LB];exact hr.len
  have kY:Ag Y (w.heap.size+1) 174 r3:=by rw [←hY,← hr3];exact (K1.out.keep x1.h).set an (xa,xb)
  have kO:Y.heap[w.heap.size+1+1]?=some (.cells BL.toArray 174 (0,0)):=by
   rw [←hY,Bb _ _ _ _ Yd,Bb _ _ _ _ Yd];exact (x1.h.block _ sV).trans K2.out
  have bY:Below w.heap.size w Y:=by rw [←hY];exact CY (CY (BV.out.trans (x1.h.mono BV.out.size)) YE _) YE _
  have kI:Y.cell? ⟨w.heap.size,1,none⟩=some (.int .i64 (an:Int)):=by
   rw [←hY,N3 (Bb _ _ _ _ (by show w.heap.size≠w.heap.size+1;omega)),N3 (Bb _ _ _ _ (by show w.heap.size≠w.heap.size+1;omega)),x1.h.cell (p:=⟨w.heap.size,1,none⟩) lV];exact a1
  rw [hY];have lY:w.heap.size+1<Y.heap.size:=kY.lt;have Xy:w.heap.size+1+1<Y.heap.size:=(Bl.1 kO).1;have Iz:rg r3 (an:Int)=(xa,xb):=by rw [←hr3];exact aqi Zl
  have z0:Y.cell? ⟨w.heap.size+1,an*2,none⟩=some (.int .i32 xa):=by have h:=kY.lo (k:=an) (by rw [l3];exact ha);rw [Iz] at h;exact h
  have z1:Y.cell? ⟨w.heap.size+1,an*2+1,none⟩=some (.int .i32 xb):=by have h:=kY.hi (k:=an) (by rw [l3];exact ha);rw [Iz] at h;exact h
  have⟨KY,KO,BY,Ey,SR⟩:=FP kY kO bY hr3 (Calls.ext (Ar xa xb Y));clear hY kY kO bY hr3 Iz r4 r5 rf0 rf1 a0 a1 a2 a3 a4;by_cases he:xb<xa
  ·have d:=Ac he
   have Ke:=A3 (show emp (xa,xb)=true by unfold emp;simpa using he);clear he;go_wp2_with (first|(go_at_call 127;refine SR.out.mono ?_;rintro e w' ⟨rfl,y5,rfl⟩)|(refine Bk rfl 174 (.tmp 6) (.tmp 51) rfl (w.heap.size+1+1) BL.toArray rfl rfl 174 _ (((Ext.h _).block _ Xy).trans KO.out) A4 rfl Bd ?_));refine Af (results_cell_tmp (P:=Tryz.prog) TR _ _ (w.heap.size+1+1) BL _ rfl (Ev (Fg _ _ _ _ _ _ ((y5.h.block _ Xy).trans KO.out))) BI rfl A4) rfl ⟨?_,Bu (BY.out.trans (y5.h.mono BY.out.size)) A0 _⟩;rw [HO.out,(NU.out _ HX.out).1 Ke.out];rfl
  ·have d:=Ad he
   have Ke:=A3 (show ¬emp (xa,xb)=true by unfold emp;simpa using he);clear he;go_upto_region 16 with (go_at_call 127;refine SR.out.mono ?_;rintro e w' ⟨rfl,y5,rfl⟩);obtain⟨Z,hZ⟩:=A8 y5.w;have kZ:Ag Z (w.heap.size+1) 174 r3:=by rw [←hZ];exact KY.out.keep y5.h
   have Od:Z.heap[w.heap.size+1+1]?=some (.cells BL.toArray 174 (0,0)):=by rw [←hZ];exact (y5.h.block _ Xy).trans KO.out
   have bZ:Below w.heap.size w Z:=by rw [←hZ];exact BY.out.trans (y5.h.mono BY.out.size)
   rw [hZ];have⟨Dq,OP,BZ⟩:=Bh kZ.range Od bZ;have JW:=A3 (show (Tryz.prog.info? 174).map (·.size)=some (AE r3).length by rw [Cp,l3];kernel_rfl);have Qi:=A3 (show (Tryz.prog.info? 174).map (·.size)=some (AE r3).toArray.size by rw [Ig,Cp,l3];kernel_rfl);have Qz:=A3 (show (BL.toArray:Array Value).size=(AE r3).toArray.size by rw [show (AE r3).toArray.size=32 by rw [Ig,Cp,l3]];rfl);have R7:=A3 (Ct r3);clear hZ kZ Od bZ l3 z0 z1;go_wp2_with (first|(refine DR rfl _ _ rfl _ _ rfl (AE r3) _ Dq.out BI rfl JW.out ?_)|(refine Bk rfl 174 (.tmp 6) (.tmp 57) rfl (w.heap.size+1+1) (AE r3).toArray rfl rfl 174 _ OP.out Qi.out Qz.out R7.out ?_));refine Af (results_cell_tmp (P:=Tryz.prog) TR _ _ (w.heap.size+1+1) (AE r3) _ rfl (Ev (Fg _ _ _ _ _ _ OP.out)) BI rfl JW.out) rfl ⟨?_,Bu BZ.out A0 _⟩;rw [HO.out,(NU.out _ HX.out).2 Ke.out,Ey.out];rfl
theorem refine_any (op a b c im:Int) (h0:0≤op) (r:RG) (hr:R16 r) (tk:Bool) (w:World) (T:CO w) :
  Calls Tryz.prog 108 #[.agg #[.int .u8 op,.int .i64 a,.int .i64 b,.int .i64 c,.int .i64 im],.agg (AE r).toArray,.bool tk] w fun e w'=>e=.returned (Cq (Cx ⟨op,a,b,c,im⟩ r tk))∧Below w.heap.size w w':=by
 by_cases hvp:CW ⟨op,a,b,c,im⟩=true∧En r=true;case neg=>
  refine (refine_no op a b c im h0 r hr tk w T (by
   cases h1:CW ⟨op,a,b,c,im⟩<;>cases h2:En r<;>simp_all)).mono fun e w' ⟨q,hb⟩=>⟨q.trans ?_,hb⟩
  unfold Cx;rw [A6 hvp]
 obtain⟨hv,hp⟩:=hvp;obtain⟨k,g1,g2,⟨a1,a2⟩,⟨b1,b2⟩,⟨c1,c2⟩,i1,i2⟩:=(QJ (i:=⟨op,a,b,c,im⟩) h0).1 hv;obtain⟨s1,s2,s3,s4,s5⟩:=aez k g2;simp only at g1 a1 a2 b1 b2 c1 c2 i1 i2;obtain⟨an,rfl⟩:∃n:Nat,a=(n:Int):=⟨a.toNat,by omega⟩;obtain⟨bn,rfl⟩:∃n:Nat,b=(n:Int):=⟨b.toNat,by omega⟩;obtain⟨cn,rfl⟩:∃n:Nat,c=(n:Int):=⟨c.toNat,by omega⟩;have ha:an<16:=by omega
 have hT:∀o:Option RG,Cx ⟨op,an,bn,cn,im⟩ r tk=o→(∀e w',(e=Ending.returned (Cq o)∧Below w.heap.size w w')→(e=.returned (Cq (Cx ⟨op,an,bn,cn,im⟩ r tk))∧Below w.heap.size w w')):=fun o h e w' ⟨q,hb⟩=>⟨by rw [h];exact q,hb⟩;have hO:op=22∨op=23∨op=24∨((0≤op∧op≤21)∨(25≤op∧op≤29)):=by omega
 rcases hO with rfl|rfl|rfl|h
 ·cases tk
  ·exact (refine_br 22 an bn cn im ha (.inl rfl) r hr false w T hv hp).mono (hT _ (by unfold Cx;rw [A9 ⟨hv,hp⟩,A9 (.inl rfl)];rfl))
  ·exact (refine_br 22 an bn cn im ha (.inl rfl) r hr true w T hv hp).mono (hT _ (by unfold Cx;rw [A9 ⟨hv,hp⟩,A9 (.inl rfl)];rfl))
 ·cases tk
  ·exact (refine_br 23 an bn cn im ha (.inr rfl) r hr false w T hv hp).mono (hT _ (by unfold Cx;rw [A9 ⟨hv,hp⟩,A9 (.inr rfl)];rfl))
  ·exact (refine_br 23 an bn cn im ha (.inr rfl) r hr true w T hv hp).mono (hT _ (by unfold Cx;rw [A9 ⟨hv,hp⟩,A9 (.inr rfl)];rfl))
 ·cases tk
  ·exact (refine_jmpF 24 an bn cn im ha rfl r hr w T hv hp).mono (hT _ (by unfold Cx;rw [A9 ⟨hv,hp⟩,A6 AR,A9 rfl,A6 AP]))
  ·exact (refine_jmp 24 an bn cn im ha rfl r hr w T hv hp).mono (hT _ (by unfold Cx;rw [A9 ⟨hv,hp⟩,A6 AR,A9 rfl,A9 rfl]))
 ·cases tk
  ·exact (refine_rest op an bn cn im ha h r hr w T hv hp).mono (hT _ (by unfold Cx;rw [A9 ⟨hv,hp⟩,A6 GD,A6 GD,A6 AP]))
  ·exact (refine_restT op an bn cn im ha h r hr w T hv hp).mono (hT _ (by unfold Cx;rw [A9 ⟨hv,hp⟩,A6 GD,A6 GD,A9 rfl]))
def Yk (r:RG) (a im:Int):Option RG:=if emp (Ao (rg r a) (0,im - 1))=true then none else some (Cr r a (Ao (rg r a) (0,im - 1)))
theorem zW {W0 wx:World} {g:Nat} {a b:Value} (k:E8 W0 wx) (h1:wx.cell? ⟨g,0,none⟩=some a) (h2:wx.cell? ⟨g,1,none⟩=some b) (h5:g<wx.heap.size) :
  ∃(g':Nat) (v:Ext W0),Value.pointer (some ⟨g,0,none⟩)=.pointer (some ⟨g',0,none⟩)∧wx=v.w∧v.w.cell? ⟨g',0,none⟩=some a∧v.w.cell? ⟨g',1,none⟩=some b∧g'<v.w.heap.size:=⟨g,⟨wx,k⟩,rfl,rfl,h1,h2,h5⟩
theorem kQ (k bl bh cl ch:Int) (hb:AL bl∧AL bh) (hc:AL cl∧AL ch):∃xa xb,Dr k (bl,bh) (cl,ch)=(xa,xb)∧∀w,Calls Tryz.prog 131 #[.int .u8 k,.agg #[.int .i32 bl,.int .i32 bh],.agg #[.int .i32 cl,.int .i32 ch]] w fun e w'=>e=.returned (.agg #[.int .i32 xa,.int .i32 xb])∧Below w.heap.size w w':=
 ⟨_,_,rfl,fun w=>gK k bl bh cl ch w hb.1.1 hb.1.2 hb.2.1 hb.2.2 hc.1.1 hc.1.2 hc.2.1 hc.2.2⟩
theorem ya (op:Int) (an bn cn:Nat) (im:Int) (ha:an<16) (hb:bn<16) (hc:cn<16) (him : -131072≤im∧im≤131071) (h0:0≤op) (h30:op<30) (r:RG) (hr:R16 r) (w:World) (T:CO w) (hv:CW ⟨op,an,bn,cn,im⟩=true) (hp:En r=true) :
  Calls Tryz.prog 107 #[.agg #[.int .u8 op,.int .i64 (an:Int),.int .i64 (bn:Int),.int .i64 (cn:Int),.int .i64 im],.agg (AE r).toArray] w fun e w'=>e=.returned (Cq (Hu ⟨op,an,bn,cn,im⟩ r))∧Below w.heap.size w w':=by
 have HTZ:=A3 (fun (o1:2≤op∧op≤13) (hz:(op=5∨op=6)∧rg r (cn:Int)=(0,0))=>show Hu ⟨op,an,bn,cn,im⟩ r=none by unfold Hu;rw [A9 ⟨hv,hp⟩,A9 o1,A9 hz]);have HTA:=A3 (fun (o1:2≤op∧op≤13) (hz:¬((op=5∨op=6)∧rg r (cn:Int)=(0,0)))=>show Hu ⟨op,an,bn,cn,im⟩ r=some (Cr r (an:Int) (Dr (Lm op) (rg r (bn:Int)) (rg r (cn:Int)))) by unfold Hu;rw [A9 ⟨hv,hp⟩,A9 o1,A6 hz]);have RL:=A3 (fun (o1:¬(2≤op∧op≤13))=>show Hu ⟨op,an,bn,cn,im⟩ r=(if op=14 then some (Cr r an (im,im)) else if op=15 then some (Cr r an (Dr 6 (rg r bn) (im,im))) else if op=16 then some (Cr r an (Dr 14 (rg r bn) (im,im)))
   else if op=17 then some (Cr r an (Dr 12 (rg r bn) (im,im))) else if op=18∨op=20∨op=26 then some (Cr r an Yq) else if op=25 then Yk r an im else some r) by
  unfold Hu Yk
  rw [A9 ⟨hv,hp⟩,A6 o1])
 obtain⟨O,hO⟩:=A8 (Hu ⟨op,an,bn,cn,im⟩ r);rw [hO] at HTZ HTA RL ⊢;clear hO;obtain⟨V,hV,k0,k1,k2,bV,sV⟩:=O7 w #[.int .u8 op,.int .i64 (an:Int),.int .i64 (bn:Int),.int .i64 (cn:Int),.int .i64 im] (AE r).toArray BL.toArray 67 174 174;obtain⟨a0,a1,a2,a3,a4,lV⟩:=Iw k0;have K1:=A3 (show Ag V (w.heap.size+1) 174 r from k1);have Jv:=A3 (show (Tryz.prog.info? 174).map (·.size)=some (AE r).length by rw [Cp,hr.len];kernel_rfl);have⟨K2,BV,Co,EU⟩:=CU k2 bV (Calls.ext (Ns ⟨op,an,bn,cn,im⟩ h0 V (T.below bV))) (fun x:Ext V=>Calls.AW (x:=x) (Rv r hr.len x.w));clear k0 k1 k2 bV;go_enter Tryz.func107,Tryz.ntmps107;go_upto_region 1 with fail;clear hV;rw [hv] at Co;rw [hp] at EU;have ZK:IntKind.i32.wrap im=im:=IntWalk.i32_in _ A0;go_upto_region 4 with (first|(go_at_call 55;refine Co.out.mono ?_;rintro e w' ⟨rfl,y,rfl⟩)|(go_at_call 129;refine (EU.out _).mono ?_;rintro e w' ⟨rfl,z,rfl⟩)|(refine QC JU _ _ rfl _ _ rfl (AE r) _ (K1.out.keep (Ext.h _)).range BI rfl Jv.out ?_)|(go_at_call 130;refine (Calls.AW (Ed im _)).mono ?_;rintro e w' ⟨rfl,q,rfl⟩));obtain⟨cb,hcb⟩:=A8 q.w.heap.size;obtain⟨U,hU⟩:=A8 (q.w.alloc (.cells #[.int .i32 im,.int .i32 im] 172));have bU:Below V.heap.size V U:=hU▸q.h.alloc q.h.size _;have kC:U.heap[q.w.heap.size]?=some (.cells #[.int .i32 im,.int .i32 im] 172 (0,0)):=hU▸AY _ _;rw [hU];rw [hcb] at kC ⊢;have g0:U.cell? ⟨cb,0,none⟩=some (.int .i32 im):=J9 _ _ _ _ _ _ kC;have g1:U.cell? ⟨cb,1,none⟩=some (.int .i32 im):=J9 _ _ _ _ _ _ kC;have lC:cb<U.heap.size:=(Bl.1 kC).1;have u0:U.cell? ⟨w.heap.size,0,none⟩=some (.int .u8 op):=by rw [bU.cell (p:=⟨w.heap.size,0,none⟩) lV];exact a0
 have u1:U.cell? ⟨w.heap.size,1,none⟩=some (.int .i64 (an:Int)):=by rw [bU.cell (p:=⟨w.heap.size,1,none⟩) lV];exact a1
 have u2:U.cell? ⟨w.heap.size,2,none⟩=some (.int .i64 (bn:Int)):=by rw [bU.cell (p:=⟨w.heap.size,2,none⟩) lV];exact a2
 have u3:U.cell? ⟨w.heap.size,3,none⟩=some (.int .i64 (cn:Int)):=by rw [bU.cell (p:=⟨w.heap.size,3,none⟩) lV];exact a3
 have u4:U.cell? ⟨w.heap.size,4,none⟩=some (.int .i64 im):=by rw [bU.cell (p:=⟨w.heap.size,4,none⟩) lV];exact a4
 have⟨Mv,UK2⟩:=AQ (K1.out.keep bU) ((bU.block _ sV).trans K2.out);have sU:=bU.size;have BU:=A3 (BV.out.trans (bU.mono BV.out.size));obtain⟨bl,hbl⟩:=A8 ((rg r (bn:Int)).1);obtain⟨bh,QE⟩:=A8 ((rg r (bn:Int)).2);obtain⟨cl,hcl⟩:=A8 ((rg r (cn:Int)).1);obtain⟨ch,hch⟩:=A8 ((rg r (cn:Int)).2);obtain⟨al,hal⟩:=A8 ((rg r (an:Int)).1);obtain⟨ah,Ue⟩:=A8 ((rg r (an:Int)).2);have r0:U.cell? ⟨w.heap.size+1,bn*2,none⟩=some (.int .i32 bl):=by rw [←hbl];exact Mv.out.lo (by rw [hr.len];exact hb)
 have r1:U.cell? ⟨w.heap.size+1,bn*2+1,none⟩=some (.int .i32 bh):=by rw [←QE];exact Mv.out.hi (by rw [hr.len];exact hb)
 have r2:U.cell? ⟨w.heap.size+1,cn*2,none⟩=some (.int .i32 cl):=by rw [←hcl];exact Mv.out.lo (by rw [hr.len];exact hc)
 have r3:U.cell? ⟨w.heap.size+1,cn*2+1,none⟩=some (.int .i32 ch):=by rw [←hch];exact Mv.out.hi (by rw [hr.len];exact hc)
 have r4:U.cell? ⟨w.heap.size+1,an*2,none⟩=some (.int .i32 al):=by rw [←hal];exact Mv.out.lo Zl
 have r5:U.cell? ⟨w.heap.size+1,an*2+1,none⟩=some (.int .i32 ah):=by rw [←Ue];exact Mv.out.hi Zl
 have⟨ND,Jp,Ky⟩:=Bh (show rg r (bn:Int)=(bl,bh) from Wu hbl QE) (show rg r (cn:Int)=(cl,ch) from Wu hcl hch) (show rg r (an:Int)=(al,ah) from Wu hal Ue);have ia:(an:Int)<16:=by omega
 have ib:(bn:Int)<16:=by omega
 have ic:(cn:Int)<16:=by omega
 have lR:w.heap.size+1<U.heap.size:=by omega
 have lI:w.heap.size<U.heap.size:=by omega
 have lO:w.heap.size+1+1<U.heap.size:=by omega
 have rf0:U.frozen? ⟨w.heap.size+1,an*2,none⟩=false:=Mv.out.fz _;have rf1:U.frozen? ⟨w.heap.size+1,an*2+1,none⟩=false:=Mv.out.fz _;have Am:AL bl∧AL bh:=by have h:=hr.at_ (bn:Int);rw [ND.out] at h;exact h
 have hcw:AL cl∧AL ch:=by have h:=hr.at_ (cn:Int);rw [Jp.out] at h;exact h
 have haw:AL al∧AL ah:=by have h:=hr.at_ (an:Int);rw [Ky.out] at h;exact h
 clear hcb hU bU kC a0 a1 a2 a3 a4 hbl QE hcl hch hal Ue Co EU K1 K2 ZK hv;have HP:=A3 hp;clear hp;have hC:(op=0∨op=1∨op=19∨op=21∨op=22∨op=23∨op=24∨op=27∨op=28∨op=29)∨((2≤op∧op≤13)∧(op=5∨op=6)∧rg r (cn:Int)=(0,0))∨((2≤op∧op≤13)∧¬((op=5∨op=6)∧rg r (cn:Int)=(0,0))∧(op=5∨op=6))∨((2≤op∧op≤13)∧¬((op=5∨op=6)∧rg r (cn:Int)=(0,0))∧¬(op=5∨op=6))∨op=14∨op=15∨op=16∨op=17∨(op=18∨op=20∨op=26)∨op=25:=by
  by_cases hz:rg r (cn:Int)=(0,0)
  ·simp only [hz,and_true];omega
  ·simp only [hz,and_false,not_false_eq_true,true_and];omega
 rcases hC with h|⟨o1,hz⟩|⟨o1,hz,h5⟩|⟨o1,hz,h5⟩|h|h|h|h|h|h
 focus
  have EO:=RL.out A0;rw [A6 A0,A6 A0,A6 A0,A6 A0,A6 A0,A6 A0] at EO;have Gs:=A3 EO;clear EO;rcases h with rfl|rfl|rfl|rfl|rfl|rfl|rfl|rfl|rfl|rfl;all_goals
   go_upto_region 23 with fail;obtain⟨Y,hY⟩:=A8 U;obtain⟨rs,GV⟩:=A8 r;have lrs:rs.length=16:=by rw [←GV];exact hr.len
   have kY:Ag Y (w.heap.size+1) 174 rs:=by rw [←hY,← GV];exact Mv.out
   have kO:Y.heap[w.heap.size+1+1]?=some (.cells BL.toArray 174 (0,0)):=by rw [←hY];exact UK2.out
   have bY:Below w.heap.size w Y:=by rw [←hY];exact BU.out
   have EC:=A3 (show ∀r3,rs.set 0 (0,0)=r3→O=some r3 from fun r3 h=>by rw [Gs.out,← h,← GV,rO hr.len (fG HP.out)]);clear GV
 rotate_left 10
 focus
  have EZ:∀w:World,(binOp .eql 172 (.agg #[.int .i32 cl,.int .i32 ch]) (.agg #[.int .i32 0,.int .i32 0])).run Tryz.prog w=.ok (.bool true) w:=fun w=>by
   rw [Ki];have h:=Jp.out;rw [hz.2] at h;simp only [cX] at h;rw [←h.1,← h.2];rfl
  have Gs:=A3 (HTZ.out o1 hz);obtain⟨hop,-⟩:=hz;rcases hop with rfl|rfl;all_goals
   go_upto_region 5 with fail;refine C7 A4 A4 ?_;repeat (go_big_quiet_step (first|(go_at_call 130;exact Calls.AW (Ed 0 _))))
   refine BD ?_;rintro _ ⟨x,rfl⟩;go_wp2_with (first|(refine Bk rfl 174 (.tmp 4) (.tmp 46) rfl (w.heap.size+1+1) BL.toArray rfl rfl 174 _ (((Ext.h _).block _ lO).trans UK2.out) A4 rfl Bd ?_));refine Af (results_cell_tmp (P:=Tryz.prog) aU _ _ (w.heap.size+1+1) BL _ rfl (Ev (Fg _ _ _ _ _ _ ((x.h.block _ lO).trans UK2.out))) BI rfl A4) rfl ⟨by rw [Gs.out];rfl,Bu (BU.out.trans (x.h.mono BU.out.size)) A0 _⟩
 focus
  have d1:decide (2≤op)=true:=Ac o1.1;have d2:decide (op≤13)=true:=Ac o1.2;have IL:=A3 (ru op o1.1 o1.2);have U7:=HTA.out o1 hz;have HZ:=A3 hz;have hap:=fun w=>gK (Lm op) bl bh cl ch w (Am).1.1 Am.1.2 Am.2.1 Am.2.2 hcw.1.1 hcw.1.2 hcw.2.1 hcw.2.2;obtain⟨xa,Hv⟩:=A8 ((Dr (Lm op) (bl,bh) (cl,ch)).1);obtain⟨xb,hxb⟩:=A8 ((Dr (Lm op) (bl,bh) (cl,ch)).2);rw [Hv,hxb] at hap;have OX:=A3 hap;rw [ND.out,Jp.out,show Dr (Lm op) (bl,bh) (cl,ch)=(xa,xb) from Wu Hv hxb] at U7;have Gs:=A3 U7;clear hz hap Hv hxb Am hcw U7;have EZ:∀w:World,(binOp .eql 172 (.agg #[.int .i32 cl,.int .i32 ch]) (.agg #[.int .i32 0,.int .i32 0])).run Tryz.prog w=.ok (.bool false) w:=fun w=>by
   rw [Ki,show (cl==0 && ch==0)=false by
    rw [Ze];intro h;rw [Eh,Vu,Vu] at h
    exact HZ.out ⟨h5,by rw [Jp.out,h.1,h.2]⟩]
  clear HZ;rcases h5 with rfl|rfl;all_goals
   go_upto_region 5 with fail;refine C7 A4 A4 ?_;repeat (go_big_quiet_step (first|(go_at_call 130;exact Calls.AW (Ed 0 _))))
   refine BD ?_;rintro _ ⟨x,rfl⟩;go_upto_region 7 with fail;refine YI 15 A4 A4 ?_;simp only [Fp,List.take_zero,G0,List.drop_zero];repeat (go_big_quiet_step (first|(go_at_call 132;exact Calls.Tu (IL.out _))|(go_at_call 131;exact Calls.AW (OX.out _))))
   refine BD ?_;rintro _ ⟨x1,rfl⟩;go_upto_region 23 with fail;obtain⟨W1,hW1⟩:=A8 x1.w;have Ib:=A3 (show Below U.heap.size U W1 from hW1▸x1.h);rw [hW1];clear hW1
 rotate_left 2
 focus
  have d1:decide (2≤op)=true:=Ac o1.1;have d2:decide (op≤13)=true:=Ac o1.2;have IL:=A3 (ru op o1.1 o1.2);have U7:=HTA.out o1 hz;have HZ:=A3 hz;have hap:=fun w=>gK (Lm op) bl bh cl ch w (Am).1.1 Am.1.2 Am.2.1 Am.2.2 hcw.1.1 hcw.1.2 hcw.2.1 hcw.2.2;obtain⟨xa,Hv⟩:=A8 ((Dr (Lm op) (bl,bh) (cl,ch)).1);obtain⟨xb,hxb⟩:=A8 ((Dr (Lm op) (bl,bh) (cl,ch)).2);rw [Hv,hxb] at hap;have OX:=A3 hap;rw [ND.out,Jp.out,show Dr (Lm op) (bl,bh) (cl,ch)=(xa,xb) from Wu Hv hxb] at U7;have Gs:=A3 U7;clear hz hap Hv hxb Am hcw U7;have e5:(op==5)=false:=by rw [Ze];intro h;exact h5 (.inl Nv)
  have e6:(op==6)=false:=by rw [Ze];intro h;exact h5 (.inr Nv)
  clear h5;go_upto_region 5 with fail;refine C7 A4 A4 ?_;repeat (go_big_quiet_step (fail))
  refine BD ?_;rintro _ ⟨x,rfl⟩;go_upto_region 7 with fail;refine YI 15 A4 A4 ?_;simp only [Fp,List.take_zero,G0,List.drop_zero];repeat (go_big_quiet_step (first|(go_at_call 132;exact Calls.Tu (IL.out _))|(go_at_call 131;exact Calls.AW (OX.out _))))
  refine BD ?_;rintro _ ⟨x1,rfl⟩;go_upto_region 23 with fail;obtain⟨W1,hW1⟩:=A8 x1.w;have Ib:=A3 (show Below U.heap.size U W1 from hW1▸x1.h);rw [hW1];clear hW1
 rotate_left 1
 focus
  have EO:=RL.out A0;rw [A9 h] at EO;subst h;obtain⟨xa,Hv⟩:∃x,im=x:=⟨_,rfl⟩;obtain⟨xb,hxb⟩:∃x,xa=x:=⟨_,rfl⟩;rw [show ((im,im):Int×Int)=(xa,xb) by rw [←hxb,← Hv]] at EO;have Gs:=A3 EO;rw [Hv] at g0;rw [Hv,hxb] at g1;clear EO Hv hxb;go_upto_region 23 with fail;obtain⟨W1,hW1⟩:=A8 U;have Ib:=A3 (show Below U.heap.size U W1 from hW1▸(AV U.heap.size U));rw [hW1];clear hW1
 rotate_left 1
 focus
  have EO:=RL.out A0;rw [A6 A0,A9 h] at EO;subst h;obtain⟨xa,xb,hx,hap⟩:=kQ 6 bl bh im im Am (by unfold AL;omega);have OX:=A3 hap;rw [ND.out,hx] at EO;have Gs:=A3 EO;clear hap hx Am hcw EO;go_upto_region 11 with fail;refine KA 9 A4 A4 ?_;simp only [Fp,List.take_zero,G0,List.drop_zero];repeat (go_big_quiet_step (first|(go_at_call 131;exact Calls.AW (OX.out _))))
  refine BD ?_;rintro _ ⟨x1,rfl⟩;go_upto_region 23 with fail;obtain⟨W1,hW1⟩:=A8 x1.w;have Ib:=A3 (show Below U.heap.size U W1 from hW1▸x1.h);rw [hW1];clear hW1
 rotate_left 1
 focus
  have EO:=RL.out A0;rw [A6 A0,A6 A0,A9 h] at EO;subst h;obtain⟨xa,xb,hx,hap⟩:=kQ 14 bl bh im im Am (by unfold AL;omega);have OX:=A3 hap;rw [ND.out,hx] at EO;have Gs:=A3 EO;clear hap hx Am hcw EO;go_upto_region 13 with fail;refine KA 9 A4 A4 ?_;simp only [Fp,List.take_zero,G0,List.drop_zero];repeat (go_big_quiet_step (first|(go_at_call 131;exact Calls.AW (OX.out _))))
  refine BD ?_;rintro _ ⟨x1,rfl⟩;go_upto_region 23 with fail;obtain⟨W1,hW1⟩:=A8 x1.w;have Ib:=A3 (show Below U.heap.size U W1 from hW1▸x1.h);rw [hW1];clear hW1
 rotate_left 1
 focus
  have EO:=RL.out A0;rw [A6 A0,A6 A0,A6 A0,A9 h] at EO;subst h;obtain⟨xa,xb,hx,hap⟩:=kQ 12 bl bh im im Am (by unfold AL;omega);have OX:=A3 hap;rw [ND.out,hx] at EO;have Gs:=A3 EO;clear hap hx Am hcw EO;go_upto_region 15 with fail;refine KA 9 A4 A4 ?_;simp only [Fp,List.take_zero,G0,List.drop_zero];repeat (go_big_quiet_step (first|(go_at_call 131;exact Calls.AW (OX.out _))))
  refine BD ?_;rintro _ ⟨x1,rfl⟩;go_upto_region 23 with fail;obtain⟨W1,hW1⟩:=A8 x1.w;have Ib:=A3 (show Below U.heap.size U W1 from hW1▸x1.h);rw [hW1];clear hW1
 rotate_left 1
 focus
  have EO:=RL.out A0;rw [A6 A0,A6 A0,A6 A0,A6 A0,A9 h] at EO;obtain⟨xa,Hv⟩:∃x,(-2147483648:Int)=x:=⟨_,rfl⟩;obtain⟨xb,hxb⟩:∃x,(2147483647:Int)=x:=⟨_,rfl⟩;rw [show Yq=(xa,xb) by rw [←Hv,← hxb];rfl] at EO;have⟨Gs,HFU⟩:=AQ EO (fun w=>Fa w);rw [Hv,hxb] at HFU;clear EO Hv hxb;rcases h with rfl|rfl|rfl;all_goals
   go_upto_region 17 with fail;refine KA 4 A4 A4 ?_;simp only [Fp,List.take_zero,G0,List.drop_zero];repeat (go_big_quiet_step (first|(go_at_call 133;exact Calls.AW (HFU.out _))))
   refine BD ?_;rintro _ ⟨x1,rfl⟩;go_upto_region 23 with fail;obtain⟨W1,hW1⟩:=A8 x1.w;have Ib:=A3 (show Below U.heap.size U W1 from hW1▸x1.h);rw [hW1];clear hW1
 rotate_left 3
 focus
  have EO:=RL.out A0;rw [A6 A0,A6 A0,A6 A0,A6 A0,A6 A0,A9 h] at EO;subst h;obtain⟨xa,xb,hx⟩:∃xa xb,Ao (al,ah) (0,im - 1)=(xa,xb):=⟨_,_,rfl⟩;have hme:=fun w=>aA al ah 0 (im - 1) w;rw [hx] at hme;have Pg:=A3 hme;have HX:=A3 (show Ao (rg r (an:Int)) (0,im - 1)=(xa,xb) by rw [Ky.out];exact hx);have HB9:=A3 EO;clear EO;have w1:IntKind.i64.wrap (im - 1)=im - 1:=Dn _ A0;have w2:IntKind.i32.wrap (im - 1)=im - 1:=IntWalk.i32_in _ A0;clear hme hx Am hcw haw;go_upto_region 19 with fail;go_cut [7] from 131 to 140 (fun s7 wx=>∃(g:Nat) (v:Ext U),s7=.pointer (some ⟨g,0,none⟩)∧wx=v.w∧v.w.cell? ⟨g,0,none⟩=some (.int .i32 xa)∧v.w.cell? ⟨g,1,none⟩=some (.int .i32 xb)∧g<v.w.heap.size)
  case first=>
   as_aux_lemma=>
    have K0:E8 U U:=AV _ _;go_region_held3 (fun w'=>(∀b o,b<U.heap.size→w'.cell? ⟨b,o,none⟩=U.cell? ⟨b,o,none⟩)∧E8 U w') ((refine aqB rfl ?_;(repeat (first|(with_reducible assumption)|(with_reducible refine E8.alloc ?_ _)|(with_reducible refine E8.ext ?_ _)|(with_reducible refine E8.set ?_ pU _)|(with_reducible refine E8.drew ?_)))))
     (first|(go_at_call 134;(first|(with_reducible refine (Calls.AW (Pg.out _)).mono ?_)|(with_reducible refine (Calls.ext (Pg.out _)).mono ?_));rintro e _ ⟨rfl,y,rfl⟩;have KK:E8 U y.w:=(by (repeat (first|(with_reducible assumption)|(with_reducible refine E8.alloc ?_ _)|(with_reducible refine E8.ext ?_ _)|(with_reducible refine E8.set ?_ pU _)|(with_reducible refine E8.drew ?_))));have KS:U.heap.size≤y.w.heap.size:=KK.size;(have KZ:=Y9 (Ext.h y));(try simp only [F9,World.size_drew] at KZ);(try have KM:U.heap.size<y.w.heap.size:=A0)))
    all_goals (go_wp2_with fail;go_meet;refine zW ?_ ?_ ?_ ?_)
    all_goals first
     | (with_reducible show E8 _ _;(repeat (first|(with_reducible assumption)|(with_reducible refine E8.alloc ?_ _)|(with_reducible refine E8.ext ?_ _)|(with_reducible refine E8.set ?_ pU _)|(with_reducible refine E8.drew ?_)));done)
     | (simp;done)
     | (simp;omega)
     | (go_simp;done)
     | (simp;refine World.cell?_setCell_same _ _ _ (u:=.int .i32 0) ?_;go_simp;done)
     | (go_simp;refine World.cell?_setCell_same _ _ _ (u:=.int .i32 0) ?_;go_simp;done)
  obtain⟨tb,v,rfl,rfl,t0',t1',iK⟩:=hcut;obtain⟨U2,I8⟩:=A8 v.w;have b2:Below U.heap.size U U2:=I8▸v.h;rw [I8] at t0' t1' iK ⊢;have t0:=t0';have t1:=t1';have lt2:=iK;have v1:U2.cell? ⟨w.heap.size,1,none⟩=some (.int .i64 (an:Int)):=by rw [b2.cell (p:=⟨w.heap.size,1,none⟩) lI];exact u1
  have s4:U2.cell? ⟨w.heap.size+1,an*2,none⟩=some (.int .i32 al):=by rw [b2.cell (p:=⟨w.heap.size+1,an*2,none⟩) lR];exact r4
  have s5:U2.cell? ⟨w.heap.size+1,an*2+1,none⟩=some (.int .i32 ah):=by rw [b2.cell (p:=⟨w.heap.size+1,an*2+1,none⟩) lR];exact r5
  have sf0:U2.frozen? ⟨w.heap.size+1,an*2,none⟩=false:=(Mv.out.keep b2).fz _;have sf1:U2.frozen? ⟨w.heap.size+1,an*2+1,none⟩=false:=(Mv.out.keep b2).fz _;have li2:w.heap.size<U2.heap.size:=by have:=b2.size;omega
  have lr2:w.heap.size+1<U2.heap.size:=by have:=b2.size;omega
  have lo2:w.heap.size+1+1<U2.heap.size:=by have:=b2.size;omega
  have⟨B2,KO2⟩:=AQ b2 ((b2.block _ lO).trans UK2.out);clear t0' t1' iK I8 b2 r0 r1 r2 r3 r4 r5 u0 u1 u2 u3 u4 rf0 rf1 g0 g1 w1 w2;have SR:=A3 (Calls.ext (Ar xa xb U2));by_cases he:xb<xa
  ·have d:=Ac he
   have Ke:=A3 (show emp (xa,xb)=true by unfold emp;simpa using he);clear he;go_wp2_with (first|(go_at_call 127;refine SR.out.mono ?_;rintro e w' ⟨rfl,y,rfl⟩)|(refine Bk rfl 174 (.tmp 4) (.tmp 143) rfl (w.heap.size+1+1) BL.toArray rfl rfl 174 _ (((Ext.h _).block _ lo2).trans KO2.out) A4 rfl Bd ?_));refine Af (results_cell_tmp (P:=Tryz.prog) aU _ _ (w.heap.size+1+1) BL _ rfl (Ev (Fg _ _ _ _ _ _ ((y.h.block _ lo2).trans KO2.out))) BI rfl A4) rfl ⟨?_,Bu (BU.out.trans ((B2.out.trans (y.h.mono B2.out.size)).mono BU.out.size)) A0 _⟩;rw [HB9.out,show Yk r (an:Int) im=none by unfold Yk;rw [HX.out,A9 Ke.out]];rfl
  have d:=Ad he;have Ke:=A3 (show ¬emp (xa,xb)=true by unfold emp;simpa using he);clear he;go_upto_region 22 with (go_at_call 127;refine SR.out.mono ?_;rintro e w' ⟨rfl,y,rfl⟩);go_upto_region 23 with fail;have Gs:=A3 (show O=some (Cr r (an:Int) (xa,xb)) by rw [HB9.out];unfold Yk;rw [HX.out,A6 Ke.out]);have BY5:=A3 (B2.out.trans (y.h.mono B2.out.size));obtain⟨W1,hW1⟩:=A8 y.w;have Ib:=A3 (show Below U.heap.size U W1 from hW1▸BY5.out);rw [hW1];clear hW1
 rotate_left 1;rotate_left 10
 iterate 11
  focus
   obtain⟨Y,hY⟩:=A8 ((W1.setCell ⟨w.heap.size+1,an*2,none⟩ (.int .i32 xa)).setCell ⟨w.heap.size+1,an*2+1,none⟩ (.int .i32 xb));obtain⟨rs,GV⟩:=A8 (r.set an (xa,xb));have lrs:rs.length=16:=by rw [←GV,LB];exact hr.len
   have kY:Ag Y (w.heap.size+1) 174 rs:=by rw [←hY,← GV];exact (Mv.out.keep Ib.out).set an (xa,xb)
   have kO:Y.heap[w.heap.size+1+1]?=some (.cells BL.toArray 174 (0,0)):=by
    rw [←hY,Bb _ _ _ _ Yd,Bb _ _ _ _ Yd];exact (Ib.out.block _ lO).trans UK2.out
   have bY:Below w.heap.size w Y:=by rw [←hY];exact CY (CY (BU.out.trans (Ib.out.mono BU.out.size)) YE _) YE _
   have EC:=A3 (show ∀r3,rs.set 0 (0,0)=r3→O=some r3 from fun r3 h=>by rw [Gs.out,← h,← GV,mL hr.len (fG HP.out)]);clear GV
  rotate_left 1
 all_goals
  rw [hY];have lY:w.heap.size+1<Y.heap.size:=kY.lt;have Xy:w.heap.size+1+1<Y.heap.size:=(Bl.1 kO).1;have z0:Y.cell? ⟨w.heap.size+1,0,none⟩=some (.int .i32 (rg rs 0).1):=by simpa using kY.lo (k:=0) A0
  have z1:Y.cell? ⟨w.heap.size+1,1,none⟩=some (.int .i32 (rg rs 0).2):=by simpa using kY.hi (k:=0) A0
  have zf0:Y.frozen? ⟨w.heap.size+1,0,none⟩=false:=kY.fz _;have zf1:Y.frozen? ⟨w.heap.size+1,1,none⟩=false:=kY.fz _;have⟨KY,KO,BY,LRS,HOF⟩:=FP kY kO bY lrs (Calls.ext (Ed 0 Y));clear hY kY kO bY lrs;go_upto_region 24 with (go_at_call 130;refine HOF.out.mono ?_;rintro e w' ⟨rfl,y2,rfl⟩);obtain⟨Z,hZ⟩:=A8 ((y2.w.setCell ⟨w.heap.size+1,0,none⟩ (.int .i32 0)).setCell ⟨w.heap.size+1,1,none⟩ (.int .i32 0));obtain⟨r3,hr3⟩:=A8 (rs.set 0 (0,0));have l3:r3.length=16:=by rw [←hr3,LB];exact LRS.out
  have kZ:Ag Z (w.heap.size+1) 174 r3:=by
   rw [←hZ,← hr3];have h:=(KY.out.keep y2.h).set 0 (0,0);simpa using h
  have Od:Z.heap[w.heap.size+1+1]?=some (.cells BL.toArray 174 (0,0)):=by
   rw [←hZ,Bb _ _ _ _ Yd,Bb _ _ _ _ Yd];exact (y2.h.block _ Xy).trans KO.out
  have bZ:Below w.heap.size w Z:=by rw [←hZ];exact CY (CY (BY.out.trans (y2.h.mono BY.out.size)) YE _) YE _
  rw [hZ];have⟨Dq,OP,BZ⟩:=Bh kZ.range Od bZ;have JW:=A3 (show (Tryz.prog.info? 174).map (·.size)=some (AE r3).length by rw [Cp,l3];kernel_rfl);have Qi:=A3 (show (Tryz.prog.info? 174).map (·.size)=some (AE r3).toArray.size by rw [Ig,Cp,l3];kernel_rfl);have Qz:=A3 (show (BL.toArray:Array Value).size=(AE r3).toArray.size by rw [show (AE r3).toArray.size=32 by rw [Ig,Cp,l3]];rfl);have⟨R7,WT⟩:=AQ (Ct r3) (EC.out r3 hr3);clear hZ kZ Od bZ hr3 l3 z0 z1 zf0 zf1;go_wp2_with (first|(refine DR rfl _ _ rfl _ _ rfl (AE r3) _ Dq.out BI rfl JW.out ?_)|(refine Bk rfl 174 (.tmp 4) (.tmp 150) rfl (w.heap.size+1+1) (AE r3).toArray rfl rfl 174 _ OP.out Qi.out Qz.out R7.out ?_));refine Af (results_cell_tmp (P:=Tryz.prog) aU _ _ (w.heap.size+1+1) (AE r3) _ rfl (Ev (Fg _ _ _ _ _ _ OP.out)) BI rfl JW.out) rfl ⟨?_,Bu BZ.out A0 _⟩;rw [WT.out];rfl
theorem apF:∀k,k<30→(FO k).PE≤15∧(FO k).Oz≤15∧(FO k).Nw≤15∧-131072≤OM k∧PB k≤131071:=by decide
theorem aqu (op a b c im:Int) (h0:0≤op) (r:RG) (hr:R16 r) (w:World) (T:CO w) :
  Calls Tryz.prog 107 #[.agg #[.int .u8 op,.int .i64 a,.int .i64 b,.int .i64 c,.int .i64 im],.agg (AE r).toArray] w fun e w'=>e=.returned (Cq (Hu ⟨op,a,b,c,im⟩ r))∧Below w.heap.size w w':=by
 by_cases hvp:CW ⟨op,a,b,c,im⟩=true∧En r=true;case neg=>
  refine (apE op a b c im h0 r hr w T (by
   cases h1:CW ⟨op,a,b,c,im⟩<;>cases h2:En r<;>simp_all)).mono fun e w' ⟨q,hb⟩=>⟨q.trans ?_,hb⟩
  unfold Hu;rw [A6 hvp]
 obtain⟨hv,hp⟩:=hvp;obtain⟨k,g1,g2,⟨a1,a2⟩,⟨b1,b2⟩,⟨c1,c2⟩,i1,i2⟩:=(QJ (i:=⟨op,a,b,c,im⟩) h0).1 hv;obtain⟨s1,s2,s3,s4,s5⟩:=apF k g2;simp only at g1 a1 a2 b1 b2 c1 c2 i1 i2;obtain⟨an,rfl⟩:∃n:Nat,a=(n:Int):=⟨a.toNat,by omega⟩;obtain⟨bn,rfl⟩:∃n:Nat,b=(n:Int):=⟨b.toNat,by omega⟩;obtain⟨cn,rfl⟩:∃n:Nat,c=(n:Int):=⟨c.toNat,by omega⟩;exact ya op an bn cn im A0 A0 A0 A0 h0 A0 r hr w T hv hp
theorem hi3 {r:RG} (hr:r.length=16):(Tryz.prog.info? 174).map (·.size)=some (AE r).length:=by rw [Cp,hr];kernel_rfl
theorem hi4 {r:RG} (hr:r.length=16):(Tryz.prog.info? 174).map (·.size)=some (AE r).toArray.size:=by rw [Ig,Cp,hr];kernel_rfl
theorem hi5 {r:RG} (hr:r.length=16):(BL.toArray:Array Value).size=(AE r).toArray.size:=by rw [show (AE r).toArray.size=32 by rw [Ig,Cp,hr]];rfl
theorem hi6 {r z:RG} (hr:r.length=16) (hz:z.length=16):(AE z).toArray.size=(AE r).toArray.size:=by rw [Ig,Ig,Cp,Cp,hr,hz]
theorem BO:Aj.length=16:=rfl
theorem Ag.row {w:World} {b:Nat} {T:TypeId} {z r:RG} (h:Ag w b T z):Ag (w.setRow b (AE r).toArray) b T r:=Fg _ _ _ _ _ _ h
theorem L0 {w:World} {fn:Func} {a u:Tmp} (h:fn.results=#[.cell a 174,.tmp u]) (tmps:Array Value) (b:Nat) {r:RG} (hr:r.length=16) (ha:tmps.getD a undef=.pointer (some ⟨b,0,none⟩)) (hb:Ag w b 174 r) :
  (results fn tmps).run Tryz.prog w=.ok (.tuple #[.agg (AE r).toArray,tmps.getD u undef]) w:=
 results_cell_tmp (P:=Tryz.prog) h tmps w b (AE r) _ ha hb.range BI rfl (hi3 hr)
theorem ints_at {w:World} {v:Value} {l:List Int} (h:Ints w v l):∃A cap,v=.slice A l.length cap∧l.length≤cap∧cap≤maxLen:=by
 obtain⟨A,cap,h1,h2,h3,_⟩:=h;exact⟨A,cap,h1,h2,h3⟩
theorem MV {n:Nat} (h:n≤maxLen):n≤2 ^ 63 - 1:=by unfold maxLen at h;exact h
theorem qY {V w:World} {ab cb rb ib pb:Nat} {bv pv:Value} {G:List AU} {B:List AB} {val:Nat→Value} {s:AS} (h:An V w ab cb rb ib pb bv pv G B val s) {k:Nat} {b:AB} (hk:B[k]?=some b) (hne:b.code≠[]) (Mu:∀i∈b.code,0≤i.op) (T:CO w) :
  Calls Tryz.prog 87 #[.pointer (some ⟨ab,0,none⟩),.int .i64 (k:Int)] w fun e w'=>e=.returned (Cq (Dc b.code (s.AG.getD k [])))∧Below w.heap.size w w':=by
 have DK:=(Bc.1 hk).1;have JZ:=h.lB;obtain⟨r,hr⟩:=A8 (s.AG.getD k []);have r16:R16 r:=hr▸h.El.get DK;obtain⟨V0,Bq⟩:=A8 (w.alloc (.cells BL.toArray 174));have b0:Below w.heap.size w V0:=Bq▸(AV _ _).alloc (AH _) _;have s0:V0.heap.size=w.heap.size+1:=by rw [←Bq];simp
 have kz:Ag V0 w.heap.size 174 Aj:=Bq▸AY _ _;have h0:=h.below b0;obtain⟨l1,l2,l3,l4,l5⟩:=h0.lt;obtain⟨-,c2,-,c4,-⟩:=h0.cells;have hrg:=h0.FV DK;rw [hr] at hrg;have Dq:=A3 hrg;have dk:(k:Int)<(B.length:Int):=by omega
 obtain⟨n,hn⟩:=A8 B.length;rw [hn] at c2 c4 dk JZ;have⟨H0,HR,zV,R,B0,S0,KZ,HT⟩:=OI h0 hr Mu r16 b0 s0 kz T;obtain⟨q,cap,hval,Dv,Yj,Ro,vD⟩:∃q cap,val k=.slice (some ⟨q,0,none⟩) b.code.length cap∧b.code.length≤cap∧cap≤2 ^ 63 - 1∧q<w.heap.size∧∀j i,b.code[j]?=some i→
   w.cell? ⟨q,j*5,none⟩=some (.int .u8 i.op)∧w.cell? ⟨q,j*5+1,none⟩=some (.int .i64 i.a)∧w.cell? ⟨q,j*5+2,none⟩=some (.int .i64 i.b)∧w.cell? ⟨q,j*5+3,none⟩=some (.int .i64 i.c)∧w.cell? ⟨q,j*5+4,none⟩=some (.int .i64 i.AD):=by
  rcases (h.code hk).2 with⟨_,e⟩|⟨q,cap,e1,e2,e3,e4,e5⟩
  ·exact absurd e hne
  ·exact⟨q,cap,e1,e2,MV e3,e4,e5⟩
 have CC:=A3 vD;obtain⟨m,hm⟩:=A8 b.code.length;have x2:V0.cell? ⟨cb,k,none⟩=some (.slice (some ⟨q,0,none⟩) m cap):=by rw [←hm,← hval];exact (h0.code hk).1
 have HM:=A3 hm;rw [hm] at Dv;clear h0 h hr Mu r16 b0 s0 kz hne hk T hrg hn hval vD hm DK;go_enter Tryz.func87,Tryz.ntmps87;go_upto_region 2 with (first|(refine DR rfl _ _ rfl _ _ rfl (AE r) _ Dq.out BI rfl (hi3 R.out.len) ?_)|(refine Bk rfl 174 (.tmp 6) (.tmp 16) rfl V0.heap.size (AE r).toArray rfl rfl 174 _ (AY _ _) (hi4 R.out.len) (hi6 R.out.len BO) (Ct r) ?_));obtain⟨X,hX⟩:=A8 ((V0.alloc (.cells BL.toArray 174)).setRow V0.heap.size (AE r).toArray);have hA:Ag (V0.alloc (.cells BL.toArray 174)) V0.heap.size 174 Aj:=AY _ _;have bX:Below V0.heap.size V0 X:=hX▸Bu ((AV _ _).alloc (AH _) _) (AH _) _;have kX:Ag X V0.heap.size 174 r:=hX▸hA.row;rw [hX];clear Bq;have hX0:=H0.out.below bX;obtain⟨y1,y2,y3,y4,y5⟩:=hX0.lt;have e2:=hX0.cells.2.1;have f2:X.cell? ⟨cb,k,none⟩=some (.slice (some ⟨q,0,none⟩) m cap):=(bX.cell (p:=⟨cb,k,none⟩) l2).trans x2;have⟨BX,KX⟩:=AQ bX kX;have hnB:B.length=n:=by
  have:=c2.symm.trans H0.out.cells.2.1;simp at this;omega
 rw [hnB] at e2;clear hX hA bX kX hX0 c2 c4 x2 hnB;go_upto_region 3 with fail;go_loopw [7,25] (fun a7 a25 wr=>∃(j:Nat) (r1:RG),j≤m∧a25=.int .i64 (j:Int)∧a7=.bool true∧Dc (b.code.drop j) r1=Dc b.code r∧R16 r1∧Below V0.heap.size V0 wr∧Ag wr V0.heap.size 174 r1) (fun _ a25 _=>m - (intOf a25).toNat);case atStart=>exact⟨0,r,by omega,rfl,rfl,by simp,R.out,BX.out,KX.out⟩
 case round=>
  obtain⟨j,r1,hj,rfl,rfl,hrun,hr1,hb,kr⟩:=hrel;have⟨nU,R1,HB,KR⟩:=CU hrun hr1 hb kr;clear hrun hr1 hb kr;have hsz:V0.heap.size<wr.heap.size:=KR.out.lt;by_cases hlt:j<m
  ·have dl:decide ((j:Int)<(m:Int))=true:=Ac A0
   obtain⟨i,hi⟩:∃i,b.code[j]?=some i:=⟨_,Ab Xk⟩;obtain⟨i0,i1,i2,i3,i4⟩:=CC.out j i hi;have lqv:q<V0.heap.size:=by have:=S0.out;omega
   have bq:=fun o=>(HB.out.cell (p:=⟨q,o,none⟩) lqv).trans (B0.out.cell (p:=⟨q,o,none⟩) Ro);have j0:=(bq _).trans i0;have j1:=(bq _).trans i1;have j2:=(bq _).trans i2;have j3:=(bq _).trans i3;have j4:=(bq _).trans i4;have IL:=A3 (zV.out i (Bj hi));have HST:=A3 (show Dc (i :: b.code.drop (j+1)) r1=Dc b.code r by
    have hl:j<b.code.length:=by rw [HM.out];exact hlt
    have e1:b.code[j]=i:=FZ ((Ab hl).symm.trans hi);have e2:b.code.drop j=i :: b.code.drop (j+1):=by rw [ZX hl,e1]
    rw [←nU.out,e2])
   obtain⟨op,ia,ic,id,im⟩:=i;simp only at j0 j1 j2 j3 j4;clear i0 i1 i2 i3 i4 hi bq;go_upto_region 5 with fail;obtain⟨Y,hY⟩:=A8 (wr.alloc (.cells #[.int .u8 op,.int .i64 ia,.int .i64 ic,.int .i64 id,.int .i64 im] 67));rw [hY];have bY:Below wr.heap.size wr Y:=hY▸(AV _ _).alloc (AH _) _;obtain⟨z0,z1,z2,z3,z4,lY⟩:=Iw (show Y.heap[wr.heap.size]?=some (.cells #[.int .u8 op,.int .i64 ia,.int .i64 ic,.int .i64 id,.int .i64 im] 67 (0,0)) from hY▸AY _ _);have KY:=A3 (KR.out.keep bY);have eC:=A3 KY.out.range;have BWY:=A3 (B0.out.trans ((HB.out.trans (bY.mono A0)).mono XO));have GG:=A3 (show Ag Y w.heap.size 174 Aj from (((HB.out.trans (bY.mono A0)).block _ XO).trans KZ.out));have Gs:=A3 (aqu op ia ic id im IL.out r1 R1.out Y (HT.out.below BWY.out));have BVY:=A3 (HB.out.trans (bY.mono A0));have lV:V0.heap.size<Y.heap.size:=KY.out.lt;clear hY bY j0 j1 j2 j3 j4;rcases ho:Hu ⟨op,ia,ic,id,im⟩ r1 with _|r2
   ·rw [ho] at Gs
    have HN:=A3 (show Dc b.code r=none by rw [←HST.out];simp only [Dc,ho]);clear ho;go_wp2_with (first|(refine DR rfl _ _ rfl _ _ rfl (AE r1) _ eC.out BI rfl (hi3 R1.out.len) ?_)|(go_at_call 107;refine Gs.out.mono ?_;rintro e w1 ⟨rfl,hb1⟩;unfold Cq)|(refine Bk rfl 174 (.tmp 6) (.tmp 33) rfl V0.heap.size (AE Aj).toArray rfl rfl 174 _ (KY.out.keep hb1) (hi4 BO) (hi6 BO R1.out.len) (Ct Aj) ?_)|(refine Bk rfl 174 (.tmp 4) (.tmp 37) rfl w.heap.size BL.toArray rfl rfl 174 _ ((Rh _ _ _ _ XO).trans (GG.out.keep hb1)) A4 rfl Bd ?_));refine Af (L0 Tryz.results87 _ w.heap.size BO rfl (Ag.row (r:=Aj) (z:=Aj) ((Rh _ _ _ _ XO).trans (GG.out.keep hb1)))) rfl ⟨?_,?_⟩
    ·rw [HR.out,HN.out];rfl
    ·exact Bu (Bu (BWY.out.trans (hb1.mono BWY.out.size)) XO _) (AH _) _
   ·rw [ho] at Gs
    have HN:=A3 (show Dc (b.code.drop (j+1)) r2=Dc b.code r by rw [←HST.out];simp only [Dc,ho]);have R2:=A3 (eD IL.out R1.out ho);clear ho;go_wp2_with (first|(refine DR rfl _ _ rfl _ _ rfl (AE r1) _ eC.out BI rfl (hi3 R1.out.len) ?_)|(go_at_call 107;refine Gs.out.mono ?_;rintro e w1 ⟨rfl,hb1⟩;unfold Cq)|(refine Bk rfl 174 (.tmp 6) (.tmp 33) rfl V0.heap.size (AE r2).toArray rfl rfl 174 _ (KY.out.keep hb1) (hi4 R2.out.len) (hi6 R2.out.len R1.out.len) (Ct r2) ?_));go_roundw;case rel=>exact⟨j+1,r2,by omega,by go_num,by first|rfl|trivial,HN.out,R2.out,Bu (BVY.out.trans (hb1.mono A0)) (AH _) _,Ag.row (KY.out.keep hb1)⟩
    case measure=>exact Ai
  ·obtain rfl:j=m:=by omega
   have dl:decide ((j:Int)<(j:Int))=false:=by simp
   have HN:=A3 (show Dc b.code r=some r1 by rw [←nU.out,← HM.out,List.drop_length];rfl);have eC:=A3 KR.out.range;have KZW:=A3 (show Ag wr w.heap.size 174 Aj from ((HB.out.block _ XO).trans KZ.out));go_wp2_with (first|(refine DR rfl _ _ rfl _ _ rfl (AE r1) _ eC.out BI rfl (hi3 R1.out.len) ?_)|(refine Bk rfl 174 (.tmp 4) (.tmp 39) rfl w.heap.size (AE r1).toArray rfl rfl 174 _ KZW.out (hi4 R1.out.len) (hi6 R1.out.len BO) (Ct r1) ?_));refine Af (L0 Tryz.results87 _ w.heap.size R1.out.len rfl (Ag.row KZW.out)) rfl ⟨?_,?_⟩
   ·rw [HR.out,HN.out];rfl
   ·exact Bu (B0.out.trans (HB.out.mono B0.out.size)) (AH _) _
end Go.Proofs.YtlmgkipmfgijiaaGreatDoor
