/-
  What is proved here: parts aDef, aPot, aMem, aFn1, aTr, aCb, aPot2, aAn, aRf, aTr2, aTr3, aAf.
-/
import Derived.Test.YtlmgkipmfgijiaaGreatDoorVa
import Derived.Test.YtlmgkipmfgijiaaGreatDoorVh
import Derived.Test.YtlmgkipmfgijiaaGreatDoorVc
import Derived.Deep.MidRow
import Derived.Deep.WholeRow
import Derived.Test.YtlmgkipmfgijiaaGreatDoorVg
import Derived.Test.YtlmgkipmfgijiaaGreatDoorVb
import Derived.Deep.QuietTactic
import Derived.BigQuiet
import Derived.Laws.CopyOwn
import Derived.Test.YtlmgkipmfgijiaaGreatDoorVd
namespace Go.Proofs.YtlmgkipmfgijiaaGreatDoor
set_option linter.unusedVariables false
set_option linter.unusedSimpArgs false
set_option maxRecDepth 100000
set_option maxHeartbeats 8000000
open Go.RowKit
abbrev RG:=List (Int×Int)
def AD (r:RG):List Value:=r.flatMap fun x=>[.int .i32 x.1,.int .i32 x.2]
def Ao:RG:=List.replicate 16 (0,0)
def rg (r:RG) (k:Int):Int×Int:=r.getD k.toNat (0,0)
def DZ (r:RG) (k:Int) (x:Int×Int):RG:=if k=0 then r else r.set k.toNat x
structure R16 (r:RG):Prop where
 len:r.length=16
 wi:∀x∈r,Ae x.1∧Ae x.2
def Fe (r:RG):Bool:=r.all (fun x=>decide (x.1≤x.2)) && decide (rg r 0=(0,0))
def NB (op:Int):Int:=if op=13 then 18 else op+4
def ay:Int×Int:=(-2147483648,2147483647)
def Iw (i:Ins) (r:RG):Option RG:=
 if CE i=true∧Fe r=true then
  if 2≤i.op∧i.op≤13 then
   if (i.op=5∨i.op=6)∧rg r i.c=(0,0) then none else some (DZ r i.a (EX (NB i.op) (rg r i.b) (rg r i.c)))
  else if i.op=14 then some (DZ r i.a (i.AG,i.AG))
  else if i.op=15 then some (DZ r i.a (EX 6 (rg r i.b) (i.AG,i.AG)))
  else if i.op=16 then some (DZ r i.a (EX 14 (rg r i.b) (i.AG,i.AG)))
  else if i.op=17 then some (DZ r i.a (EX 12 (rg r i.b) (i.AG,i.AG)))
  else if i.op=18∨i.op=20∨i.op=26 then some (DZ r i.a ay)
  else if i.op=25 then (if emp (Aw (rg r i.a) (0,i.AG - 1))=true then none else some (DZ r i.a (Aw (rg r i.a) (0,i.AG - 1))))
  else some r
 else none
def Q7 (x:Int×Int):Int×Int:=if x=(0,0) then (1,0) else if x.1=0 then (1,x.2) else if x.2=0 then (x.1,-1) else x
def LX (op:Int) (taken:Bool) (x:Int×Int):Int×Int:=if (taken==decide (op=22))=true then Aw x (0,0) else Q7 x
def Dl (i:Ins) (r:RG) (taken:Bool):Option RG:=
 if CE i=true∧Fe r=true then
  if i.op=22∨i.op=23 then (if emp (LX i.op taken (rg r i.a))=true then none else some (DZ r i.a (LX i.op taken (rg r i.a))))
  else if i.op=24 then (if taken=true then some r else none)
  else if taken=true then none else some r
 else none
def Cb (x y:RG):RG:=List.zipWith CN x y
def I0 (x y:RG):RG:=List.zipWith Bd x y
def F5:List Ins→RG→Option RG
 | [],r=>some r
 | i :: l,r=>match Iw i r with
  | none=>none
  | some r'=>F5 l r'
def En (last:Ins) (m k:Nat) (r:RG):Option RG:=
 if ¬(last.op=22∨last.op=23) then some r
 else if m=2 then Dl last r (decide (k=1))
 else match Dl last r false,Dl last r true with
  | none,y=>y
  | some x,none=>some x
  | some x,some y=>some (Cb x y)
structure AS where
 reach:List Bool
 Af:List RG
 rep:List Int
def F7 (s:AS) (t:Nat):Option RG→AS×Bool
 | none=>(s,false)
 | some r=>
  if s.reach.getD t false=false then (⟨s.reach.set t true,s.Af.set t r,s.rep⟩,true)
  else if Cb (s.Af.getD t []) r=s.Af.getD t [] then (s,false)
  else (⟨s.reach,s.Af.set t (if 2≤s.rep.getD t 0 then I0 (s.Af.getD t []) (Cb (s.Af.getD t []) r) else Cb (s.Af.getD t []) r),s.rep.set t (s.rep.getD t 0+1)⟩,true)
def Fv (last:Ins) (nx:List Int) (Ag:RG) (s:AS):Nat→AS×Bool
 | 0=>(s,false)
 | k+1=>let p:=Fv last nx Ag s k;let q:=F7 p.1 (nx.getD k 0).toNat (En last nx.length k Ag);(q.1,p.2 || q.2)
structure AB where
 code:List Ins
 nx:List Int
def AB.last (b:AB):Ins:=b.code.getD (b.code.length - 1) ⟨0,0,0,0,0⟩
def Gf (b:AB) (n:Nat) (s:AS):AS×Bool:=match F5 b.code (s.Af.getD n []) with
 | none=>(s,false)
 | some Ag=>Fv b.last b.nx Ag s b.nx.length
def DG (B:List AB) (s:AS):Nat→AS×Bool
 | 0=>(s,false)
 | n+1=>let p:=DG B s n;if p.1.reach.getD n false=true then (let q:=Gf (B.getD n ⟨[],[]⟩) n p.1;(q.1,p.2 || q.2)) else p
inductive Ends (B:List AB):AS→AS→Prop
 | done {s:AS} (h:(DG B s B.length).2=false):Ends B s (DG B s B.length).1
 | more {s s':AS} (h:(DG B s B.length).2=true) (k:Ends B (DG B s B.length).1 s'):Ends B s s'
theorem Ends.Sd {B:List AB} {s a b:AS} (h:Ends B s a) (k:Ends B s b):a=b:=by
 induction h with
 | done h=>cases k with
  | done _=>rfl
  | more h' _=>rw [h] at h';cases h'
 | more h _ ih=>cases k with
  | done h'=>rw [h] at h';cases h'
  | more _ k'=>exact ih k'
def EW (n:Nat):AS:=⟨(List.replicate n false).set 0 true,List.replicate n Ao,List.replicate n 0⟩
def G8 (b:AB) (n k:Nat) (r:RG):List (Int×Int):=match F5 b.code r with
 | none=>((b.nx.take k).map fun t=>((n:Int),t))
 | some Ag=>((List.range k).filter fun j=>(En b.last b.nx.length j Ag).isNone).map fun j=>((n:Int),b.nx.getD j 0)
def GY (B:List AB) (s:AS) (n:Nat):List (Int×Int):=(List.range n).flatMap fun j=>if s.reach.getD j false=true then G8 (B.getD j ⟨[],[]⟩) j (B.getD j ⟨[],[]⟩).nx.length (s.Af.getD j []) else []
theorem R16.at_ {r:RG} (h:R16 r) (k:Int):Ae (rg r k).1∧Ae (rg r k).2:=by
 unfold rg;by_cases hk:k.toNat<r.length
 ·have e:r.getD k.toNat (0,0)=r[k.toNat]:=by simp [List.getD,Aj hk]
  rw [e];exact h.wi _ (Cn hk)
 ·have e:r.getD k.toNat (0,0)=(0,0):=by simp [List.getD,E0 (Nat.le_of_not_lt hk)]
  rw [e];unfold Ae;simp only;omega
theorem R16.set {r:RG} (h:R16 r) (k:Nat) {x:Int×Int} (hx:Ae x.1∧Ae x.2):R16 (r.set k x):=
 ⟨by rw [NP];exact h.len,fun y hy=>by rcases Zg hy with h1|rfl;exact h.wi _ h1;exact hx⟩
theorem R16.DZ {r:RG} (h:R16 r) (k:Int) {x:Int×Int} (hx:Ae x.1∧Ae x.2):R16 (DZ r k x):=by
 unfold Go.Proofs.YtlmgkipmfgijiaaGreatDoor.DZ;split
 ·exact h
 ·exact h.set _ hx
theorem R16.zero:R16 Ao:=⟨by simp [Ao],fun x hx=>by rw [(gN.1 hx).2];unfold Ae;simp only;omega⟩
def Jp (x:Int×Int):Nat:=if x.2<x.1 then (if x=(1,0) then 3 else 4) else (if -2147483648<x.1 then 1 else 0)+(if x.2<2147483647 then 1 else 0)
def JF (r:RG):Nat:=(r.map Jp).sum
def IC (s:AS) (k:Nat):Nat:=if s.reach.getD k false=false then 70 else (2 - (s.rep.getD k 0).toNat)+JF (s.Af.getD k [])
def Gc (s:AS) (n:Nat):Nat:=((List.range n).map (IC s)).sum
theorem amy (x:Int×Int):Jp x≤4:=by unfold Jp;split<;>split<;>(try split)<;>omega
theorem aoe {x y:Int×Int} (hx:Ae x.1∧Ae x.2) (hy:Ae y.1∧Ae y.2):Ae (CN x y).1∧Ae (CN x y).2:=by
 unfold CN Ae at *;split<;>split<;>first|omega|(simp only;omega)
theorem ap8 {x y:Int×Int} (hx:Ae x.1∧Ae x.2) (hy:Ae y.1∧Ae y.2):Ae (Bd x y).1∧Ae (Bd x y).2:=by
 unfold Bd Ae at *;split
 ·split<;>first|omega|(simp only;omega)
 ·split
  ·exact hx
  ·simp only
   constructor<;>split<;>omega
theorem aqw {x y:Int×Int} (hx:Ae x.1∧Ae x.2) (hy:Ae y.1∧Ae y.2):Jp (CN x y)≤Jp x:=by
 obtain⟨a,b⟩:=x;obtain⟨c,d⟩:=y;unfold Ae at hx hy;simp only at hx hy;unfold CN emp Jp;by_cases h1:b<a<;>by_cases h2:d<c<;>simp only [h1,h2,decide_true,decide_false,N1,N0,MZ,nK]
 ·simp;split<;>omega
 ·split<;>split<;>split<;>omega
 ·exact AH _
 ·rw [A9 A0]
  split<;>split<;>split<;>split<;>omega
theorem ak6 {x y:Int×Int} (hx:Ae x.1∧Ae x.2) (hy:Ae y.1∧Ae y.2):Jp (Bd x (CN x y))≤Jp x∧(CN x y≠x→Jp (Bd x (CN x y))<Jp x):=by
 obtain⟨a,b⟩:=x;obtain⟨c,d⟩:=y;unfold Ae at hx hy;simp only at hx hy;by_cases h1:b<a
 ·by_cases h2:d<c
  ·have e:CN (a,b) (c,d)=(1,0):=by unfold CN emp;simp [h1,h2]
   have e2:Bd (a,b) (1,0)=(1,0):=by unfold Bd emp;simp [h1]
   rw [e,e2];have e3:Jp (1,0)=3:=by unfold Jp;simp
   rw [e3];unfold Jp;simp only [h1,N1];refine⟨by split<;>omega,fun hn=>?_⟩;rw [A9 (fun h=>hn h.symm)];omega
  ·have e:CN (a,b) (c,d)=(c,d):=by unfold CN emp;simp [h1,h2]
   have e2:Bd (a,b) (c,d)=(c,d):=by unfold Bd emp;simp [h1,h2]
   rw [e,e2];unfold Jp;simp only [h1,h2,N1,N0];constructor
   ·split<;>split<;>split<;>omega
   ·intro _;split<;>split<;>split<;>omega
 ·by_cases h2:d<c
  ·have e:CN (a,b) (c,d)=(a,b):=by unfold CN emp;simp [h1,h2]
   have e2:Bd (a,b) (a,b)=(a,b):=by unfold Bd emp;simp [h1]
   rw [e,e2];exact⟨AH _,fun h=>absurd rfl h⟩
  ·have e:CN (a,b) (c,d)=(min a c,max b d):=by unfold CN emp;simp [h1,h2]
   have h3:¬max b d<min a c:=by omega
   have e2:Bd (a,b) (min a c,max b d)=(if min a c<a then -2147483648 else a,if b<max b d then 2147483647 else b):=by unfold Bd emp;simp [h1,h3]
   rw [e,e2];unfold Jp;simp only [h1,N0];have h4:¬(if b<max b d then (2147483647:Int) else b)<(if min a c<a then -2147483648 else a):=by (repeat' split)<;>omega
   have z1:¬((-2147483648:Int) < -2147483648):=by decide
   have z2:¬((2147483647:Int)<2147483647):=by decide
   rw [A9 h4];simp only [ne_eq,nK,not_and];by_cases q1:min a c<a<;>by_cases q2:b<max b d<;>simp only [q1,q2,N1,N0,z1,z2]
   ·refine⟨by (repeat' split)<;>omega,fun _=>?_⟩
    rw [AE (show -2147483648<a by omega),AE (show b<2147483647 by omega)];decide
   ·refine⟨by (repeat' split)<;>omega,fun _=>?_⟩
    rw [AE (show -2147483648<a by omega)];split<;>omega
   ·refine⟨by (repeat' split)<;>omega,fun _=>?_⟩
    rw [AE (show b<2147483647 by omega)];split<;>omega
   ·exact⟨AH _,fun h=>absurd (show max b d=b by omega) (h A0)⟩
theorem R16.join {x y:RG} (hx:R16 x) (hy:R16 y):R16 (Cb x y):=
 ⟨by simp [Cb,hx.len,hy.len],fun z hz=>by
  obtain⟨i,hi,e⟩:=Zp hz;simp only [Cb,qd] at hi;simp only [Cb,List.getElem_zipWith] at e;rw [←e]
  exact aoe (hx.wi _ (Cn _)) (hy.wi _ (Cn _))⟩
theorem R16.XD {x y:RG} (hx:R16 x) (hy:R16 y):R16 (I0 x y):=
 ⟨by simp [I0,hx.len,hy.len],fun z hz=>by
  obtain⟨i,hi,e⟩:=Zp hz;simp only [I0,qd] at hi;simp only [I0,List.getElem_zipWith] at e;rw [←e]
  exact ap8 (hx.wi _ (Cn _)) (hy.wi _ (Cn _))⟩
theorem wZ:∀ {x y:RG},x.length=y.length→(∀z∈x,Ae z.1∧Ae z.2)→(∀z∈y,Ae z.1∧Ae z.2)→JF (Cb x y)≤JF x
 | [],[],_,_,_=>AH _
 | a :: x,b :: y,hl,hx,hy=>by
  have ih:=wZ (x:=x) (y:=y) aH (fun z hz=>hx z (F9 _ hz)) (fun z hz=>hy z (F9 _ hz));have h:=aqw (hx a (Jo ..)) (hy b (Jo ..));simp only [Cb,JF,List.zipWith_cons_cons,Vn,Zv] at *;omega
theorem oF:∀ {x y:RG},x.length=y.length→(∀z∈x,Ae z.1∧Ae z.2)→(∀z∈y,Ae z.1∧Ae z.2)→JF (I0 x (Cb x y))≤JF x∧(Cb x y≠x→JF (I0 x (Cb x y))<JF x)
 | [],[],_,_,_=>⟨AH _,fun h=>absurd rfl h⟩
 | a :: x,b :: y,hl,hx,hy=>by
  obtain⟨i1,i2⟩:=oF (x:=x) (y:=y) aH (fun z hz=>hx z (F9 _ hz)) (fun z hz=>hy z (F9 _ hz));obtain⟨h1,h2⟩:=ak6 (hx a (Jo ..)) (hy b (Jo ..));simp only [Cb,I0,JF,List.zipWith_cons_cons,Vn,Zv,ne_eq,ZU,not_and] at *;refine⟨by omega,fun hn=>?_⟩;by_cases q:CN a b=a
  ·have:=i2 (hn q);omega
  ·have:=h2 q;omega
theorem j9:∀ {r:RG},JF r≤4*r.length
 | []=>AH _
 | a :: r=>by
  have ih:=j9 (r:=r);have h:=amy a;simp only [JF,Vn,Zv,GD] at *;omega
structure Iy (n:Nat) (s:AS):Prop where
 l1:s.reach.length=n
 l2:s.Af.length=n
 l3:s.rep.length=n
 r16:∀r∈s.Af,R16 r
 rep:∀x∈s.rep,0≤x∧x+(Gc s n:Int)≤70*(n:Int)
theorem oU {f g:Nat→Nat} {n t:Nat} (ht:t<n) (h:∀k,k≠t→g k=f k):((List.range n).map g).sum+f t=((List.range n).map f).sum+g t:=by
 induction n with
 | zero=>omega
 | succ n ih=>
  simp only [J5,Nx,Vn,XU,List.sum_append,Zv,List.sum_nil];by_cases e:t=n
  ·subst e
   have:(List.range t).map g=(List.range t).map f:=Q4 fun k hk=>h k (by have:=J9.1 hk;omega);rw [this];omega
  ·have:=ih A0
   rw [h n (fun e2=>e e2.symm)];omega
theorem Iy.get {n:Nat} {s:AS} (h:Iy n s) {t:Nat} (ht:t<n):R16 (s.Af.getD t []):=by
 have hl:t<s.Af.length:=by rw [h.l2];exact ht
 have e:s.Af.getD t []=s.Af[t]:=by simp [List.getD,Aj hl]
 rw [e];exact h.r16 _ (Cn hl)
theorem Iy.UQ {n:Nat} {s:AS} (h:Iy n s) {t:Nat} (ht:t<n):0≤s.rep.getD t 0∧s.rep.getD t 0+(Gc s n:Int)≤70*(n:Int):=by
 have hl:t<s.rep.length:=by rw [h.l3];exact ht
 have e:s.rep.getD t 0=s.rep[t]:=by simp [List.getD,Aj hl]
 rw [e];exact h.rep _ (Cn hl)
theorem Qj {α:Type} {l:List α} {t:Nat} {x d:α} (ht:t<l.length):(l.set t x).getD t d=x:=by simp [List.getD,ht]
theorem O3 {α:Type} {l:List α} {t k:Nat} {x d:α} (hk:k≠t):(l.set t x).getD k d=l.getD k d:=by simp [List.getD,IY,Ds hk]
theorem dY {n:Nat} {s:AS} (h:Iy n s) {t:Nat} (ht:t<n) (o:Option RG) (ho:∀r,o=some r→R16 r):Iy n (F7 s t o).1∧((F7 s t o).2=true→Gc (F7 s t o).1 n<Gc s n)∧((F7 s t o).2=false→(F7 s t o).1=s):=by
 cases o with
 | none=>exact⟨h,(fun e=>by cases e),fun _=>rfl⟩
 | some r=>
  have hr:=ho r rfl;have hg:=h.get ht;have ax:=h.UQ ht;unfold F7;simp only;by_cases h1:s.reach.getD t false=false
  ·rw [AE h1]
   have hp:Gc ⟨s.reach.set t true,s.Af.set t r,s.rep⟩ n<Gc s n:=by
    have hu:=oU (f:=IC s) (g:=IC ⟨s.reach.set t true,s.Af.set t r,s.rep⟩) ht (fun k hk=>by unfold IC;simp only;rw [O3 hk,O3 hk]);have e1:IC s t=70:=by unfold IC;rw [AE h1]
    have e2:IC ⟨s.reach.set t true,s.Af.set t r,s.rep⟩ t≤66:=by
     unfold IC;simp only;rw [Qj (by rw [h.l1];exact ht),Qj (by rw [h.l2];exact ht)];have:=j9 (r:=r);rw [hr.len] at this;simp;omega
    unfold Gc;omega
   refine⟨⟨by simp [h.l1],by simp [h.l2],h.l3,fun x hx=>?_,fun x hx=>?_⟩,fun _=>hp,(fun e=>by cases e)⟩
   ·rcases Zg hx with h2|rfl
    ·exact h.r16 _ h2
    ·exact hr
   ·have:=h.rep x hx
    dsimp only;omega
  ·rw [A9 h1]
   by_cases h2:Cb (s.Af.getD t []) r=s.Af.getD t []
   ·rw [AE h2]
    exact⟨h,(fun e=>by cases e),fun _=>rfl⟩
   ·rw [A9 h2]
    simp only;obtain⟨j,hj⟩:=AA (if 2≤s.rep.getD t 0 then I0 (s.Af.getD t []) (Cb (s.Af.getD t []) r) else Cb (s.Af.getD t []) r);have tq:=hg.join hr;have aql:R16 j:=by rw [←hj];split;exact hg.XD tq;exact tq
    have hjp:(2 - (s.rep.getD t 0+1).toNat)+JF j<(2 - (s.rep.getD t 0).toNat)+JF (s.Af.getD t []):=by
     have hlen:(s.Af.getD t []).length=r.length:=by rw [hg.len,hr.len]
     rw [←hj];split
     ·rename_i h3
      have:=(oF hlen hg.wi hr.wi).2 h2;omega
     ·have:=wZ hlen hg.wi hr.wi
      omega
    rw [hj];have hp:Gc ⟨s.reach,s.Af.set t j,s.rep.set t (s.rep.getD t 0+1)⟩ n<Gc s n:=by
     have hu:=oU (f:=IC s) (g:=IC ⟨s.reach,s.Af.set t j,s.rep.set t (s.rep.getD t 0+1)⟩) ht (fun k hk=>by unfold IC;simp only;rw [O3 hk,O3 hk]);have e1:IC s t=(2 - (s.rep.getD t 0).toNat)+JF (s.Af.getD t []):=by unfold IC;rw [A9 h1]
     have e2:IC ⟨s.reach,s.Af.set t j,s.rep.set t (s.rep.getD t 0+1)⟩ t=(2 - (s.rep.getD t 0+1).toNat)+JF j:=by
      unfold IC;simp only;rw [Qj (by rw [h.l3];exact ht),Qj (by rw [h.l2];exact ht),A9 h1]
     unfold Gc;omega
    refine⟨⟨h.l1,by simp [h.l2],by simp [h.l3],fun x hx=>?_,fun x hx=>?_⟩,fun _=>hp,(fun e=>by cases e)⟩
    ·rcases Zg hx with h3|rfl
     ·exact h.r16 _ h3
     ·exact aql
    ·rcases Zg hx with h3|rfl
     ·have:=h.rep x h3
      omega
     ·omega
section
theorem QB {P:Program} {ops:Array Oper} {rest:List Oper} {op:Oper} {a:Act} {w:World} {Q:Exit→Act→World→Prop} (hw:Region.wanted op (yielded ops a.tmps)=true) (ty:TypeId) (x:Operand) (ho:op.op=.load ty x)
  (b o:Nat) (hx:a.eval x=.pointer (some ⟨b,o,none⟩)) (cs:List Value) (d:TypeDesc) (hc:w.rangeAt b o cs)
  (hu:P.underlying ty=some d) (hd:d.isRow=true) (hi:(P.info? ty).map (·.size)=some cs.length)
  (h:wpList P ops Q rest (a.put op.dst (.agg cs.toArray)) w):wpList P ops Q (op :: rest) a w:=
 wpList_step fun K hK=>by simp only [hw,N1];exact wp_load_mid ty x ho b o hx cs d hc hu hd hi (hK _ _ h)
theorem CZ (r:RG):(AD r).length=r.length*2:=by
 induction r with
 | nil=>rfl
 | cons a l ih=>simp only [AD,JO,FO,GD] at *;rw [ih];simp;omega
theorem Zh:∀(r:RG) (k j:Nat) (x:Int×Int),r[k]?=some x→j<2→(AD r)[k*2+j]?=[Value.int .i32 x.1,.int .i32 x.2][j]?
 | y :: L,0,j,x,h,hj=>by
  simp at h;subst h;unfold AD;rw [JO,TN,EU,JJ (by simpa using hj)]
 | y :: L,k+1,j,x,h,hj=>by
  have h':L[k]?=some x:=by simpa using h
  have ih:=Zh L k j x h' hj;unfold AD at ih ⊢;rw [JO,J4 Cl,← ih];simp only [GD,Yp];congr 1
  omega
theorem oy:∀(r:RG) (k:Nat) (x:Int×Int),((AD r).set (k*2) (.int .i32 x.1)).set (k*2+1) (.int .i32 x.2)=AD (r.set k x)
 | [],k,x=>by simp [AD]
 | y :: L,0,x=>by simp [AD]
 | y :: L,k+1,x=>by
  have ih:=oy L k x;simp only [AD,JO,AY] at ih ⊢;rw [←ih,show (k+1)*2=k*2+2 by omega];simp
theorem XR (r:RG) (k:Nat):rg r (k:Int)=r.getD k (0,0):=by simp [rg]
theorem OL {r:RG} {k:Nat} (hk:k<r.length):r[k]?=some (rg r (k:Int)):=by
 rw [XR];simp [List.getD,Aj hk]
theorem aod {r:RG} {k:Nat} (hk:k<r.length):(AD r).toArray.extract (k*2) (k*2+2)=#[.int .i32 (rg r (k:Int)).1,.int .i32 (rg r (k:Int)).2]:=by
 have hl:=CZ r;apply Array.ext
 ·simp;omega
 ·intro i h1 h2
  have h3:i<2:=by simpa using h2
  have:=Zh r k i _ (OL hk) h3;rw [Aj A0] at this;simp only [Array.getElem_extract,AX];rw [Aj (by simpa using h3)] at this;simpa using this
theorem iZ {r:RG} {k:Nat} (hk:k<r.length) (w:World):(part 172 (AD r).toArray (k*2)).run Tryz.prog w=.ok (.agg #[.int .i32 (rg r (k:Int)).1,.int .i32 (rg r (k:Int)).2]) w:=by
 have h1:(isAgg 172).run Tryz.prog w=.ok true w:=by kernel_rfl
 have h2:(sizeOf 172).run Tryz.prog w=.ok 2 w:=by kernel_rfl
 unfold part;simp only [PI,h1,h2,Z6,N1,Zy];rw [aod hk]
theorem anR {r:RG} (hr:r.length=16) {k:Nat} (hk:k<16) (w:World):(Instr.index 174 (.agg (AD r).toArray) (.int .i64 (k:Int))).run Tryz.prog w=.ok (.agg #[.int .i32 (rg r (k:Int)).1,.int .i32 (rg r (k:Int)).2]) w:=by
 have h2:(sizeOf 172).run Tryz.prog w=.ok 2 w:=by kernel_rfl
 have h4:=iZ (r:=r) (k:=k) A0 w;simp [Instr.index,Qf BH,asIntOf,PI,h2,hk,h4]
theorem rL {P:Program} {w:World} (q:Nat→Bool) (g:Nat→Option Bool×PUnit→Sem (ForInStep (Option Bool×PUnit))):∀(l:List Nat),(∀i∈l,∀s,(g i s).run P w=.ok (if q i then .yield (none,()) else .done (some false,())) w)→
  (forIn l ((none,()):Option Bool×PUnit) g).run P w=.ok (if l.all q then (none,()) else (some false,())) w
 | [],_=>by simp
 | i :: l,h=>by
  have ih:=rL q g l (fun j hj=>h j (F9 _ hj));have h1:=h i (Jo ..) (none,());rw [List.forIn_cons,PI,h1];cases hq:q i<;>simp [hq,ih]
theorem am9 (d:Nat) {a b:RG} (ha:a.length=16) (hb:b.length=16) (w:World):(Op.equalIn (d+1+1+1) 174 (.agg (AD a).toArray) (.agg (AD b).toArray)).run Tryz.prog w=.ok (decide (a=b)) w:=by
 rw [Op.equalIn];simp [Qf BH,PI];rw [rL (fun i=>decide (rg a (i:Int)=rg b (i:Int)))]
 ·have e:(List.range' 0 16).all (fun i=>decide (rg a (i:Int)=rg b (i:Int)))=decide (a=b):=by
   rw [OI,Ma,DK];constructor
   ·intro h
    apply JX;intro i;by_cases hi:i<16
    ·have:=h i (by simp [List.mem_range'_1];omega)
     rw [DK] at this;rw [OL A0,OL A0,this]
    ·rw [E0 A0,E0 A0]
   ·rintro rfl i _
    simp
  rw [e];cases decide (a=b)<;>simp
 ·intro i hi s
  have hi2:i<16:=by simp [List.mem_range'_1] at hi;omega
  have h1:=iZ (r:=a) (k:=i) A0 w;have h2:=iZ (r:=b) (k:=i) A0 w;have h3:=qq d (rg a (i:Int)).1 (rg a (i:Int)).2 (rg b (i:Int)).1 (rg b (i:Int)).2 w;simp only [PI,h1,h2,Z6,h3];by_cases h4:rg a (i:Int)=rg b (i:Int)
  ·simp [h4]
  ·have:((rg a (i:Int)).1==(rg b (i:Int)).1 && (rg a (i:Int)).2==(rg b (i:Int)).2)=false:=by
    rw [fN];intro h5;rw [EY] at h5;exact h4 (Vf (by simpa using h5.1) (by simpa using h5.2))
   simp [this,h4]
theorem vN {a b:RG} (ha:a.length=16) (hb:b.length=16) (w:World):(binOp .eql 174 (.agg (AD a).toArray) (.agg (AD b).toArray)).run Tryz.prog w=.ok (.bool (decide (a=b))) w:=by
 simp only [binOp];simp [Op.equal,Op.maxDepth,am9 9997 ha hb]
def Am (w:World) (b:Nat) (T:TypeId) (r:RG):Prop:=w.heap[b]?=some (.cells (AD r).toArray T (0,0))
section
variable {w:World} {b:Nat} {T:TypeId} {r:RG}
theorem Am.lt (h:Am w b T r):b<w.heap.size:=(Be.1 h).1
theorem Am.lo (h:Am w b T r) {k:Nat} (hk:k<r.length):w.cell? ⟨b,k*2,none⟩=some (.int .i32 (rg r (k:Int)).1):=by
 have:=Zh r k 0 _ (OL hk) A0;unfold Am at h;simpa [World.cell?,h] using this
theorem Am.hi (h:Am w b T r) {k:Nat} (hk:k<r.length):w.cell? ⟨b,k*2+1,none⟩=some (.int .i32 (rg r (k:Int)).2):=by
 have:=Zh r k 1 _ (OL hk) A0;unfold Am at h;simpa [World.cell?,h] using this
theorem Am.fz (h:Am w b T r) (o:Nat):w.frozen? ⟨b,o,none⟩=false:=by unfold Am at h;simp [World.frozen?,h]
theorem Am.keep {w':World} (h:Am w b T r) (hb:Below w.heap.size w w'):Am w' b T r:=(hb.block b h.lt).trans h
theorem Am.set (h:Am w b T r) (k:Nat) (x:Int×Int):Am ((w.setCell ⟨b,k*2,none⟩ (.int .i32 x.1)).setCell ⟨b,k*2+1,none⟩ (.int .i32 x.2)) b T (r.set k x):=by
 unfold Am at h ⊢;rw [Ej _ b _ _ T _ (Ej w b _ _ T _ h),← oy];simp
theorem Am.range (h:Am w b T r):w.rangeAt b 0 (AD r):=fun j v hv=>by
 unfold Am at h;simp [World.cell?,h,hv]
end
end
theorem fE (w:World) (cA cB:Array Value) (tA tB:TypeId) (x:Ext ((w.alloc (.cells cA tA)).alloc (.cells cB tB))):w.heap.size+1<x.w.heap.size∧x.w.heap[w.heap.size]?=some (.cells cA tA (0,0))∧x.w.heap[w.heap.size+1]?=some (.cells cB tB (0,0))∧Below w.heap.size w x.w:=by
 have e2:((w.alloc (.cells cA tA)).alloc (.cells cB tB)).heap.size=w.heap.size+1+1:=by simp only [El]
 have hs:=x.h.size;refine⟨by omega,?_,?_,Ext.below (((AP _ _).alloc (AH _) _).alloc AO _) A0 x⟩
 ·rw [x.h.block _ A0,Bb _ _ AO];exact Ai _ _
 ·rw [x.h.block _ A0];exact E4 _ _ AO
theorem pZ (op:Int) (h1:2≤op) (h2:op≤13) (w:World):Calls Tryz.prog 132 #[.int .u8 op] w fun e w'=>e=.returned (.int .u8 (NB op))∧w=w':=by
 have h:op=2∨op=3∨op=4∨op=5∨op=6∨op=7∨op=8∨op=9∨op=10∨op=11∨op=12∨op=13:=by omega
 rcases h with rfl|rfl|rfl|rfl|rfl|rfl|rfl|rfl|rfl|rfl|rfl|rfl;all_goals
  go_enter Tryz.func132,Tryz.ntmps132
  go_wp2
  go_ret;exact⟨rfl,rfl⟩
theorem aoF (xl xh:Int) (h1:xl=0) (h2:xh=0) (w:World):Calls Tryz.prog 135 #[.agg #[.int .i32 xl,.int .i32 xh]] w fun e w'=>e=.returned (.agg #[.int .i32 (1),.int .i32 (0)])∧Below w.heap.size w w':=by
 have E:=KL xl xh 0 0;have hb:(xl==0 && xh==0)=true:=by simp [h1,h2]
 rw [hb] at E;clear h1 h2;go_enter je,gO
 go_wp2
 refine Cg A6 A6 ?_;repeat (go_big_quiet_step (exact Calls.AQ (EG 0 _)))
 refine Ba ?_;rintro _ ⟨x,rfl⟩;obtain⟨hz2,k0,k1,CV⟩:=fE w _ _ _ _ x;clear k0 k1 CV;go_wp2_with (go_at_call 128;refine (Calls.AQ (Bo _)).mono ?_;rintro e w' ⟨rfl,y,rfl⟩);all_goals
  refine Al (v:=.agg #[.int .i32 (1),.int .i32 (0)]) ?hr rfl ⟨rfl,?A7⟩;case hr=>
   simp [results,mI,go_sem]
  case A7=>
   exact Bu
theorem abI (xl xh:Int) (h1:xl=0) (h2:xh≠0) (w:World):Calls Tryz.prog 135 #[.agg #[.int .i32 xl,.int .i32 xh]] w fun e w'=>e=.returned (.agg #[.int .i32 (1),.int .i32 (xh)])∧Below w.heap.size w w':=by
 have E:=KL xl xh 0 0;have hb:(xl==0 && xh==0)=false:=by simp [h2]
 rw [hb] at E;have d1:(xl==0)=true:=by simp [h1]
 clear h1 h2;go_enter je,gO
 go_wp2
 refine Cg A6 A6 ?_;repeat (go_big_quiet_step (exact Calls.AQ (EG 0 _)))
 refine Ba ?_;rintro _ ⟨x,rfl⟩;obtain⟨hz2,k0,k1,CV⟩:=fE w _ _ _ _ x;have c0:x.w.cell? ⟨w.heap.size,0,none⟩=some (.int .i32 xl):=by rw [I9 _ _ _ _ _ _ k0];rfl
 have c1:x.w.cell? ⟨w.heap.size,1,none⟩=some (.int .i32 xh):=by rw [I9 _ _ _ _ _ _ k0];rfl
 have c2:x.w.cell? ⟨w.heap.size+1,0,none⟩=some (.int .i32 0):=by rw [I9 _ _ _ _ _ _ k1];rfl
 have c3:x.w.cell? ⟨w.heap.size+1,1,none⟩=some (.int .i32 0):=by rw [I9 _ _ _ _ _ _ k1];rfl
 clear k0 k1 CV;go_wp2_with (go_at_call 128;refine (Calls.AQ (Bo _)).mono ?_;rintro e w' ⟨rfl,y,rfl⟩);all_goals
  refine Al (v:=.agg #[.int .i32 (1),.int .i32 (xh)]) ?hr rfl ⟨rfl,?A7⟩;case hr=>
   simp [results,mI,go_sem]
  case A7=>
   exact Bu
theorem ap7 (xl xh:Int) (h1:xl≠0) (h2:xh=0) (w:World):Calls Tryz.prog 135 #[.agg #[.int .i32 xl,.int .i32 xh]] w fun e w'=>e=.returned (.agg #[.int .i32 (xl),.int .i32 (-1)])∧Below w.heap.size w w':=by
 have E:=KL xl xh 0 0;have hb:(xl==0 && xh==0)=false:=by simp [h1]
 rw [hb] at E;have d1:(xl==0)=false:=by simp [h1]
 have d2:(xh==0)=true:=by simp [h2]
 clear h1 h2;go_enter je,gO
 go_wp2
 refine Cg A6 A6 ?_;repeat (go_big_quiet_step (exact Calls.AQ (EG 0 _)))
 refine Ba ?_;rintro _ ⟨x,rfl⟩;obtain⟨hz2,k0,k1,CV⟩:=fE w _ _ _ _ x;have c0:x.w.cell? ⟨w.heap.size,0,none⟩=some (.int .i32 xl):=by rw [I9 _ _ _ _ _ _ k0];rfl
 have c1:x.w.cell? ⟨w.heap.size,1,none⟩=some (.int .i32 xh):=by rw [I9 _ _ _ _ _ _ k0];rfl
 have c2:x.w.cell? ⟨w.heap.size+1,0,none⟩=some (.int .i32 0):=by rw [I9 _ _ _ _ _ _ k1];rfl
 have c3:x.w.cell? ⟨w.heap.size+1,1,none⟩=some (.int .i32 0):=by rw [I9 _ _ _ _ _ _ k1];rfl
 clear k0 k1 CV;go_wp2_with (go_at_call 128;refine (Calls.AQ (Bo _)).mono ?_;rintro e w' ⟨rfl,y,rfl⟩);all_goals
  refine Al (v:=.agg #[.int .i32 (xl),.int .i32 (-1)]) ?hr rfl ⟨rfl,?A7⟩;case hr=>
   simp [results,mI,go_sem]
  case A7=>
   exact Bu
theorem zX (xl xh:Int) (h1:xl≠0) (h2:xh≠0) (w:World):Calls Tryz.prog 135 #[.agg #[.int .i32 xl,.int .i32 xh]] w fun e w'=>e=.returned (.agg #[.int .i32 (xl),.int .i32 (xh)])∧Below w.heap.size w w':=by
 have E:=KL xl xh 0 0;have hb:(xl==0 && xh==0)=false:=by simp [h1]
 rw [hb] at E;have d1:(xl==0)=false:=by simp [h1]
 have d2:(xh==0)=false:=by simp [h2]
 clear h1 h2;go_enter je,gO
 go_wp2
 refine Cg A6 A6 ?_;repeat (go_big_quiet_step (exact Calls.AQ (EG 0 _)))
 refine Ba ?_;rintro _ ⟨x,rfl⟩;obtain⟨hz2,k0,k1,CV⟩:=fE w _ _ _ _ x;have c0:x.w.cell? ⟨w.heap.size,0,none⟩=some (.int .i32 xl):=by rw [I9 _ _ _ _ _ _ k0];rfl
 have c1:x.w.cell? ⟨w.heap.size,1,none⟩=some (.int .i32 xh):=by rw [I9 _ _ _ _ _ _ k0];rfl
 have c2:x.w.cell? ⟨w.heap.size+1,0,none⟩=some (.int .i32 0):=by rw [I9 _ _ _ _ _ _ k1];rfl
 have c3:x.w.cell? ⟨w.heap.size+1,1,none⟩=some (.int .i32 0):=by rw [I9 _ _ _ _ _ _ k1];rfl
 clear k0 k1 CV;go_wp2_with (go_at_call 128;refine (Calls.AQ (Bo _)).mono ?_;rintro e w' ⟨rfl,y,rfl⟩);all_goals
  refine Al (v:=.agg #[.int .i32 (xl),.int .i32 (xh)]) ?hr rfl ⟨rfl,?A7⟩;case hr=>
   simp [results,mI,go_sem]
  case A7=>
   exact Bu
theorem apy (xl xh:Int) (w:World):Calls Tryz.prog 135 #[.agg #[.int .i32 xl,.int .i32 xh]] w fun e w'=>e=.returned (.agg #[.int .i32 (Q7 (xl,xh)).1,.int .i32 (Q7 (xl,xh)).2])∧Below w.heap.size w w':=by
 by_cases h1:xl=0<;>by_cases h2:xh=0
 ·refine (aoF xl xh h1 h2 w).mono fun e w' ⟨q,hb⟩=>⟨q.trans ?_,hb⟩
  simp [Q7,h1,h2]
 ·refine (abI xl xh h1 h2 w).mono fun e w' ⟨q,hb⟩=>⟨q.trans ?_,hb⟩
  simp [Q7,h1,h2]
 ·refine (ap7 xl xh h1 h2 w).mono fun e w' ⟨q,hb⟩=>⟨q.trans ?_,hb⟩
  simp [Q7,h1,h2]
 ·refine (zX xl xh h1 h2 w).mono fun e w' ⟨q,hb⟩=>⟨q.trans ?_,hb⟩
  simp [Q7,h1,h2]
theorem an9 {r:RG} {k:Nat} (hk:k<r.length) (h:(rg r (k:Int)).2<(rg r (k:Int)).1):Fe r=false:=by
 have:r.all (fun x=>decide (x.1≤x.2))=false:=by
  rw [uw];refine⟨rg r (k:Int),Bf (OL hk),?_⟩;simp;omega
 simp [Fe,this]
theorem aov {r:RG} (h:∀k,k<r.length→(rg r (k:Int)).1≤(rg r (k:Int)).2):Fe r=decide (rg r 0=(0,0)):=by
 have:r.all (fun x=>decide (x.1≤x.2))=true:=by
  rw [Ma];intro x hx;obtain⟨k,hk⟩:=LH.1 hx;have hl:=(Bl.1 hk).1;have e:=OL hl;rw [hk] at e;have:=h k hl;rw [←Gl e] at this;simpa using this
 simp [Fe,this]
theorem S5 (r:RG) (hr:r.length=16) (w:World):Calls Tryz.prog 129 #[.agg (AD r).toArray] w fun e w'=>e=.returned (.bool (Fe r))∧Below w.heap.size w w':=by
 obtain⟨V,hV⟩:=AA (w.alloc (.cells (AD r).toArray 174));have bV:Below w.heap.size w V:=hV▸(AP _ _).alloc (AH _) _;have kV:Am V w.heap.size 174 r:=by rw [←hV];exact Ai _ _
 have hrg:=kV.range;have VW:(Tryz.prog.info? 174).map (·.size)=some (AD r).length:=by rw [CZ,hr];kernel_rfl
 have sV:=kV.lt;have⟨KV,BV,HR⟩:=B8 kV bV hr;clear kV bV hr;go_enter Tryz.func129,Tryz.ntmps129;go_upto_region 2 with (refine Cu rfl 174 (.tmp 1) rfl w.heap.size 0 rfl (AD r) _ hrg BH rfl VW ?_);clear hV;go_loopw [4,6] (fun a4 a6 wr=>∃k:Nat,k≤16∧a6=.int .i64 (k:Int)∧(∀j:Nat,j<k→(rg r (j:Int)).1≤(rg r (j:Int)).2)∧Below V.heap.size V wr) (fun _ a6 _=>16 - (intOf a6).toNat);case atStart=>exact⟨0,by omega,rfl,fun j hj=>by omega,AP _ _⟩
 case round=>
  obtain⟨k,hk,rfl,hall,hb⟩:=hrel;have⟨HA,HB⟩:=AL hall hb;have hsz:=hb.size;clear hall hb;by_cases hlt:k<16
  ·have dl:decide ((k:Int)<16)=true:=AR A0
   have hix:=anR HR.out hlt;obtain⟨lo,hlo⟩:=AA ((rg r (k:Int)).1);obtain⟨hi,hhi⟩:=AA ((rg r (k:Int)).2);rw [hlo,hhi] at hix;have⟨HLO,HHI⟩:=AL hlo hhi;clear hlo hhi;have RT:=A3 (Ax lo hi);by_cases he:hi<lo
   ·have d2:decide (hi<lo)=true:=AR he
    go_wp2_with (go_at_call 127;refine (RT.out _).mono ?_;rintro e w' ⟨rfl,hb2⟩);go_ret;refine⟨by rw [an9 (by rw [HR.out];exact hlt) (by rw [HLO.out,HHI.out];exact he)];rfl,BV.out.trans ((HB.out.trans ?_).mono BV.out.size)⟩;exact (((AP _ _).alloc (AH _) _).trans (hb2.mono AO)).mono hsz
   ·have d2:decide (hi<lo)=false:=Aq he
    go_wp2_with (go_at_call 127;refine (RT.out _).mono ?_;rintro e w' ⟨rfl,hb2⟩);go_roundw;case rel=>
     refine⟨k+1,by omega,by go_num,fun j hj=>?_,HB.out.trans ((((AP _ _).alloc (AH _) _).trans (hb2.mono AO)).mono hsz)⟩;by_cases hjk:j=k
     ·subst hjk;rw [HLO.out,HHI.out];omega
     ·exact HA.out j A0
    case measure=>exact Aa
  ·have HK:=A3 (show k=16 by omega)
   have HP:=A3 (aov (r:=r) (fun j hj=>HA.out j (by rw [HR.out] at hj;rw [HK.out];exact hj)));have KW:=KV.out.keep HB.out;obtain⟨lo,hlo⟩:=AA ((rg r 0).1);obtain⟨hi,hhi⟩:=AA ((rg r 0).2);have c0:wr.cell? ⟨w.heap.size,0,none⟩=some (.int .i32 lo):=by rw [←hlo];simpa using KW.lo (k:=0) (by rw [HR.out];omega)
   have c1:wr.cell? ⟨w.heap.size,1,none⟩=some (.int .i32 hi):=by rw [←hhi];simpa using KW.hi (k:=0) (by rw [HR.out];omega)
   have E:=KL lo hi 0 0;have HQ:=A3 (show Fe r=(lo==0 && hi==0) by
    rw [HP.out,← hlo,← hhi,OI,DK,EY,V7,V7,Prod.ext_iff])
   have sW:w.heap.size<wr.heap.size:=by omega
   clear KW hlo hhi hrg;have dl:decide ((k:Int)<16)=false:=Aq A0;go_upto_region 7 with fail;refine Cg A6 A6 ?_;repeat (go_big_quiet_step (exact Calls.AQ (EG 0 _)))
   refine Ba ?_;rintro _ ⟨x,rfl⟩;go_wp2_with fail;go_ret;exact⟨by rw [HQ.out];rfl,BV.out.trans ((HB.out.trans (x.h.mono hsz)).mono BV.out.size)⟩
def Ca:Option RG→Value
 | none=>.tuple #[.agg (AD Ao).toArray,.bool false]
 | some r=>.tuple #[.agg (AD r).toArray,.bool true]
theorem Fy {w:World} {ib:Nat} {o a b c i:Int} (h:w.heap[ib]?=some (.cells #[.int .u8 o,.int .i64 a,.int .i64 b,.int .i64 c,.int .i64 i] 67 (0,0))) :
  w.cell? ⟨ib,0,none⟩=some (.int .u8 o)∧w.cell? ⟨ib,1,none⟩=some (.int .i64 a)∧w.cell? ⟨ib,2,none⟩=some (.int .i64 b)∧w.cell? ⟨ib,3,none⟩=some (.int .i64 c)∧w.cell? ⟨ib,4,none⟩=some (.int .i64 i)∧ib<w.heap.size:=
 ⟨I9 _ _ _ _ _ _ h,I9 _ _ _ _ _ _ h,I9 _ _ _ _ _ _ h,I9 _ _ _ _ _ _ h,I9 _ _ _ _ _ _ h,(Be.1 h).1⟩
theorem Nf (w:World) (cA cB cC:Array Value) (tA tB tC:TypeId):∃V,((w.alloc (.cells cA tA)).alloc (.cells cB tB)).alloc (.cells cC tC)=V∧V.heap[w.heap.size]?=some (.cells cA tA (0,0))∧V.heap[w.heap.size+1]?=some (.cells cB tB (0,0))∧V.heap[w.heap.size+1+1]?=some (.cells cC tC (0,0))∧Below w.heap.size w V∧w.heap.size+1+1<V.heap.size:=by
 refine⟨_,rfl,?_,?_,E4 _ _ AO,(((AP _ _).alloc (AH _) _).alloc AO _).alloc Cl _,by simp⟩
 ·rw [Bb _ _ Cl,Bb _ _ AO];exact Ai _ _
 ·rw [Bb _ _ AO];exact E4 _ _ AO
theorem CX (r:RG):(AD r).toArray.all (·.oneCell')=true:=xD fun v hv=>by
 unfold AD at hv;obtain⟨x,_,h⟩:=cj.1 hv;simp only [Di,Xb,VQ] at h;rcases h with rfl|rfl<;>rfl
theorem xP (op a b c im:Int) (h0:0≤op) (r:RG) (hr:R16 r) (w:World) (T:C8 w) (hno:CE ⟨op,a,b,c,im⟩=false∨(CE ⟨op,a,b,c,im⟩=true∧Fe r=false)) :
  Calls Tryz.prog 107 #[.agg #[.int .u8 op,.int .i64 a,.int .i64 b,.int .i64 c,.int .i64 im],.agg (AD r).toArray] w fun e w'=>e=.returned (Ca none)∧Below w.heap.size w w':=by
 obtain⟨V,hV,k0,k1,k2,bV,sV⟩:=Nf w #[.int .u8 op,.int .i64 a,.int .i64 b,.int .i64 c,.int .i64 im] (AD r).toArray BO.toArray 67 174 174;obtain⟨a0,a1,a2,a3,a4,lV⟩:=Fy k0;have⟨K1,Jn,K2,BV,DN,C9⟩:=I2 (show Am V (w.heap.size+1) 174 r from k1) (show (Tryz.prog.info? 174).map (·.size)=some (AD r).length by rw [CZ,hr.len];kernel_rfl) k2 bV (Calls.ext (NK ⟨op,a,b,c,im⟩ h0 V (T.below bV))) (fun x:Ext V=>Calls.AQ (x:=x) (S5 r hr.len x.w));clear k0 k1 k2 bV;go_enter Tryz.func107,Tryz.ntmps107;go_upto_region 1 with fail;clear hV;rcases hno with hv|⟨hv,hp⟩
 ·rw [hv] at DN
  go_wp2_with (first|(go_at_call 55;refine DN.out.mono ?_;rintro e w' ⟨rfl,y,rfl⟩)|(refine Bp rfl 174 (.tmp 4) (.tmp 16) rfl (w.heap.size+1+1) BO.toArray rfl rfl 174 _ (((Ext.h _).block _ sV).trans K2.out) A6 rfl BS ?_));refine Al (results_cell_tmp (P:=Tryz.prog) fy _ _ (w.heap.size+1+1) BO _ rfl (FM (IJ _ _ _ _ _ _ ((y.h.block _ sV).trans K2.out))) BH rfl A6) rfl ⟨rfl,Bt (BV.out.trans (y.h.mono BV.out.size)) A0 _⟩
 ·rw [hv] at DN
  rw [hp] at C9;go_wp2_with (first|(go_at_call 55;refine DN.out.mono ?_;rintro e w' ⟨rfl,y,rfl⟩)|(go_at_call 129;refine (C9.out _).mono ?_;rintro e w' ⟨rfl,z,rfl⟩)|(refine QB JT _ _ rfl _ _ rfl (AD r) _ (K1.out.keep (Ext.h _)).range BH rfl Jn.out ?_)|(refine Bp rfl 174 (.tmp 4) (.tmp 16) rfl (w.heap.size+1+1) BO.toArray rfl rfl 174 _ (((Ext.h _).block _ sV).trans K2.out) A6 rfl BS ?_));refine Al (results_cell_tmp (P:=Tryz.prog) fy _ _ (w.heap.size+1+1) BO _ rfl (FM (IJ _ _ _ _ _ _ ((z.h.block _ sV).trans K2.out))) BH rfl A6) rfl ⟨rfl,Bt (BV.out.trans (z.h.mono BV.out.size)) A0 _⟩
theorem vG {r:RG} (hl:r.length=16) (h0:rg r 0=(0,0)) (an:Nat) (x:Int×Int):(r.set an x).set 0 (0,0)=DZ r (an:Int) x:=by
 have hz:r.set 0 (0,0)=r:=by
  apply JX;intro i;by_cases hi:i=0
  ·subst hi
   rw [IY];have:=OL (r:=r) (k:=0) A0;rw [show ((0:Nat):Int)=0 from rfl] at this;rw [this];simp [hl];exact h0.symm
  ·rw [IY];simp [Ds hi]
 unfold DZ;by_cases ha:an=0
 ·subst ha
  simp [hz]
 ·rw [A9 A0,List.set_comm _ _ ha,hz]
  simp
theorem uZ {r:RG} (hl:r.length=16) (h0:rg r 0=(0,0)):r.set 0 (0,0)=r:=by
 have h:=vG hl h0 0 (0,0);rw [List.set_set] at h;rw [h];rfl
theorem kM {r:RG} (h:Fe r=true):rg r 0=(0,0):=by
 unfold Fe at h;rw [EY,DK] at h;exact h.2
theorem an5 (w:World) (cA cB cC cD:Array Value) (tA tB tC tD:TypeId):∃V,(((w.alloc (.cells cA tA)).alloc (.cells cB tB)).alloc (.cells cC tC)).alloc (.cells cD tD)=V∧V.heap[w.heap.size]?=some (.cells cA tA (0,0))∧V.heap[w.heap.size+1]?=some (.cells cB tB (0,0))∧V.heap[w.heap.size+1+1]?=some (.cells cC tC (0,0))∧V.heap[w.heap.size+1+1+1]?=some (.cells cD tD (0,0))∧Below w.heap.size w V∧w.heap.size+1+1+1<V.heap.size:=by
 obtain⟨V,e,h0,h1,h2,hb,hs⟩:=Nf w cA cB cC tA tB tC;have hs3:V.heap.size=w.heap.size+1+1+1:=by rw [←e];simp
 refine⟨V.alloc (.cells cD tD),by rw [←e],?_,?_,?_,?_,hb.alloc A0 _,by simp;omega⟩
 ·rw [Bb _ _ A0];exact h0
 ·rw [Bb _ _ A0];exact h1
 ·rw [Bb _ _ A0];exact h2
 ·rw [←hs3];exact Ai _ _
theorem aos {x y z:RG} {F:Int×Int→Int×Int→Int×Int} (hx:x.length=16) (hy:y.length=16) (hz:z.length=16) (h:∀j:Nat,j<16→rg z (j:Int)=F (rg x (j:Int)) (rg y (j:Int))):z=List.zipWith F x y:=by
 apply JX;intro i;by_cases hi:i<16
 ·have:=h i hi
  rw [OL A0,this];rw [oL,OL A0,OL A0]
 ·rw [E0 A0,E0 (by rw [qd];omega)]
theorem dA (fid:FuncId) (F:Int×Int→Int×Int→Int×Int) (he:∀(args:Array Value) (w:World),(callFunc fid args).run Tryz.prog w=.ok (.enter fid args) w)
  (hF:∀a b c d w,Calls Tryz.prog fid #[.agg #[.int .i32 a,.int .i32 b],.agg #[.int .i32 c,.int .i32 d]] w fun e w'=>e=.returned (.agg #[.int .i32 (F (a,b) (c,d)).1,.int .i32 (F (a,b) (c,d)).2])∧Below w.heap.size w w')
  (x y:RG) (hx:x.length=16) (hy:y.length=16) (w:World) :
  Calls Tryz.prog 104 #[.agg (AD x).toArray,.agg (AD y).toArray,.func (.func fid) #[] #[]] w fun e w'=>e=.returned (.agg (AD (List.zipWith F x y)).toArray)∧Below w.heap.size w w':=by
 obtain⟨V,hV,k0,k1,k2,k3,bV,sV⟩:=an5 w (AD x).toArray (AD y).toArray BO.toArray BO.toArray 174 174 174 174;have⟨K0,K1,K2,K3,BV,HX,HY,HF⟩:=Ki (show Am V w.heap.size 174 x from k0) (show Am V (w.heap.size+1) 174 y from k1) k2 (show Am V (w.heap.size+1+1+1) 174 Ao from k3) bV hx hy hF;clear k0 k1 k2 k3 bV hF hx hy;go_enter Tryz.func104,Tryz.ntmps104;go_upto_region 3 with fail;clear hV;go_loopw [9] (fun a9 wr=>∃k:Nat,∃z:RG,k≤16∧a9=.int .i64 (k:Int)∧z.length=16∧(∀j:Nat,j<k→rg z (j:Int)=F (rg x (j:Int)) (rg y (j:Int)))∧Below (w.heap.size+1+1+1) V wr∧Am wr (w.heap.size+1+1+1) 174 z) (fun a9 _=>16 - (intOf a9).toNat);case atStart=>exact⟨0,Ao,by omega,rfl,by simp [Ao],fun j hj=>by omega,AP _ _,K3.out⟩
 case round=>
  obtain⟨k,z,hk,rfl,hz,hall,hb,kz⟩:=hrel;have⟨HA,HB,HZ,fT⟩:=Bz hall hb hz hb.size;clear hall hb hz;by_cases hlt:k<16
  ·have dl:decide ((k:Int)<16)=true:=AR A0
   have ik:(k:Int)<16:=by omega
   have KX:Am wr w.heap.size 174 x:=(HB.out.block _ A0).trans K0.out;have KY:Am wr (w.heap.size+1) 174 y:=(HB.out.block _ A0).trans K1.out;obtain⟨xl,hxl⟩:∃v,(rg x (k:Int)).1=v:=⟨_,rfl⟩;obtain⟨xh,Fg⟩:∃v,(rg x (k:Int)).2=v:=⟨_,rfl⟩;obtain⟨yl,hyl⟩:∃v,(rg y (k:Int)).1=v:=⟨_,rfl⟩;obtain⟨yh,WS⟩:∃v,(rg y (k:Int)).2=v:=⟨_,rfl⟩;have c0:wr.cell? ⟨w.heap.size,k*2,none⟩=some (.int .i32 xl):=by rw [←hxl];exact KX.lo (by rw [HX.out];exact hlt)
   have c1:wr.cell? ⟨w.heap.size,k*2+1,none⟩=some (.int .i32 xh):=by rw [←Fg];exact KX.hi (by rw [HX.out];exact hlt)
   have c2:wr.cell? ⟨w.heap.size+1,k*2,none⟩=some (.int .i32 yl):=by rw [←hyl];exact KY.lo (by rw [HY.out];exact hlt)
   have c3:wr.cell? ⟨w.heap.size+1,k*2+1,none⟩=some (.int .i32 yh):=by rw [←WS];exact KY.hi (by rw [HY.out];exact hlt)
   have l0:w.heap.size<wr.heap.size:=KX.lt;have l1:w.heap.size+1<wr.heap.size:=KY.lt;have l3:w.heap.size+1+1+1<wr.heap.size:=kz.lt;have f0:wr.frozen? ⟨w.heap.size+1+1+1,k*2,none⟩=false:=kz.fz _;have f1:wr.frozen? ⟨w.heap.size+1+1+1,k*2+1,none⟩=false:=kz.fz _;have z0:wr.cell? ⟨w.heap.size+1+1+1,k*2,none⟩=some (.int .i32 (rg z (k:Int)).1):=kz.lo (by rw [HZ.out];exact hlt);have z1:wr.cell? ⟨w.heap.size+1+1+1,k*2+1,none⟩=some (.int .i32 (rg z (k:Int)).2):=kz.hi (by rw [HZ.out];exact hlt);obtain⟨p,q,hp⟩:∃p q,F (xl,xh) (yl,yh)=(p,q):=⟨_,_,rfl⟩;have HG:=A3 (show ∀w,Calls Tryz.prog fid #[.agg #[.int .i32 xl,.int .i32 xh],.agg #[.int .i32 yl,.int .i32 yh]] w fun e w'=>e=.returned (.agg #[.int .i32 p,.int .i32 q])∧Below w.heap.size w w' from fun w=>by
    have:=HF.out xl xh yl yh w;rw [hp] at this
    exact this)
   have⟨HP,KZ⟩:=AL (show F (rg x (k:Int)) (rg y (k:Int))=(p,q) by rw [←hp,← hxl,← Fg,← hyl,← WS]) kz;clear hp hxl Fg hyl WS KX KY kz;go_upto_region 5 with fail;refine JW 9 A6 A6 ?_;simp only [Ew,List.take_zero,Er,List.drop_zero];repeat (go_big_quiet_step (exact Calls.AQ (HG.out _)))
   refine Ba ?_;rintro _ ⟨x1,rfl⟩;go_wp2_with fail;go_roundw;case rel=>
    refine⟨k+1,z.set k (p,q),by omega,by go_num,by rw [NP];exact HZ.out,fun j hj=>?_,?_,(KZ.out.keep x1.h).set k (p,q)⟩
    ·by_cases hjk:j=k
     ·subst hjk
      rw [HP.out,XR];simp [List.getD,show j<z.length by rw [HZ.out];exact hlt]
     ·have:=HA.out j A0
      rw [←this,XR,XR];simp [List.getD,IY,Ds hjk]
    ·exact CJ (CJ (HB.out.trans (x1.h.mono (by have:=fT.out;omega))) (AH _) _) (AH _) _
   case measure=>exact Aa
  ·obtain rfl:k=16:=by omega
   have⟨HR,DD,JS,KD,Q8,Pv,KO⟩:=Yi (aos HX.out HY.out HZ.out HA.out) kz.range (show (Tryz.prog.info? 174).map (·.size)=some (AD z).length by rw [CZ,HZ.out];kernel_rfl) (show (Tryz.prog.info? 174).map (·.size)=some (AD z).toArray.size by rw [Iu,CZ,HZ.out];kernel_rfl) (show (BO.toArray:Array Value).size=(AD z).toArray.size by rw [show (AD z).toArray.size=32 by rw [Iu,CZ,HZ.out]];rfl) (CX z) ((HB.out.block _ A0).trans K2.out);go_wp2_with (first|(refine Cu rfl _ _ rfl _ _ rfl (AD z) _ DD.out BH rfl JS.out ?_)|(refine Bp rfl 174 (.tmp 6) (.tmp 23) rfl (w.heap.size+1+1) (AD z).toArray rfl rfl 174 _ KO.out KD.out Q8.out Pv.out ?_));refine Al (apC (P:=Tryz.prog) Tryz.results104 _ _ (w.heap.size+1+1) (AD z) _ rfl (FM (IJ _ _ _ _ _ _ KO.out)) BH rfl JS.out) rfl ⟨?_,Bt (BV.out.trans (HB.out.mono A0)) A0 _⟩;rw [HR.out]
theorem XV (l:List Int):Ae (Az l).1∧Ae (Az l).2:=by
 rcases acJ l with h|⟨h,h1,h2⟩
 ·rw [h];unfold Ae;simp only;omega
 ·rw [h]
  have h3:N3 l≤LK l:=by
   by_cases hl:l=[]
   ·subst hl;decide
   ·exact Int.le_trans (aml (wA hl)) (aiy (wA hl))
  unfold Ae;simp only;omega
theorem xF (a n:Bool):Ae (DR a n).1∧Ae (DR a n).2:=by cases a<;>cases n<;>(unfold DR Ae;simp)
theorem uH {x y:Int×Int} (hx:Ae x.1∧Ae x.2) (hy:Ae y.1∧Ae y.2):Ae (Aw x y).1∧Ae (Aw x y).2:=by
 unfold Aw Ae at *;split<;>simp only<;>omega
theorem zm {x y:Int} (h:Ae x):Ae (x.tmod y):=by
 unfold Ae at *;have h1:=Int.natAbs_tmod x y;have h2:x.natAbs % y.natAbs≤x.natAbs:=Nat.mod_le _ _;by_cases h0:0≤x
 ·have:=Int.tmod_nonneg y h0
  omega
 ·have h3:0≤(-x).tmod y:=Int.tmod_nonneg y A0
  rw [Int.neg_tmod] at h3;omega
theorem gi {a:Int} (h:Ae a) (n:Nat):Ae (a / 2 ^ n):=by
 have h1:=apZ a n;unfold Ae at *;by_cases h2:0≤a
 ·have:=h1.1 h2;omega
 ·have:=h1.2 A0;omega
theorem apF (b:Bool):Ae (Hy b):=by cases b<;>(unfold Ae Hy;simp)
theorem aqh {c:Prop} [Decidable c] {a b:Int} (ha:Ae a) (hb:Ae b):Ae (if c then a else b):=by split<;>assumption
theorem vO {op a b:Int} (ha:Ae a):Ae (wv op a b):=by
 have z:Ae 0:=by unfold Ae;omega
 unfold wv
 repeat' (first|exact wu _|exact amS _ _ _|exact apF _|exact z|exact zm ha|exact gi ha _|refine aqh ?_ ?_)
theorem aL {op:Int} {x y:Int×Int} (hx:Ae x.1∧Ae x.2) (hy:Ae y.1∧Ae y.2):Ae (EX op x y).1∧Ae (EX op x y).2:=by
 have full:Ae ((-2147483648,2147483647):Int×Int).1∧Ae ((-2147483648,2147483647):Int×Int).2:=by unfold Ae;simp
 have em:Ae ((1,0):Int×Int).1∧Ae ((1,0):Int×Int).2:=by unfold Ae;simp
 unfold EX;split
 ·exact full
 split
 ·exact em
 rename_i ne;split
 ·split
  ·rename_i h
   exact⟨vO hx.1,vO hx.1⟩
  ·exact em
 unfold Ip;split;exact XV _
 split;exact XV _
 split;exact XV _
 split
 ·unfold Pz
  split;exact em
  split;exact full
  exact XV _
 split
 ·unfold FB
  split
  ·exact em
  ·unfold Ae Qi at *
   simp only;constructor<;>split<;>omega
 split
 ·unfold Nz
  have ho:∀n:Int,Ae n→0≤n→Ae (KC n):=fun n h1 h2=>by
   have h3:=adt (n:=n) (m:=2147483647) h1.2;have h4:=xg h2 h1.2;have h5:KC 2147483647=2147483647:=by decide
   unfold Ae at *;omega
  have hm:Ae (max x.2 y.2):=by unfold Ae at *;omega
  split;· unfold Ae at *;simp only;omega
  split;· unfold Ae at *;simp only;omega
  split;· unfold Ae at *;simp only;omega
  split
  ·refine⟨by unfold Ae at *;simp only;omega,ho _ hm A0⟩
  split;· unfold Ae at *;simp only;omega
  split
  ·refine⟨by unfold Ae;simp,ho _ hm A0⟩
  exact full
 split
 ·unfold N9
  split
  ·split
   ·exact XV _
   ·exact full
  ·split
   ·exact⟨gi hx.1 _,gi hx.2 _⟩
   ·unfold Ae at *
    simp only;constructor<;>split<;>omega
 split
 ·unfold XM
  (repeat' split)<;>exact xF _ _
 ·unfold XQ
  split<;>exact xF _ _
theorem aqi {i:Ins} (hv:CE i=true) (h0:0≤i.op):Ae i.AG∧Ae (i.AG - 1):=by
 obtain⟨k,hk⟩:=(PT h0).1 hv;have h1:=hk.AG;have h2:∀k,k<30→-131072≤M9 k∧MT k≤131071:=by decide
 have:=h2 k hk.lt;unfold Ae;omega
theorem j7 {i:Ins} {r r':RG} (h0:0≤i.op) (hr:R16 r) (h:Iw i r=some r'):R16 r':=by
 unfold Iw at h;split at h
 ·rename_i hv
  obtain⟨w1,w2⟩:=aqi hv.1 h0;have z:Ae 0:=by unfold Ae;omega
  split at h
  ·split at h
   ·cases h
   ·cases h
    exact hr.DZ _ (aL (hr.at_ _) (hr.at_ _))
  split at h
  ·cases h;exact hr.DZ _ ⟨w1,w1⟩
  split at h
  ·cases h;exact hr.DZ _ (aL (hr.at_ _) ⟨w1,w1⟩)
  split at h
  ·cases h;exact hr.DZ _ (aL (hr.at_ _) ⟨w1,w1⟩)
  split at h
  ·cases h;exact hr.DZ _ (aL (hr.at_ _) ⟨w1,w1⟩)
  split at h
  ·cases h;exact hr.DZ _ (by unfold ay Ae;simp)
  split at h
  ·split at h
   ·cases h
   ·cases h;exact hr.DZ _ (uH (hr.at_ _) ⟨z,w2⟩)
  cases h;exact hr
 ·cases h
theorem yC {op:Int} {t:Bool} {x:Int×Int} (hx:Ae x.1∧Ae x.2):Ae (LX op t x).1∧Ae (LX op t x).2:=by
 unfold LX;split
 ·exact uH hx (by unfold Ae;simp)
 ·unfold Q7 Ae at *
  (repeat' split)<;>first|omega|(simp only;omega)
theorem KT {i:Ins} {r r':RG} {t:Bool} (hr:R16 r) (h:Dl i r t=some r'):R16 r':=by
 unfold Dl at h;split at h
 ·split at h
  ·split at h
   ·cases h
   ·cases h;exact hr.DZ _ (yC (hr.at_ _))
  split at h
  ·split at h
   ·cases h;exact hr
   ·cases h
  ·split at h
   ·cases h
   ·cases h;exact hr
 ·cases h
theorem Yz:∀ {l:List Ins} {r r':RG},(∀i∈l,0≤i.op)→R16 r→F5 l r=some r'→R16 r'
 | [],r,r',_,hr,h=>by cases h;exact hr
 | i :: l,r,r',ho,hr,h=>by
  unfold F5 at h;cases e:Iw i r with
  | none=>rw [e] at h;cases h
  | some x=>
   rw [e] at h;exact Yz (fun j hj=>ho j (F9 _ hj)) (j7 (ho i (Jo ..)) hr e) h
theorem dS {last:Ins} {m k:Nat} {r r':RG} (hr:R16 r) (h:En last m k r=some r'):R16 r':=by
 unfold En at h;split at h
 ·cases h;exact hr
 split at h
 ·exact KT hr h
 ·split at h
  ·exact KT hr h
  ·rename_i h1 _
   cases h;exact KT hr h1
  ·rename_i h1 h2
   cases h;exact (KT hr h1).join (KT hr h2)
theorem qW {n:Nat} {last:Ins} {nx:List Int} {Ag:RG} (ha:R16 Ag) (BJ:∀t∈nx,0≤t∧t<n) {s:AS} (hs:Iy n s):∀k,k≤nx.length→Iy n (Fv last nx Ag s k).1∧((Fv last nx Ag s k).2=true→Gc (Fv last nx Ag s k).1 n<Gc s n)∧((Fv last nx Ag s k).2=false→(Fv last nx Ag s k).1=s)
 | 0,_=>⟨hs,(fun h=>by cases h),fun _=>rfl⟩
 | k+1,hk=>by
  obtain⟨h1,h2,h3⟩:=qW ha BJ hs k A0;have ht:0≤nx.getD k 0∧nx.getD k 0<n:=by
   have e:nx.getD k 0=nx[k]:=by simp [List.getD,Aj (show k<nx.length by omega)]
   rw [e];exact BJ _ (Cn _)
  obtain⟨g1,g2,g3⟩:=dY h1 (t:=(nx.getD k 0).toNat) A0 (En last nx.length k Ag) (fun r hr=>dS ha hr);unfold Fv;simp only;refine⟨g1,fun h=>?_,fun h=>?_⟩
  ·rw [aS] at h
   cases q1:(Fv last nx Ag s k).2<;>cases q2:(F7 (Fv last nx Ag s k).1 (nx.getD k 0).toNat (En last nx.length k Ag)).2
   ·rw [q1,q2] at h;simp at h
   ·have:=g2 q2;rw [h3 q1] at this ⊢;exact this
   ·rw [g3 q2];exact h2 q1
   ·have:=g2 q2;have:=h2 q1;omega
  ·rw [Bool.or_eq_false_iff] at h
   rw [g3 h.2,h3 h.1]
structure ko (n:Nat) (b:AB):Prop where
 op:∀i∈b.code,0≤i.op
 nx:∀t∈b.nx,0≤t∧t<n
theorem anC {n:Nat} {b:AB} (hb:ko n b) {s:AS} (hs:Iy n s) {k:Nat} (hk:k<n):Iy n (Gf b k s).1∧((Gf b k s).2=true→Gc (Gf b k s).1 n<Gc s n)∧((Gf b k s).2=false→(Gf b k s).1=s):=by
 unfold Gf;split
 ·exact⟨hs,(fun h=>by cases h),fun _=>rfl⟩
 ·rename_i Ag h
  exact qW (Yz hb.op (hs.get hk) h) hb.nx hs _ (AH _)
theorem qj {n:Nat} {B:List AB} (hB:∀b∈B,ko n b) (hl:B.length=n) {s:AS} (hs:Iy n s):∀k,k≤n→Iy n (DG B s k).1∧((DG B s k).2=true→Gc (DG B s k).1 n<Gc s n)∧((DG B s k).2=false→(DG B s k).1=s)
 | 0,_=>⟨hs,(fun h=>by cases h),fun _=>rfl⟩
 | k+1,hk=>by
  obtain⟨h1,h2,h3⟩:=qj hB hl hs k A0;have e:B.getD k ⟨[],[]⟩=B[k]'A0:=by simp [List.getD,Aj (show k<B.length by omega)]
  obtain⟨g1,g2,g3⟩:=anC (hB _ (Cn (show k<B.length by omega))) h1 (k:=k) A0;rw [←e] at g1 g2 g3;unfold DG;simp only;split
  ·simp only
   refine⟨g1,fun h=>?_,fun h=>?_⟩
   ·rw [aS] at h
    cases q1:(DG B s k).2<;>cases q2:(Gf (B.getD k ⟨[],[]⟩) k (DG B s k).1).2
    ·rw [q1,q2] at h;simp at h
    ·have:=g2 q2;rw [h3 q1] at this ⊢;exact this
    ·rw [g3 q2];exact h2 q1
    ·have:=g2 q2;have:=h2 q1;omega
   ·rw [Bool.or_eq_false_iff] at h
    rw [g3 h.2,h3 h.1]
  ·exact⟨h1,h2,h3⟩
theorem tP (n:Nat):Iy n (EW n):=by
 refine⟨by simp [EW],by simp [EW],by simp [EW],fun r hr=>by rw [(gN.1 hr).2];exact R16.zero,fun x hx=>?_⟩;rw [(gN.1 hx).2];have hb:∀k,IC (EW n) k≤70:=fun k=>by
  unfold IC;split
  ·exact AH _
  ·have h:JF ((EW n).Af.getD k [])≤64:=by
    have:=j9 (r:=(EW n).Af.getD k []);have hl:((EW n).Af.getD k []).length≤16:=by
     unfold EW;simp only [List.getD];by_cases hk:k<n
     ·simp [hk,Ao]
     ·simp [hk]
    omega
   omega
 have:∀m,((List.range m).map (IC (EW n))).sum≤70*m:=fun m=>by
  induction m with
  | zero=>simp
  | succ m ih=>
   simp only [J5,Nx,Vn,XU,List.sum_append,Zv,List.sum_nil];have:=hb m;omega
 have:=this n;unfold Gc;omega
section
def O8 (l:List Ins):List Value:=l.flatMap fun i=>[.int .u8 i.op,.int .i64 i.a,.int .i64 i.b,.int .i64 i.c,.int .i64 i.AG]
theorem Vu:∀(l:List Ins) (k j:Nat) (i:Ins),l[k]?=some i→j<5→(O8 l)[k*5+j]?=[Value.int .u8 i.op,.int .i64 i.a,.int .i64 i.b,.int .i64 i.c,.int .i64 i.AG][j]?
 | y :: L,0,j,x,h,hj=>by
  simp at h;subst h;unfold O8;rw [JO,TN,EU,JJ (by simpa using hj)]
 | y :: L,k+1,j,x,h,hj=>by
  have h':L[k]?=some x:=by simpa using h
  have ih:=Vu L k j x h' hj;unfold O8 at ih ⊢;rw [JO,J4 Cl,← ih];simp only [GD,Yp];congr 1
  omega
theorem am1 (l:List Ins) (i:Ins):O8 (l++[i])=O8 l++[.int .u8 i.op,.int .i64 i.a,.int .i64 i.b,.int .i64 i.c,.int .i64 i.AG]:=by simp [O8]
def JQ (L:List RG):List Value:=L.flatMap AD
theorem Va:∀ {L:List RG},(∀r∈L,r.length=16)→(JQ L).length=L.length*32
 | [],_=>rfl
 | r :: L,h=>by
  have ih:=Va (L:=L) (fun x hx=>h x (F9 _ hx));have h1:=h r (Jo ..);unfold JQ at ih ⊢;rw [JO,FO,ih,CZ,h1,GD];omega
theorem Ur:∀ {L:List RG} {k:Nat} {r:RG},(∀r∈L,r.length=16)→L[k]?=some r→∀j,j<32→(JQ L)[k*32+j]?=(AD r)[j]?
 | y :: L,0,r,h,hk,j,hj=>by
  simp at hk;subst hk;unfold JQ;rw [JO,TN,EU,JJ (by rw [CZ,h y (Jo ..)];omega)]
 | y :: L,k+1,r,h,hk,j,hj=>by
  have hk':L[k]?=some r:=by simpa using hk
  have ih:=Ur (fun x hx=>h x (F9 _ hx)) hk' j hj;unfold JQ at ih ⊢;rw [JO,J4 (by rw [CZ,h y (Jo ..)];omega),← ih,CZ,h y (Jo ..)];congr 1
  omega
theorem aoS {L:List RG} (h:∀r∈L,r.length=16) {k:Nat} (hk:k<L.length) {r:RG} (hr:r.length=16) :
  (JQ L).take (k*32)++AD r++(JQ L).drop (k*32+32)=JQ (L.set k r):=by
 have hl:=Va h;have h':∀x∈L.set k r,x.length=16:=fun x hx=>by rcases Zg hx with h1|rfl;exact h _ h1;exact hr
 have hl':=Va h';rw [NP] at hl';have hc:(AD r).length=32:=by rw [CZ,hr]
 apply JX;intro q;by_cases hq:q<L.length*32
 ·obtain⟨a,b,hb,rfl⟩:∃a b,b<32∧q=a*32+b:=⟨q / 32,q % 32,Nat.mod_lt _ A0,by omega⟩
  have ha:a<L.length:=by omega
  by_cases e:a=k
  ·subst e
   rw [Ur h' (r:=r) (by simp [ha]) b hb,X5,J4 mR,RM,Nat.min_eq_left A0,show a*32+b - a*32=b by omega,JJ A0]
  ·rw [Ur h' (r:=L[a]) (by rw [IY];simp [Ds e,ha]) b hb,← Ur h (Aj ha) b hb]
   by_cases e2:a<k
   ·rw [X5,JJ mR,eu,AE A0]
   ·rw [J4 (by rw [FO,RM];omega),FO,RM,hc,Nat.min_eq_left A0,mW]
    congr 1
    omega
 ·rw [E0 (by rw [FO,FO,RM,jw,hc];omega),E0 A0]
structure An (V w:World) (ab cb rb ib pb:Nat) (bv pv:Value) (G:List AV) (B:List AB) (val:Nat→Value) (s:AS):Prop where
 A7:Below V.heap.size V w
 jI:Dc V bv G
 lG:G.length=B.length
 gnx:∀(k:Nat) (x:AV) (b:AB),G[k]?=some x→B[k]?=some b→x.nx=b.nx
 lB:B.length≤1000000
 aV:V.heap.size≤ab
 rV:V.heap.size≤rb
 iV:V.heap.size≤ib
 pV:V.heap.size≤pb
 head:w.heap[ab]?=some (.cells #[bv,pv,.slice (some ⟨cb,0,none⟩) B.length B.length,.slice (some ⟨rb,0,none⟩) B.length B.length,.slice (some ⟨ib,0,none⟩) B.length B.length,.slice (some ⟨pb,0,none⟩) B.length B.length] 169 (0,0))
 Ii:w.ownsRow V.heap.size 144 1 (.slice (some ⟨cb,0,none⟩) B.length B.length) B.length ((List.range B.length).map val)
 own:∀(k:Nat) (b:AB),B[k]?=some b→w.ownsRow V.heap.size 67 5 (val k) b.code.length (O8 b.code)
 Dn:w.heap[rb]?=some (.cells (s.reach.map Value.bool).toArray 4 (0,0))
 Gh:w.heap[ib]?=some (.cells (JQ s.Af).toArray 174 (0,0))
 Bk:w.heap[pb]?=some (.cells (s.rep.map (Value.int .i64)).toArray 3 (0,0))
 Ez:Iy B.length s
section
variable {V w:World} {ab cb rb ib pb:Nat} {bv pv:Value} {G:List AV} {B:List AB} {val:Nat→Value} {s:AS}
theorem An.lt (h:An V w ab cb rb ib pb bv pv G B val s):ab<w.heap.size∧cb<w.heap.size∧rb<w.heap.size∧ib<w.heap.size∧pb<w.heap.size:=
 ⟨BR h.head,(h.Ii.lt cb rfl).2,BR h.Dn,BR h.Gh,BR h.Bk⟩
theorem JK {w:World} {B:Nat} {e:TypeId} {z n q:Nat} {v:Value} {xs:List Value} (h:w.ownsRow B e z v n xs) (hq:v.ownBlock=some q):∃cs,w.heap[q]?=some (.cells cs e (0,0)):=by
 rcases h.2 with⟨rfl,_⟩|⟨g,cap,cur,rfl,_,hg,_⟩
 ·cases hq
 ·cases hq;exact⟨_,hg⟩
theorem Ct {w:World} {q q':Nat} {cs cs':Array Value} {e e':TypeId} (h:w.heap[q]?=some (.cells cs e (0,0))) (h':w.heap[q']?=some (.cells cs' e' (0,0))) (hne:e≠e'):q≠q':=by
 rintro rfl;rw [h] at h';cases h';exact hne rfl
theorem An.ne (h:An V w ab cb rb ib pb bv pv G B val s):ab≠rb∧ab≠ib∧ab≠pb∧cb≠rb∧cb≠ib∧cb≠pb∧rb≠ib∧rb≠pb∧ib≠pb:=by
 obtain⟨cs,hc⟩:=JK h.Ii (q:=cb) rfl;exact⟨Ct h.head h.Dn AK,Ct h.head h.Gh AK,Ct h.head h.Bk AK,Ct hc h.Dn AK,Ct hc h.Gh AK,Ct hc h.Bk AK,Ct h.Dn h.Gh AK,Ct h.Dn h.Bk AK,Ct h.Gh h.Bk AK⟩
def OZ (rb ib pb:Nat):Nat→Prop:=fun k=>k=rb∨k=ib∨k=pb
theorem An.to {w':World} {s':AS} (h:An V w ab cb rb ib pb bv pv G B val s) (hf:Fr (OZ rb ib pb) w w')
  (hr:w'.heap[rb]?=some (.cells (s'.reach.map Value.bool).toArray 4 (0,0))) (hi:w'.heap[ib]?=some (.cells (JQ s'.Af).toArray 174 (0,0)))
  (hp:w'.heap[pb]?=some (.cells (s'.rep.map (Value.int .i64)).toArray 3 (0,0))) (ha:Iy B.length s'):An V w' ab cb rb ib pb bv pv G B val s':=by
 obtain⟨n1,n2,n3,n4,n5,n6,_⟩:=h.ne;have hS:∀k,OZ rb ib pb k→V.heap.size≤k:=fun k hk=>by
  have:=h.rV;have:=h.iV;have:=h.pV;rcases hk with rfl|rfl|rfl<;>assumption
 have hq:∀ {e:TypeId} {z n:Nat} {v:Value} {xs:List Value},w.ownsRow V.heap.size e z v n xs→e≠4→e≠174→e≠3→∀q,v.ownBlock=some q→¬OZ rb ib pb q:=fun ho e1 e2 e3 q hq hk=>by
  obtain⟨cs,hc⟩:=JK ho hq;rcases hk with rfl|rfl|rfl
  ·exact Ct hc h.Dn e1 rfl
  ·exact Ct hc h.Gh e2 rfl
  ·exact Ct hc h.Bk e3 rfl
 refine⟨h.A7.trans (hf.below h.A7.size hS),h.jI,h.lG,h.gnx,h.lB,h.aV,h.rV,h.iV,h.pV,?_,?_,fun k b hk=>?_,hr,hi,hp,ha⟩
 ·rw [hf.block ab h.lt.1 (by unfold OZ;omega)];exact h.head
 ·exact hf.own h.Ii (hq h.Ii AK AK AK)
 ·exact hf.own (h.own k b hk) (hq (h.own k b hk) AK AK AK)
theorem An.below {w':World} (h:An V w ab cb rb ib pb bv pv G B val s) (hb:Below w.heap.size w w'):An V w' ab cb rb ib pb bv pv G B val s:=by
 obtain⟨l1,l2,l3,l4,l5⟩:=h.lt;exact h.to (Fr.of hb) ((hb.block _ l3).trans h.Dn) ((hb.block _ l4).trans h.Gh) ((hb.block _ l5).trans h.Bk) h.Ez
theorem An.cells (h:An V w ab cb rb ib pb bv pv G B val s):w.cell? ⟨ab,0,none⟩=some bv∧w.cell? ⟨ab,2,none⟩=some (.slice (some ⟨cb,0,none⟩) B.length B.length)∧w.cell? ⟨ab,3,none⟩=some (.slice (some ⟨rb,0,none⟩) B.length B.length)∧w.cell? ⟨ab,4,none⟩=some (.slice (some ⟨ib,0,none⟩) B.length B.length)∧w.cell? ⟨ab,5,none⟩=some (.slice (some ⟨pb,0,none⟩) B.length B.length):=by
 refine⟨?_,?_,?_,?_,?_⟩<;>simp [World.cell?,h.head]
theorem An.code (h:An V w ab cb rb ib pb bv pv G B val s) {k:Nat} {b:AB} (hk:B[k]?=some b):w.cell? ⟨cb,k,none⟩=some (val k)∧(val k=.slice none 0 0∧b.code=[]∨∃q cap,val k=.slice (some ⟨q,0,none⟩) b.code.length cap∧b.code.length≤cap∧cap≤maxLen∧q<w.heap.size∧∀j i,b.code[j]?=some i→
  w.cell? ⟨q,j*5,none⟩=some (.int .u8 i.op)∧w.cell? ⟨q,j*5+1,none⟩=some (.int .i64 i.a)∧w.cell? ⟨q,j*5+2,none⟩=some (.int .i64 i.b)∧w.cell? ⟨q,j*5+3,none⟩=some (.int .i64 i.c)∧w.cell? ⟨q,j*5+4,none⟩=some (.int .i64 i.AG)):=by
 have hlt:=(Bl.1 hk).1;refine⟨by rw [h.Ii.cellAt _ A0,Cr,Ev hlt];rfl,?_⟩;have ho:=h.own k b hk;rcases ho.2 with⟨h1,h2⟩|⟨g,cap,cur,h1,h2,h3,h4,h5,h6,h7⟩
 ·exact .inl ⟨h1,Zs.1 h2⟩
 ·refine .inr ⟨g,cap,h1,h4,h5,BR h3,fun j i hi=>?_⟩
  have hj:=(Bl.1 hi).1;rw [h1] at ho;refine⟨?_,?_,?_,?_,?_⟩
  ·rw [ho.cellAt _ A0,show j*5=j*5+0 by omega,Vu _ _ _ _ hi A0];rfl
  ·rw [ho.cellAt _ A0,Vu _ _ _ _ hi A0];rfl
  ·rw [ho.cellAt _ A0,Vu _ _ _ _ hi A0];rfl
  ·rw [ho.cellAt _ A0,Vu _ _ _ _ hi A0];rfl
  ·rw [ho.cellAt _ A0,Vu _ _ _ _ hi A0];rfl
theorem An.aQ (h:An V w ab cb rb ib pb bv pv G B val s) {t:Nat} (ht:t<B.length):w.cell? ⟨rb,t,none⟩=some (.bool (s.reach.getD t false))∧w.frozen? ⟨rb,t,none⟩=false:=by
 have hl:t<s.reach.length:=by rw [h.Ez.l1];exact ht
 constructor
 ·simp [World.cell?,h.Dn,List.getD,Aj hl]
 ·simp [World.frozen?,h.Dn]
theorem An.UQ (h:An V w ab cb rb ib pb bv pv G B val s) {t:Nat} (ht:t<B.length):w.cell? ⟨pb,t,none⟩=some (.int .i64 (s.rep.getD t 0))∧w.frozen? ⟨pb,t,none⟩=false:=by
 have hl:t<s.rep.length:=by rw [h.Ez.l3];exact ht
 constructor
 ·simp [World.cell?,h.Bk,List.getD,Aj hl]
 ·simp [World.frozen?,h.Bk]
theorem An.Yj (h:An V w ab cb rb ib pb bv pv G B val s):∀r∈s.Af,r.length=16:=fun r hr=>(h.Ez.r16 r hr).len
theorem aqx {w:World} {q:Nat} {T:TypeId} {xs cs:List Value} {o:Nat} (h:w.heap[q]?=some (.cells xs.toArray T (0,0))) (hc:∀j,j<cs.length→xs[o+j]?=cs[j]?):w.rangeAt q o cs:=fun j v hv=>by
 have hj:=(Bl.1 hv).1;have:=hc j hj;rw [hv] at this;simp [World.cell?,h,this]
theorem An.JN (h:An V w ab cb rb ib pb bv pv G B val s) {t:Nat} (ht:t<B.length):w.rangeAt ib (t*32) (AD (s.Af.getD t [])):=by
 have hl:t<s.Af.length:=by rw [h.Ez.l2];exact ht
 have e:s.Af.getD t []=s.Af[t]:=by simp [List.getD,Aj hl]
 have h16:=h.Yj _ (Cn hl);refine aqx h.Gh (fun j hj=>?_);rw [e] at hj ⊢;rw [CZ,h16] at hj;exact Ur h.Yj (Aj hl) j hj
end
end
theorem refine_no (op a b c im:Int) (h0:0≤op) (r:RG) (hr:R16 r) (tk:Bool) (w:World) (T:C8 w) (hno:CE ⟨op,a,b,c,im⟩=false∨(CE ⟨op,a,b,c,im⟩=true∧Fe r=false)) :
  Calls Tryz.prog 108 #[.agg #[.int .u8 op,.int .i64 a,.int .i64 b,.int .i64 c,.int .i64 im],.agg (AD r).toArray,.bool tk] w fun e w'=>e=.returned (Ca none)∧Below w.heap.size w w':=by
 obtain⟨V,hV,k0,k1,k2,bV,sV⟩:=Nf w #[.int .u8 op,.int .i64 a,.int .i64 b,.int .i64 c,.int .i64 im] (AD r).toArray BO.toArray 67 174 174;obtain⟨a0,a1,a2,a3,a4,lV⟩:=Fy k0;have⟨K1,Jn,K2,BV,DN,C9⟩:=I2 (show Am V (w.heap.size+1) 174 r from k1) (show (Tryz.prog.info? 174).map (·.size)=some (AD r).length by rw [CZ,hr.len];kernel_rfl) k2 bV (Calls.ext (NK ⟨op,a,b,c,im⟩ h0 V (T.below bV))) (fun x:Ext V=>Calls.AQ (x:=x) (S5 r hr.len x.w));clear k0 k1 k2 bV;go_enter YH,Xt;go_upto_region 1 with fail;clear hV;rcases hno with hv|⟨hv,hp⟩
 ·rw [hv] at DN
  go_wp2_with (first|(go_at_call 55;refine DN.out.mono ?_;rintro e w' ⟨rfl,y,rfl⟩)|(refine Bp rfl 174 (.tmp 6) (.tmp 16) rfl (w.heap.size+1+1) BO.toArray rfl rfl 174 _ (((Ext.h _).block _ sV).trans K2.out) A6 rfl BS ?_));refine Al (results_cell_tmp (P:=Tryz.prog) Th _ _ (w.heap.size+1+1) BO _ rfl (FM (IJ _ _ _ _ _ _ ((y.h.block _ sV).trans K2.out))) BH rfl A6) rfl ⟨rfl,Bt (BV.out.trans (y.h.mono BV.out.size)) A0 _⟩
 ·rw [hv] at DN
  rw [hp] at C9;go_wp2_with (first|(go_at_call 55;refine DN.out.mono ?_;rintro e w' ⟨rfl,y,rfl⟩)|(go_at_call 129;refine (C9.out _).mono ?_;rintro e w' ⟨rfl,z,rfl⟩)|(refine QB JT _ _ rfl _ _ rfl (AD r) _ (K1.out.keep (Ext.h _)).range BH rfl Jn.out ?_)|(refine Bp rfl 174 (.tmp 6) (.tmp 16) rfl (w.heap.size+1+1) BO.toArray rfl rfl 174 _ (((Ext.h _).block _ sV).trans K2.out) A6 rfl BS ?_));refine Al (results_cell_tmp (P:=Tryz.prog) Th _ _ (w.heap.size+1+1) BO _ rfl (FM (IJ _ _ _ _ _ _ ((z.h.block _ sV).trans K2.out))) BH rfl A6) rfl ⟨rfl,Bt (BV.out.trans (z.h.mono BV.out.size)) A0 _⟩
theorem refine_rest (op:Int) (an bn cn:Nat) (im:Int) (ha:an<16) (hop:(0≤op∧op≤21)∨(25≤op∧op≤29)) (r:RG) (hr:R16 r) (w:World) (T:C8 w) (hv:CE ⟨op,an,bn,cn,im⟩=true) (hp:Fe r=true) :
  Calls Tryz.prog 108 #[.agg #[.int .u8 op,.int .i64 (an:Int),.int .i64 (bn:Int),.int .i64 (cn:Int),.int .i64 im],.agg (AD r).toArray,.bool false] w fun e w'=>e=.returned (Ca (some r))∧Below w.heap.size w w':=by
 have h0:0≤op:=by omega
 have Lg:=A3 hop;clear hop;obtain⟨V,hV,k0,k1,k2,bV,sV⟩:=Nf w #[.int .u8 op,.int .i64 (an:Int),.int .i64 (bn:Int),.int .i64 (cn:Int),.int .i64 im] (AD r).toArray BO.toArray 67 174 174;obtain⟨a0,a1,a2,a3,a4,lV⟩:=Fy k0;have⟨K1,Jn,K2,BV,DN,C9⟩:=I2 (show Am V (w.heap.size+1) 174 r from k1) (show (Tryz.prog.info? 174).map (·.size)=some (AD r).length by rw [CZ,hr.len];kernel_rfl) k2 bV (Calls.ext (NK ⟨op,an,bn,cn,im⟩ h0 V (T.below bV))) (fun x:Ext V=>Calls.AQ (x:=x) (S5 r hr.len x.w));clear k0 k1 k2 bV;go_enter YH,Xt;go_upto_region 1 with fail;clear hV;rw [hv] at DN;rw [hp] at C9;clear hp hv;have hop:=Lg.out;clear Lg;have e1:(op==22)=false:=by rw [Ls];omega
 have e2:(op==23)=false:=by rw [Ls];omega
 have e3:(op==24)=false:=by rw [Ls];omega
 clear hop;go_upto_region 16 with (first|(go_at_call 55;refine DN.out.mono ?_;rintro e w' ⟨rfl,y,rfl⟩)|(go_at_call 129;refine (C9.out _).mono ?_;rintro e w' ⟨rfl,z,rfl⟩)|(refine QB JT _ _ rfl _ _ rfl (AD r) _ (K1.out.keep (Ext.h _)).range BH rfl Jn.out ?_));obtain⟨r3,hr3⟩:=AA r;have l3:r3.length=16:=by rw [←hr3];exact hr.len
 have E8:=A3 hr3;obtain⟨Z,hZ⟩:=AA z.w;have kZ:Am Z (w.heap.size+1) 174 r3:=by rw [←hZ];exact E8.out▸K1.out.keep z.h
 have NY:Z.heap[w.heap.size+1+1]?=some (.cells BO.toArray 174 (0,0)):=by rw [←hZ];exact (z.h.block _ sV).trans K2.out
 have bZ:Below w.heap.size w Z:=by rw [←hZ];exact BV.out.trans (z.h.mono BV.out.size)
 rw [hZ];have⟨DD,O5,BZ,JS,KD,Q8,Pv⟩:=Yi kZ.range NY bZ (show (Tryz.prog.info? 174).map (·.size)=some (AD r3).length by rw [CZ,l3];kernel_rfl) (show (Tryz.prog.info? 174).map (·.size)=some (AD r3).toArray.size by rw [Iu,CZ,l3];kernel_rfl) (show (BO.toArray:Array Value).size=(AD r3).toArray.size by rw [show (AD r3).toArray.size=32 by rw [Iu,CZ,l3]];rfl) (CX r3);clear hZ kZ NY bZ l3;go_wp2_with (first|(refine Cu rfl _ _ rfl _ _ rfl (AD r3) _ DD.out BH rfl JS.out ?_)|(refine Bp rfl 174 (.tmp 6) (.tmp 57) rfl (w.heap.size+1+1) (AD r3).toArray rfl rfl 174 _ O5.out KD.out Q8.out Pv.out ?_));refine Al (results_cell_tmp (P:=Tryz.prog) Th _ _ (w.heap.size+1+1) (AD r3) _ rfl (FM (IJ _ _ _ _ _ _ O5.out)) BH rfl JS.out) rfl ⟨?_,Bt BZ.out A0 _⟩;rw [E8.out];rfl
theorem refine_restT (op:Int) (an bn cn:Nat) (im:Int) (ha:an<16) (hop:(0≤op∧op≤21)∨(25≤op∧op≤29)) (r:RG) (hr:R16 r) (w:World) (T:C8 w) (hv:CE ⟨op,an,bn,cn,im⟩=true) (hp:Fe r=true) :
  Calls Tryz.prog 108 #[.agg #[.int .u8 op,.int .i64 (an:Int),.int .i64 (bn:Int),.int .i64 (cn:Int),.int .i64 im],.agg (AD r).toArray,.bool true] w fun e w'=>e=.returned (Ca (none))∧Below w.heap.size w w':=by
 have h0:0≤op:=by omega
 have Lg:=A3 hop;clear hop;obtain⟨V,hV,k0,k1,k2,bV,sV⟩:=Nf w #[.int .u8 op,.int .i64 (an:Int),.int .i64 (bn:Int),.int .i64 (cn:Int),.int .i64 im] (AD r).toArray BO.toArray 67 174 174;obtain⟨a0,a1,a2,a3,a4,lV⟩:=Fy k0;have⟨K1,Jn,K2,BV,DN,C9⟩:=I2 (show Am V (w.heap.size+1) 174 r from k1) (show (Tryz.prog.info? 174).map (·.size)=some (AD r).length by rw [CZ,hr.len];kernel_rfl) k2 bV (Calls.ext (NK ⟨op,an,bn,cn,im⟩ h0 V (T.below bV))) (fun x:Ext V=>Calls.AQ (x:=x) (S5 r hr.len x.w));clear k0 k1 k2 bV;go_enter YH,Xt;go_upto_region 1 with fail;clear hV;rw [hv] at DN;rw [hp] at C9;clear hp hv;have hop:=Lg.out;clear Lg;have e1:(op==22)=false:=by rw [Ls];omega
 have e2:(op==23)=false:=by rw [Ls];omega
 have e3:(op==24)=false:=by rw [Ls];omega
 clear hop;go_wp2_with (first|(go_at_call 55;refine DN.out.mono ?_;rintro e w' ⟨rfl,y,rfl⟩)|(go_at_call 129;refine (C9.out _).mono ?_;rintro e w' ⟨rfl,z,rfl⟩)|(refine QB JT _ _ rfl _ _ rfl (AD r) _ (K1.out.keep (Ext.h _)).range BH rfl Jn.out ?_)|(refine Bp rfl 174 (.tmp 6) (.tmp 20) rfl (w.heap.size+1+1) BO.toArray rfl rfl 174 _ (((Ext.h _).block _ sV).trans K2.out) A6 rfl BS ?_));refine Al (results_cell_tmp (P:=Tryz.prog) Th _ _ (w.heap.size+1+1) BO _ rfl (FM (IJ _ _ _ _ _ _ ((z.h.block _ sV).trans K2.out))) BH rfl A6) rfl ⟨rfl,Bt (BV.out.trans (z.h.mono BV.out.size)) A0 _⟩
theorem refine_jmp (op:Int) (an bn cn:Nat) (im:Int) (ha:an<16) (hop:op=24) (r:RG) (hr:R16 r) (w:World) (T:C8 w) (hv:CE ⟨op,an,bn,cn,im⟩=true) (hp:Fe r=true) :
  Calls Tryz.prog 108 #[.agg #[.int .u8 op,.int .i64 (an:Int),.int .i64 (bn:Int),.int .i64 (cn:Int),.int .i64 im],.agg (AD r).toArray,.bool true] w fun e w'=>e=.returned (Ca (some r))∧Below w.heap.size w w':=by
 have h0:0≤op:=by omega
 have Lg:=A3 hop;clear hop;obtain⟨V,hV,k0,k1,k2,bV,sV⟩:=Nf w #[.int .u8 op,.int .i64 (an:Int),.int .i64 (bn:Int),.int .i64 (cn:Int),.int .i64 im] (AD r).toArray BO.toArray 67 174 174;obtain⟨a0,a1,a2,a3,a4,lV⟩:=Fy k0;have⟨K1,Jn,K2,BV,DN,C9⟩:=I2 (show Am V (w.heap.size+1) 174 r from k1) (show (Tryz.prog.info? 174).map (·.size)=some (AD r).length by rw [CZ,hr.len];kernel_rfl) k2 bV (Calls.ext (NK ⟨op,an,bn,cn,im⟩ h0 V (T.below bV))) (fun x:Ext V=>Calls.AQ (x:=x) (S5 r hr.len x.w));clear k0 k1 k2 bV;go_enter YH,Xt;go_upto_region 1 with fail;clear hV;rw [hv] at DN;rw [hp] at C9;clear hp hv;have hop:=Lg.out;clear Lg;subst hop;go_upto_region 16 with (first|(go_at_call 55;refine DN.out.mono ?_;rintro e w' ⟨rfl,y,rfl⟩)|(go_at_call 129;refine (C9.out _).mono ?_;rintro e w' ⟨rfl,z,rfl⟩)|(refine QB JT _ _ rfl _ _ rfl (AD r) _ (K1.out.keep (Ext.h _)).range BH rfl Jn.out ?_));obtain⟨r3,hr3⟩:=AA r;have l3:r3.length=16:=by rw [←hr3];exact hr.len
 have E8:=A3 hr3;obtain⟨Z,hZ⟩:=AA z.w;have kZ:Am Z (w.heap.size+1) 174 r3:=by rw [←hZ];exact E8.out▸K1.out.keep z.h
 have NY:Z.heap[w.heap.size+1+1]?=some (.cells BO.toArray 174 (0,0)):=by rw [←hZ];exact (z.h.block _ sV).trans K2.out
 have bZ:Below w.heap.size w Z:=by rw [←hZ];exact BV.out.trans (z.h.mono BV.out.size)
 rw [hZ];have⟨DD,O5,BZ,JS,KD,Q8,Pv⟩:=Yi kZ.range NY bZ (show (Tryz.prog.info? 174).map (·.size)=some (AD r3).length by rw [CZ,l3];kernel_rfl) (show (Tryz.prog.info? 174).map (·.size)=some (AD r3).toArray.size by rw [Iu,CZ,l3];kernel_rfl) (show (BO.toArray:Array Value).size=(AD r3).toArray.size by rw [show (AD r3).toArray.size=32 by rw [Iu,CZ,l3]];rfl) (CX r3);clear hZ kZ NY bZ l3;go_wp2_with (first|(refine Cu rfl _ _ rfl _ _ rfl (AD r3) _ DD.out BH rfl JS.out ?_)|(refine Bp rfl 174 (.tmp 6) (.tmp 57) rfl (w.heap.size+1+1) (AD r3).toArray rfl rfl 174 _ O5.out KD.out Q8.out Pv.out ?_));refine Al (results_cell_tmp (P:=Tryz.prog) Th _ _ (w.heap.size+1+1) (AD r3) _ rfl (FM (IJ _ _ _ _ _ _ O5.out)) BH rfl JS.out) rfl ⟨?_,Bt BZ.out A0 _⟩;rw [E8.out];rfl
theorem refine_jmpF (op:Int) (an bn cn:Nat) (im:Int) (ha:an<16) (hop:op=24) (r:RG) (hr:R16 r) (w:World) (T:C8 w) (hv:CE ⟨op,an,bn,cn,im⟩=true) (hp:Fe r=true) :
  Calls Tryz.prog 108 #[.agg #[.int .u8 op,.int .i64 (an:Int),.int .i64 (bn:Int),.int .i64 (cn:Int),.int .i64 im],.agg (AD r).toArray,.bool false] w fun e w'=>e=.returned (Ca (none))∧Below w.heap.size w w':=by
 have h0:0≤op:=by omega
 have Lg:=A3 hop;clear hop;obtain⟨V,hV,k0,k1,k2,bV,sV⟩:=Nf w #[.int .u8 op,.int .i64 (an:Int),.int .i64 (bn:Int),.int .i64 (cn:Int),.int .i64 im] (AD r).toArray BO.toArray 67 174 174;obtain⟨a0,a1,a2,a3,a4,lV⟩:=Fy k0;have⟨K1,Jn,K2,BV,DN,C9⟩:=I2 (show Am V (w.heap.size+1) 174 r from k1) (show (Tryz.prog.info? 174).map (·.size)=some (AD r).length by rw [CZ,hr.len];kernel_rfl) k2 bV (Calls.ext (NK ⟨op,an,bn,cn,im⟩ h0 V (T.below bV))) (fun x:Ext V=>Calls.AQ (x:=x) (S5 r hr.len x.w));clear k0 k1 k2 bV;go_enter YH,Xt;go_upto_region 1 with fail;clear hV;rw [hv] at DN;rw [hp] at C9;clear hp hv;have hop:=Lg.out;clear Lg;subst hop;go_wp2_with (first|(go_at_call 55;refine DN.out.mono ?_;rintro e w' ⟨rfl,y,rfl⟩)|(go_at_call 129;refine (C9.out _).mono ?_;rintro e w' ⟨rfl,z,rfl⟩)|(refine QB JT _ _ rfl _ _ rfl (AD r) _ (K1.out.keep (Ext.h _)).range BH rfl Jn.out ?_)|(refine Bp rfl 174 (.tmp 6) (.tmp 51) rfl (w.heap.size+1+1) BO.toArray rfl rfl 174 _ (((Ext.h _).block _ sV).trans K2.out) A6 rfl BS ?_)|(refine Bp rfl 174 (.tmp 6) (.tmp 56) rfl (w.heap.size+1+1) BO.toArray rfl rfl 174 _ (((Ext.h _).block _ sV).trans K2.out) A6 rfl BS ?_));refine Al (results_cell_tmp (P:=Tryz.prog) Th _ _ (w.heap.size+1+1) BO _ rfl (FM (IJ _ _ _ _ _ _ ((z.h.block _ sV).trans K2.out))) BH rfl A6) rfl ⟨rfl,Bt (BV.out.trans (z.h.mono BV.out.size)) A0 _⟩
theorem aoy:∀k,k<30→(Db k).LD≤15∧(Db k).L8≤15∧(Db k).Kg≤15∧-131072≤M9 k∧MT k≤131071:=by decide
def aW (op:Int) (tk:Bool) (r:RG) (a:Int):Option RG:=if emp (LX op tk (rg r a))=true then none else some (DZ r a (LX op tk (rg r a)))
theorem amz {op:Int} {tk:Bool} {r:RG} (hl:r.length=16) (h0:rg r 0=(0,0)) {an:Nat} {x:Int×Int} (hx:LX op tk (rg r (an:Int))=x) (he:¬emp x=true):r.set an x=DZ r (an:Int) x:=by
 unfold DZ;by_cases ha:an=0
 ·subst ha
  rw [AE (show ((0:Nat):Int)=0 from rfl)];rw [show ((0:Nat):Int)=0 from rfl,h0] at hx;have:x=(0,0):=by
   unfold LX at hx;split at hx
   ·rw [←hx];decide
   ·exfalso
    apply he;rw [←hx];decide
  rw [this];exact uZ hl h0
 ·rw [A9 A0]
  simp
theorem aqZ {r:RG} {an:Nat} {x:Int×Int} (h:an<r.length):rg (r.set an x) (an:Int)=x:=by
 rw [XR];simp [List.getD,h]
theorem refine_br (op:Int) (an bn cn:Nat) (im:Int) (ha:an<16) (hop:op=22∨op=23) (r:RG) (hr:R16 r) (tk:Bool) (w:World) (T:C8 w) (hv:CE ⟨op,an,bn,cn,im⟩=true) (hp:Fe r=true) :
  Calls Tryz.prog 108 #[.agg #[.int .u8 op,.int .i64 (an:Int),.int .i64 (bn:Int),.int .i64 (cn:Int),.int .i64 im],.agg (AD r).toArray,.bool tk] w fun e w'=>e=.returned (Ca (aW op tk r (an:Int)))∧Below w.heap.size w w':=by
 have h0:0≤op:=by omega
 have Lg:=A3 hop;clear hop;obtain⟨V,hV,k0,k1,k2,bV,sV⟩:=Nf w #[.int .u8 op,.int .i64 (an:Int),.int .i64 (bn:Int),.int .i64 (cn:Int),.int .i64 im] (AD r).toArray BO.toArray 67 174 174;obtain⟨a0,a1,a2,a3,a4,lV⟩:=Fy k0;have⟨K1,Jn,K2,BV,DN,C9⟩:=I2 (show Am V (w.heap.size+1) 174 r from k1) (show (Tryz.prog.info? 174).map (·.size)=some (AD r).length by rw [CZ,hr.len];kernel_rfl) k2 bV (Calls.ext (NK ⟨op,an,bn,cn,im⟩ h0 V (T.below bV))) (fun x:Ext V=>Calls.AQ (x:=x) (S5 r hr.len x.w));clear k0 k1 k2 bV;go_enter YH,Xt;go_upto_region 1 with fail;clear hV;rw [hv] at DN;rw [hp] at C9;have HP:=A3 hp;clear hp hv;have hop:=Lg.out;clear Lg;obtain⟨O,hO⟩:=AA (aW op tk r (an:Int));have⟨HO,Mc⟩:=AL hO (show ∀x,LX op tk (rg r (an:Int))=x→(emp x=true→O=none)∧(¬emp x=true→O=some (r.set an x)) from fun x hx=>⟨fun h=>by rw [←hO];unfold aW;rw [hx,AE h],fun h=>by rw [←hO];unfold aW;rw [hx,A9 h,amz hr.len (kM HP.out) hx h]⟩);clear hO;obtain⟨al,hal⟩:=AA ((rg r (an:Int)).1);obtain⟨ah,U5⟩:=AA ((rg r (an:Int)).2);have r4:V.cell? ⟨w.heap.size+1,an*2,none⟩=some (.int .i32 al):=by rw [←hal];exact K1.out.lo eH
 have r5:V.cell? ⟨w.heap.size+1,an*2+1,none⟩=some (.int .i32 ah):=by rw [←U5];exact K1.out.hi eH
 have rf0:V.frozen? ⟨w.heap.size+1,an*2,none⟩=false:=K1.out.fz _;have rf1:V.frozen? ⟨w.heap.size+1,an*2+1,none⟩=false:=K1.out.fz _;have Jw:=A3 (show rg r (an:Int)=(al,ah) from Vf hal U5);have ia:(an:Int)<16:=by omega
 have lR:w.heap.size+1<V.heap.size:=by omega
 clear hal U5;have hc:((op=22∧tk=true)∨(op=23∧tk=false))∨(op=22∧tk=false)∨(op=23∧tk=true):=by rcases hop with h|h<;>cases tk<;>simp [h]
 clear hop;rcases hc with hc|hc
 focus
  obtain⟨xa,xb,hx⟩:∃xa xb,Aw (al,ah) (0,0)=(xa,xb):=⟨_,_,rfl⟩;have hf:=fun w=>dJ al ah 0 0 w;rw [hx] at hf;have⟨HF,HX⟩:=AL hf (show LX op tk (rg r (an:Int))=(xa,xb) by rw [Jw.out];unfold LX;rw [AE (by rcases hc with⟨rfl,rfl⟩|⟨rfl,rfl⟩<;>decide)];exact hx);clear hf hx;rcases hc with⟨rfl,rfl⟩|⟨rfl,rfl⟩;all_goals
   go_upto_region 9 with (first|(go_at_call 55;refine DN.out.mono ?_;rintro e w' ⟨rfl,y,rfl⟩)|(go_at_call 129;refine (C9.out _).mono ?_;rintro e w' ⟨rfl,z,rfl⟩)|(refine QB JT _ _ rfl _ _ rfl (AD r) _ (K1.out.keep (Ext.h _)).range BH rfl Jn.out ?_));refine ZF 9 A6 A6 ?_;simp only [Ew,List.take_zero,Er,List.drop_zero];repeat (go_big_quiet_step (first|(go_at_call 130;exact Calls.AQ (EG 0 _))|(go_at_call 134;exact Calls.AQ (HF.out _))))
   refine Ba ?_;rintro _ ⟨x1,rfl⟩;go_upto_region 11 with fail
 rotate_left 2
 focus
  obtain⟨xa,xb,hx⟩:∃xa xb,Q7 (al,ah)=(xa,xb):=⟨_,_,rfl⟩;have hf:=fun w=>apy al ah w;rw [hx] at hf;have⟨HF,HX⟩:=AL hf (show LX op tk (rg r (an:Int))=(xa,xb) by rw [Jw.out];unfold LX;rw [A9 (by rcases hc with⟨rfl,rfl⟩|⟨rfl,rfl⟩<;>decide)];exact hx);clear hf hx;rcases hc with⟨rfl,rfl⟩|⟨rfl,rfl⟩;all_goals
   go_upto_region 10 with (first|(go_at_call 55;refine DN.out.mono ?_;rintro e w' ⟨rfl,y,rfl⟩)|(go_at_call 129;refine (C9.out _).mono ?_;rintro e w' ⟨rfl,z,rfl⟩)|(refine QB JT _ _ rfl _ _ rfl (AD r) _ (K1.out.keep (Ext.h _)).range BH rfl Jn.out ?_));refine ZF 8 A6 A6 ?_;simp only [Ew,List.take_zero,Er,List.drop_zero];repeat (go_big_quiet_step (first|(go_at_call 135;exact Calls.AQ (HF.out _))))
   refine Ba ?_;rintro _ ⟨x1,rfl⟩;go_upto_region 11 with fail
 all_goals
  obtain⟨Y,hY⟩:=AA ((x1.w.setCell ⟨w.heap.size+1,an*2,none⟩ (.int .i32 xa)).setCell ⟨w.heap.size+1,an*2+1,none⟩ (.int .i32 xb));obtain⟨r3,hr3⟩:=AA (r.set an (xa,xb));have l3:r3.length=16:=by rw [←hr3,NP];exact hr.len
  have kY:Am Y (w.heap.size+1) 174 r3:=by rw [←hY,← hr3];exact (K1.out.keep x1.h).set an (xa,xb)
  have kO:Y.heap[w.heap.size+1+1]?=some (.cells BO.toArray 174 (0,0)):=by
   rw [←hY,BL _ _ _ _ XE,BL _ _ _ _ XE];exact (x1.h.block _ sV).trans K2.out
  have bY:Below w.heap.size w Y:=by rw [←hY];exact CJ (CJ (BV.out.trans (x1.h.mono BV.out.size)) YK _) YK _
  have kI:Y.cell? ⟨w.heap.size,1,none⟩=some (.int .i64 (an:Int)):=by
   rw [←hY,Df (BL _ _ _ _ bS),Df (BL _ _ _ _ bS),x1.h.cell (p:=⟨w.heap.size,1,none⟩) lV];exact a1
  rw [hY];have lY:w.heap.size+1<Y.heap.size:=kY.lt;have Xu:w.heap.size+1+1<Y.heap.size:=(Be.1 kO).1;have JI:rg r3 (an:Int)=(xa,xb):=by rw [←hr3];exact aqZ eH
  have z0:Y.cell? ⟨w.heap.size+1,an*2,none⟩=some (.int .i32 xa):=by have h:=kY.lo (k:=an) (by rw [l3];exact ha);rw [JI] at h;exact h
  have z1:Y.cell? ⟨w.heap.size+1,an*2+1,none⟩=some (.int .i32 xb):=by have h:=kY.hi (k:=an) (by rw [l3];exact ha);rw [JI] at h;exact h
  have⟨KY,KO,BY,E8,RT⟩:=Fi kY kO bY hr3 (Calls.ext (Ax xa xb Y));clear hY kY kO bY hr3 JI r4 r5 rf0 rf1 a0 a1 a2 a3 a4;by_cases he:xb<xa
  ·have d:=AR he
   have KJ:=A3 (show emp (xa,xb)=true by unfold emp;simpa using he);clear he;go_wp2_with (first|(go_at_call 127;refine RT.out.mono ?_;rintro e w' ⟨rfl,y5,rfl⟩)|(refine Bp rfl 174 (.tmp 6) (.tmp 51) rfl (w.heap.size+1+1) BO.toArray rfl rfl 174 _ (((Ext.h _).block _ Xu).trans KO.out) A6 rfl BS ?_));refine Al (results_cell_tmp (P:=Tryz.prog) Th _ _ (w.heap.size+1+1) BO _ rfl (FM (IJ _ _ _ _ _ _ ((y5.h.block _ Xu).trans KO.out))) BH rfl A6) rfl ⟨?_,Bt (BY.out.trans (y5.h.mono BY.out.size)) A0 _⟩;rw [HO.out,(Mc.out _ HX.out).1 KJ.out];rfl
  ·have d:=Aq he
   have KJ:=A3 (show ¬emp (xa,xb)=true by unfold emp;simpa using he);clear he;go_upto_region 16 with (go_at_call 127;refine RT.out.mono ?_;rintro e w' ⟨rfl,y5,rfl⟩);obtain⟨Z,hZ⟩:=AA y5.w;have kZ:Am Z (w.heap.size+1) 174 r3:=by rw [←hZ];exact KY.out.keep y5.h
   have NY:Z.heap[w.heap.size+1+1]?=some (.cells BO.toArray 174 (0,0)):=by rw [←hZ];exact (y5.h.block _ Xu).trans KO.out
   have bZ:Below w.heap.size w Z:=by rw [←hZ];exact BY.out.trans (y5.h.mono BY.out.size)
   rw [hZ];have⟨DD,O5,BZ,JS,KD,Q8,Pv⟩:=Yi kZ.range NY bZ (show (Tryz.prog.info? 174).map (·.size)=some (AD r3).length by rw [CZ,l3];kernel_rfl) (show (Tryz.prog.info? 174).map (·.size)=some (AD r3).toArray.size by rw [Iu,CZ,l3];kernel_rfl) (show (BO.toArray:Array Value).size=(AD r3).toArray.size by rw [show (AD r3).toArray.size=32 by rw [Iu,CZ,l3]];rfl) (CX r3);clear hZ kZ NY bZ l3 z0 z1;go_wp2_with (first|(refine Cu rfl _ _ rfl _ _ rfl (AD r3) _ DD.out BH rfl JS.out ?_)|(refine Bp rfl 174 (.tmp 6) (.tmp 57) rfl (w.heap.size+1+1) (AD r3).toArray rfl rfl 174 _ O5.out KD.out Q8.out Pv.out ?_));refine Al (results_cell_tmp (P:=Tryz.prog) Th _ _ (w.heap.size+1+1) (AD r3) _ rfl (FM (IJ _ _ _ _ _ _ O5.out)) BH rfl JS.out) rfl ⟨?_,Bt BZ.out A0 _⟩;rw [HO.out,(Mc.out _ HX.out).2 KJ.out,E8.out];rfl
theorem refine_any (op a b c im:Int) (h0:0≤op) (r:RG) (hr:R16 r) (tk:Bool) (w:World) (T:C8 w) :
  Calls Tryz.prog 108 #[.agg #[.int .u8 op,.int .i64 a,.int .i64 b,.int .i64 c,.int .i64 im],.agg (AD r).toArray,.bool tk] w fun e w'=>e=.returned (Ca (Dl ⟨op,a,b,c,im⟩ r tk))∧Below w.heap.size w w':=by
 by_cases hvp:CE ⟨op,a,b,c,im⟩=true∧Fe r=true;case neg=>
  refine (refine_no op a b c im h0 r hr tk w T (by
   cases h1:CE ⟨op,a,b,c,im⟩<;>cases h2:Fe r<;>simp_all)).mono fun e w' ⟨q,hb⟩=>⟨q.trans ?_,hb⟩
  unfold Dl;rw [A9 hvp]
 obtain⟨hv,hp⟩:=hvp;obtain⟨k,g1,g2,⟨a1,a2⟩,⟨b1,b2⟩,⟨c1,c2⟩,i1,i2⟩:=(PT (i:=⟨op,a,b,c,im⟩) h0).1 hv;obtain⟨s1,s2,s3,s4,s5⟩:=aoy k g2;simp only at g1 a1 a2 b1 b2 c1 c2 i1 i2;obtain⟨an,rfl⟩:∃n:Nat,a=(n:Int):=⟨a.toNat,by omega⟩;obtain⟨bn,rfl⟩:∃n:Nat,b=(n:Int):=⟨b.toNat,by omega⟩;obtain⟨cn,rfl⟩:∃n:Nat,c=(n:Int):=⟨c.toNat,by omega⟩;have ha:an<16:=by omega
 have hT:∀o:Option RG,Dl ⟨op,an,bn,cn,im⟩ r tk=o→(∀e w',(e=Ending.returned (Ca o)∧Below w.heap.size w w')→(e=.returned (Ca (Dl ⟨op,an,bn,cn,im⟩ r tk))∧Below w.heap.size w w')):=fun o h e w' ⟨q,hb⟩=>⟨by rw [h];exact q,hb⟩;have hO:op=22∨op=23∨op=24∨((0≤op∧op≤21)∨(25≤op∧op≤29)):=by omega
 rcases hO with rfl|rfl|rfl|h
 ·cases tk
  ·exact (refine_br 22 an bn cn im ha (.inl rfl) r hr false w T hv hp).mono (hT _ (by unfold Dl;rw [AE ⟨hv,hp⟩,AE (.inl rfl)];rfl))
  ·exact (refine_br 22 an bn cn im ha (.inl rfl) r hr true w T hv hp).mono (hT _ (by unfold Dl;rw [AE ⟨hv,hp⟩,AE (.inl rfl)];rfl))
 ·cases tk
  ·exact (refine_br 23 an bn cn im ha (.inr rfl) r hr false w T hv hp).mono (hT _ (by unfold Dl;rw [AE ⟨hv,hp⟩,AE (.inr rfl)];rfl))
  ·exact (refine_br 23 an bn cn im ha (.inr rfl) r hr true w T hv hp).mono (hT _ (by unfold Dl;rw [AE ⟨hv,hp⟩,AE (.inr rfl)];rfl))
 ·cases tk
  ·exact (refine_jmpF 24 an bn cn im ha rfl r hr w T hv hp).mono (hT _ (by unfold Dl;rw [AE ⟨hv,hp⟩,A9 AO,AE rfl,A9 AK]))
  ·exact (refine_jmp 24 an bn cn im ha rfl r hr w T hv hp).mono (hT _ (by unfold Dl;rw [AE ⟨hv,hp⟩,A9 AO,AE rfl,AE rfl]))
 ·cases tk
  ·exact (refine_rest op an bn cn im ha h r hr w T hv hp).mono (hT _ (by unfold Dl;rw [AE ⟨hv,hp⟩,A9 Uo,A9 Uo,A9 AK]))
  ·exact (refine_restT op an bn cn im ha h r hr w T hv hp).mono (hT _ (by unfold Dl;rw [AE ⟨hv,hp⟩,A9 Uo,A9 Uo,AE rfl]))
def Xc (r:RG) (a im:Int):Option RG:=if emp (Aw (rg r a) (0,im - 1))=true then none else some (DZ r a (Aw (rg r a) (0,im - 1)))
theorem aqk {W0 wx:World} {g:Nat} {a b:Value} (k:Dm W0 wx) (h1:wx.cell? ⟨g,0,none⟩=some a) (h2:wx.cell? ⟨g,1,none⟩=some b) (h5:g<wx.heap.size) :
  ∃(g':Nat) (v:Ext W0),Value.pointer (some ⟨g,0,none⟩)=.pointer (some ⟨g',0,none⟩)∧wx=v.w∧v.w.cell? ⟨g',0,none⟩=some a∧v.w.cell? ⟨g',1,none⟩=some b∧g'<v.w.heap.size:=⟨g,⟨wx,k⟩,rfl,rfl,h1,h2,h5⟩
theorem jF (k bl bh cl ch:Int) (hb:Ae bl∧Ae bh) (hc:Ae cl∧Ae ch):∃xa xb,EX k (bl,bh) (cl,ch)=(xa,xb)∧∀w,Calls Tryz.prog 131 #[.int .u8 k,.agg #[.int .i32 bl,.int .i32 bh],.agg #[.int .i32 cl,.int .i32 ch]] w fun e w'=>e=.returned (.agg #[.int .i32 xa,.int .i32 xb])∧Below w.heap.size w w':=
 ⟨_,_,rfl,fun w=>lM k bl bh cl ch w hb.1.1 hb.1.2 hb.2.1 hb.2.2 hc.1.1 hc.1.2 hc.2.1 hc.2.2⟩
theorem ao6 (op:Int) (an bn cn:Nat) (im:Int) (ha:an<16) (hb:bn<16) (hc:cn<16) (him : -131072≤im∧im≤131071) (h0:0≤op) (h30:op<30) (r:RG) (hr:R16 r) (w:World) (T:C8 w) (hv:CE ⟨op,an,bn,cn,im⟩=true) (hp:Fe r=true) :
  Calls Tryz.prog 107 #[.agg #[.int .u8 op,.int .i64 (an:Int),.int .i64 (bn:Int),.int .i64 (cn:Int),.int .i64 im],.agg (AD r).toArray] w fun e w'=>e=.returned (Ca (Iw ⟨op,an,bn,cn,im⟩ r))∧Below w.heap.size w w':=by
 have⟨HTZ,HTA⟩:=AL (fun (o1:2≤op∧op≤13) (hz:(op=5∨op=6)∧rg r (cn:Int)=(0,0))=>show Iw ⟨op,an,bn,cn,im⟩ r=none by unfold Iw;rw [AE ⟨hv,hp⟩,AE o1,AE hz]) (fun (o1:2≤op∧op≤13) (hz:¬((op=5∨op=6)∧rg r (cn:Int)=(0,0)))=>show Iw ⟨op,an,bn,cn,im⟩ r=some (DZ r (an:Int) (EX (NB op) (rg r (bn:Int)) (rg r (cn:Int)))) by unfold Iw;rw [AE ⟨hv,hp⟩,AE o1,A9 hz]);have Qw:=A3 (fun (o1:¬(2≤op∧op≤13))=>show Iw ⟨op,an,bn,cn,im⟩ r=(if op=14 then some (DZ r an (im,im)) else if op=15 then some (DZ r an (EX 6 (rg r bn) (im,im))) else if op=16 then some (DZ r an (EX 14 (rg r bn) (im,im)))
   else if op=17 then some (DZ r an (EX 12 (rg r bn) (im,im))) else if op=18∨op=20∨op=26 then some (DZ r an ay) else if op=25 then Xc r an im else some r) by
  unfold Iw Xc
  rw [AE ⟨hv,hp⟩,A9 o1])
 obtain⟨O,hO⟩:=AA (Iw ⟨op,an,bn,cn,im⟩ r);rw [hO] at HTZ HTA Qw ⊢;clear hO;obtain⟨V,hV,k0,k1,k2,bV,sV⟩:=Nf w #[.int .u8 op,.int .i64 (an:Int),.int .i64 (bn:Int),.int .i64 (cn:Int),.int .i64 im] (AD r).toArray BO.toArray 67 174 174;obtain⟨a0,a1,a2,a3,a4,lV⟩:=Fy k0;have⟨K1,Jn,K2,BV,DN,C9⟩:=I2 (show Am V (w.heap.size+1) 174 r from k1) (show (Tryz.prog.info? 174).map (·.size)=some (AD r).length by rw [CZ,hr.len];kernel_rfl) k2 bV (Calls.ext (NK ⟨op,an,bn,cn,im⟩ h0 V (T.below bV))) (fun x:Ext V=>Calls.AQ (x:=x) (S5 r hr.len x.w));clear k0 k1 k2 bV;go_enter Tryz.func107,Tryz.ntmps107;go_upto_region 1 with fail;clear hV;rw [hv] at DN;rw [hp] at C9;have wim:IntKind.i32.wrap im=im:=IntWalk.i32_in _ A0;go_upto_region 4 with (first|(go_at_call 55;refine DN.out.mono ?_;rintro e w' ⟨rfl,y,rfl⟩)|(go_at_call 129;refine (C9.out _).mono ?_;rintro e w' ⟨rfl,z,rfl⟩)|(refine QB JT _ _ rfl _ _ rfl (AD r) _ (K1.out.keep (Ext.h _)).range BH rfl Jn.out ?_)|(go_at_call 130;refine (Calls.AQ (EG im _)).mono ?_;rintro e w' ⟨rfl,q,rfl⟩));obtain⟨cb,hcb⟩:=AA q.w.heap.size;obtain⟨U,hU⟩:=AA (q.w.alloc (.cells #[.int .i32 im,.int .i32 im] 172));have bU:Below V.heap.size V U:=hU▸q.h.alloc q.h.size _;have kC:U.heap[q.w.heap.size]?=some (.cells #[.int .i32 im,.int .i32 im] 172 (0,0)):=hU▸Ai _ _;rw [hU];rw [hcb] at kC ⊢;have g0:U.cell? ⟨cb,0,none⟩=some (.int .i32 im):=I9 _ _ _ _ _ _ kC;have g1:U.cell? ⟨cb,1,none⟩=some (.int .i32 im):=I9 _ _ _ _ _ _ kC;have lC:cb<U.heap.size:=(Be.1 kC).1;have u0:U.cell? ⟨w.heap.size,0,none⟩=some (.int .u8 op):=by rw [bU.cell (p:=⟨w.heap.size,0,none⟩) lV];exact a0
 have u1:U.cell? ⟨w.heap.size,1,none⟩=some (.int .i64 (an:Int)):=by rw [bU.cell (p:=⟨w.heap.size,1,none⟩) lV];exact a1
 have u2:U.cell? ⟨w.heap.size,2,none⟩=some (.int .i64 (bn:Int)):=by rw [bU.cell (p:=⟨w.heap.size,2,none⟩) lV];exact a2
 have u3:U.cell? ⟨w.heap.size,3,none⟩=some (.int .i64 (cn:Int)):=by rw [bU.cell (p:=⟨w.heap.size,3,none⟩) lV];exact a3
 have u4:U.cell? ⟨w.heap.size,4,none⟩=some (.int .i64 im):=by rw [bU.cell (p:=⟨w.heap.size,4,none⟩) lV];exact a4
 have⟨N6,Yg⟩:=AL (K1.out.keep bU) ((bU.block _ sV).trans K2.out);have sU:=bU.size;have BU:=A3 (BV.out.trans (bU.mono BV.out.size));obtain⟨bl,hbl⟩:=AA ((rg r (bn:Int)).1);obtain⟨bh,QT⟩:=AA ((rg r (bn:Int)).2);obtain⟨cl,hcl⟩:=AA ((rg r (cn:Int)).1);obtain⟨ch,hch⟩:=AA ((rg r (cn:Int)).2);obtain⟨al,hal⟩:=AA ((rg r (an:Int)).1);obtain⟨ah,U5⟩:=AA ((rg r (an:Int)).2);have r0:U.cell? ⟨w.heap.size+1,bn*2,none⟩=some (.int .i32 bl):=by rw [←hbl];exact N6.out.lo (by rw [hr.len];exact hb)
 have r1:U.cell? ⟨w.heap.size+1,bn*2+1,none⟩=some (.int .i32 bh):=by rw [←QT];exact N6.out.hi (by rw [hr.len];exact hb)
 have r2:U.cell? ⟨w.heap.size+1,cn*2,none⟩=some (.int .i32 cl):=by rw [←hcl];exact N6.out.lo (by rw [hr.len];exact hc)
 have r3:U.cell? ⟨w.heap.size+1,cn*2+1,none⟩=some (.int .i32 ch):=by rw [←hch];exact N6.out.hi (by rw [hr.len];exact hc)
 have r4:U.cell? ⟨w.heap.size+1,an*2,none⟩=some (.int .i32 al):=by rw [←hal];exact N6.out.lo eH
 have r5:U.cell? ⟨w.heap.size+1,an*2+1,none⟩=some (.int .i32 ah):=by rw [←U5];exact N6.out.hi eH
 have⟨Ga,Jg,Jw⟩:=B8 (show rg r (bn:Int)=(bl,bh) from Vf hbl QT) (show rg r (cn:Int)=(cl,ch) from Vf hcl hch) (show rg r (an:Int)=(al,ah) from Vf hal U5);have ia:(an:Int)<16:=by omega
 have ib:(bn:Int)<16:=by omega
 have ic:(cn:Int)<16:=by omega
 have lR:w.heap.size+1<U.heap.size:=by omega
 have lI:w.heap.size<U.heap.size:=by omega
 have lO:w.heap.size+1+1<U.heap.size:=by omega
 have rf0:U.frozen? ⟨w.heap.size+1,an*2,none⟩=false:=N6.out.fz _;have rf1:U.frozen? ⟨w.heap.size+1,an*2+1,none⟩=false:=N6.out.fz _;have CV:Ae bl∧Ae bh:=by have h:=hr.at_ (bn:Int);rw [Ga.out] at h;exact h
 have hcw:Ae cl∧Ae ch:=by have h:=hr.at_ (cn:Int);rw [Jg.out] at h;exact h
 have haw:Ae al∧Ae ah:=by have h:=hr.at_ (an:Int);rw [Jw.out] at h;exact h
 clear hcb hU bU kC a0 a1 a2 a3 a4 hbl QT hcl hch hal U5 DN C9 K1 K2 wim hv;have HP:=A3 hp;clear hp;have hC:(op=0∨op=1∨op=19∨op=21∨op=22∨op=23∨op=24∨op=27∨op=28∨op=29)∨((2≤op∧op≤13)∧(op=5∨op=6)∧rg r (cn:Int)=(0,0))∨((2≤op∧op≤13)∧¬((op=5∨op=6)∧rg r (cn:Int)=(0,0))∧(op=5∨op=6))∨((2≤op∧op≤13)∧¬((op=5∨op=6)∧rg r (cn:Int)=(0,0))∧¬(op=5∨op=6))∨op=14∨op=15∨op=16∨op=17∨(op=18∨op=20∨op=26)∨op=25:=by
  by_cases hz:rg r (cn:Int)=(0,0)
  ·simp only [hz,and_true];omega
  ·simp only [hz,and_false,not_false_eq_true,true_and];omega
 rcases hC with h|⟨o1,hz⟩|⟨o1,hz,h5⟩|⟨o1,hz,h5⟩|h|h|h|h|h|h
 focus
  have Dv:=Qw.out A0;rw [A9 A0,A9 A0,A9 A0,A9 A0,A9 A0,A9 A0] at Dv;have Fh:=A3 Dv;clear Dv;rcases h with rfl|rfl|rfl|rfl|rfl|rfl|rfl|rfl|rfl|rfl;all_goals
   go_upto_region 23 with fail;obtain⟨Y,hY⟩:=AA U;obtain⟨rs,JD⟩:=AA r;have lrs:rs.length=16:=by rw [←JD];exact hr.len
   have kY:Am Y (w.heap.size+1) 174 rs:=by rw [←hY,← JD];exact N6.out
   have kO:Y.heap[w.heap.size+1+1]?=some (.cells BO.toArray 174 (0,0)):=by rw [←hY];exact Yg.out
   have bY:Below w.heap.size w Y:=by rw [←hY];exact BU.out
   have EC:=A3 (show ∀r3,rs.set 0 (0,0)=r3→O=some r3 from fun r3 h=>by rw [Fh.out,← h,← JD,uZ hr.len (kM HP.out)]);clear JD
 rotate_left 10
 focus
  have EZ:∀w:World,(binOp .eql 172 (.agg #[.int .i32 cl,.int .i32 ch]) (.agg #[.int .i32 0,.int .i32 0])).run Tryz.prog w=.ok (.bool true) w:=fun w=>by
   rw [KL];have h:=Jg.out;rw [hz.2] at h;simp only [nK] at h;rw [←h.1,← h.2];rfl
  have Fh:=A3 (HTZ.out o1 hz);obtain⟨hop,-⟩:=hz;rcases hop with rfl|rfl;all_goals
   go_upto_region 5 with fail;refine Cg A6 A6 ?_;repeat (go_big_quiet_step (first|(go_at_call 130;exact Calls.AQ (EG 0 _))))
   refine Ba ?_;rintro _ ⟨x,rfl⟩;go_wp2_with (first|(refine Bp rfl 174 (.tmp 4) (.tmp 46) rfl (w.heap.size+1+1) BO.toArray rfl rfl 174 _ (((Ext.h _).block _ lO).trans Yg.out) A6 rfl BS ?_));refine Al (results_cell_tmp (P:=Tryz.prog) fy _ _ (w.heap.size+1+1) BO _ rfl (FM (IJ _ _ _ _ _ _ ((x.h.block _ lO).trans Yg.out))) BH rfl A6) rfl ⟨by rw [Fh.out];rfl,Bt (BU.out.trans (x.h.mono BU.out.size)) A0 _⟩
 focus
  have d1:decide (2≤op)=true:=AR o1.1;have d2:decide (op≤13)=true:=AR o1.2;have Fq:=A3 (pZ op o1.1 o1.2);have Tc:=HTA.out o1 hz;have HZ:=A3 hz;have hap:=fun w=>lM (NB op) bl bh cl ch w (CV).1.1 CV.1.2 CV.2.1 CV.2.2 hcw.1.1 hcw.1.2 hcw.2.1 hcw.2.2;obtain⟨xa,Gt⟩:=AA ((EX (NB op) (bl,bh) (cl,ch)).1);obtain⟨xb,hxb⟩:=AA ((EX (NB op) (bl,bh) (cl,ch)).2);rw [Gt,hxb] at hap;have QX:=A3 hap;rw [Ga.out,Jg.out,show EX (NB op) (bl,bh) (cl,ch)=(xa,xb) from Vf Gt hxb] at Tc;have Fh:=A3 Tc;clear hz hap Gt hxb CV hcw Tc;have EZ:∀w:World,(binOp .eql 172 (.agg #[.int .i32 cl,.int .i32 ch]) (.agg #[.int .i32 0,.int .i32 0])).run Tryz.prog w=.ok (.bool false) w:=fun w=>by
   rw [KL,show (cl==0 && ch==0)=false by
    rw [fN];intro h;rw [EY,V7,V7] at h
    exact HZ.out ⟨h5,by rw [Jg.out,h.1,h.2]⟩]
  clear HZ;rcases h5 with rfl|rfl;all_goals
   go_upto_region 5 with fail;refine Cg A6 A6 ?_;repeat (go_big_quiet_step (first|(go_at_call 130;exact Calls.AQ (EG 0 _))))
   refine Ba ?_;rintro _ ⟨x,rfl⟩;go_upto_region 7 with fail;refine ZF 15 A6 A6 ?_;simp only [Ew,List.take_zero,Er,List.drop_zero];repeat (go_big_quiet_step (first|(go_at_call 132;exact Calls.We (Fq.out _))|(go_at_call 131;exact Calls.AQ (QX.out _))))
   refine Ba ?_;rintro _ ⟨x1,rfl⟩;go_upto_region 23 with fail;obtain⟨W1,hW1⟩:=AA x1.w;have IV:=A3 (show Below U.heap.size U W1 from hW1▸x1.h);rw [hW1];clear hW1
 rotate_left 2
 focus
  have d1:decide (2≤op)=true:=AR o1.1;have d2:decide (op≤13)=true:=AR o1.2;have Fq:=A3 (pZ op o1.1 o1.2);have Tc:=HTA.out o1 hz;have HZ:=A3 hz;have hap:=fun w=>lM (NB op) bl bh cl ch w (CV).1.1 CV.1.2 CV.2.1 CV.2.2 hcw.1.1 hcw.1.2 hcw.2.1 hcw.2.2;obtain⟨xa,Gt⟩:=AA ((EX (NB op) (bl,bh) (cl,ch)).1);obtain⟨xb,hxb⟩:=AA ((EX (NB op) (bl,bh) (cl,ch)).2);rw [Gt,hxb] at hap;have QX:=A3 hap;rw [Ga.out,Jg.out,show EX (NB op) (bl,bh) (cl,ch)=(xa,xb) from Vf Gt hxb] at Tc;have Fh:=A3 Tc;clear hz hap Gt hxb CV hcw Tc;have e5:(op==5)=false:=by rw [fN];intro h;exact h5 (.inl NM)
  have e6:(op==6)=false:=by rw [fN];intro h;exact h5 (.inr NM)
  clear h5;go_upto_region 5 with fail;refine Cg A6 A6 ?_;repeat (go_big_quiet_step (fail))
  refine Ba ?_;rintro _ ⟨x,rfl⟩;go_upto_region 7 with fail;refine ZF 15 A6 A6 ?_;simp only [Ew,List.take_zero,Er,List.drop_zero];repeat (go_big_quiet_step (first|(go_at_call 132;exact Calls.We (Fq.out _))|(go_at_call 131;exact Calls.AQ (QX.out _))))
  refine Ba ?_;rintro _ ⟨x1,rfl⟩;go_upto_region 23 with fail;obtain⟨W1,hW1⟩:=AA x1.w;have IV:=A3 (show Below U.heap.size U W1 from hW1▸x1.h);rw [hW1];clear hW1
 rotate_left 1
 focus
  have Dv:=Qw.out A0;rw [AE h] at Dv;subst h;obtain⟨xa,Gt⟩:∃x,im=x:=⟨_,rfl⟩;obtain⟨xb,hxb⟩:∃x,xa=x:=⟨_,rfl⟩;rw [show ((im,im):Int×Int)=(xa,xb) by rw [←hxb,← Gt]] at Dv;have Fh:=A3 Dv;rw [Gt] at g0;rw [Gt,hxb] at g1;clear Dv Gt hxb;go_upto_region 23 with fail;obtain⟨W1,hW1⟩:=AA U;have IV:=A3 (show Below U.heap.size U W1 from hW1▸(AP U.heap.size U));rw [hW1];clear hW1
 rotate_left 1
 focus
  have Dv:=Qw.out A0;rw [A9 A0,AE h] at Dv;subst h;obtain⟨xa,xb,hx,hap⟩:=jF 6 bl bh im im CV (by unfold Ae;omega);have QX:=A3 hap;rw [Ga.out,hx] at Dv;have Fh:=A3 Dv;clear hap hx CV hcw Dv;go_upto_region 11 with fail;refine JW 9 A6 A6 ?_;simp only [Ew,List.take_zero,Er,List.drop_zero];repeat (go_big_quiet_step (first|(go_at_call 131;exact Calls.AQ (QX.out _))))
  refine Ba ?_;rintro _ ⟨x1,rfl⟩;go_upto_region 23 with fail;obtain⟨W1,hW1⟩:=AA x1.w;have IV:=A3 (show Below U.heap.size U W1 from hW1▸x1.h);rw [hW1];clear hW1
 rotate_left 1
 focus
  have Dv:=Qw.out A0;rw [A9 A0,A9 A0,AE h] at Dv;subst h;obtain⟨xa,xb,hx,hap⟩:=jF 14 bl bh im im CV (by unfold Ae;omega);have QX:=A3 hap;rw [Ga.out,hx] at Dv;have Fh:=A3 Dv;clear hap hx CV hcw Dv;go_upto_region 13 with fail;refine JW 9 A6 A6 ?_;simp only [Ew,List.take_zero,Er,List.drop_zero];repeat (go_big_quiet_step (first|(go_at_call 131;exact Calls.AQ (QX.out _))))
  refine Ba ?_;rintro _ ⟨x1,rfl⟩;go_upto_region 23 with fail;obtain⟨W1,hW1⟩:=AA x1.w;have IV:=A3 (show Below U.heap.size U W1 from hW1▸x1.h);rw [hW1];clear hW1
 rotate_left 1
 focus
  have Dv:=Qw.out A0;rw [A9 A0,A9 A0,A9 A0,AE h] at Dv;subst h;obtain⟨xa,xb,hx,hap⟩:=jF 12 bl bh im im CV (by unfold Ae;omega);have QX:=A3 hap;rw [Ga.out,hx] at Dv;have Fh:=A3 Dv;clear hap hx CV hcw Dv;go_upto_region 15 with fail;refine JW 9 A6 A6 ?_;simp only [Ew,List.take_zero,Er,List.drop_zero];repeat (go_big_quiet_step (first|(go_at_call 131;exact Calls.AQ (QX.out _))))
  refine Ba ?_;rintro _ ⟨x1,rfl⟩;go_upto_region 23 with fail;obtain⟨W1,hW1⟩:=AA x1.w;have IV:=A3 (show Below U.heap.size U W1 from hW1▸x1.h);rw [hW1];clear hW1
 rotate_left 1
 focus
  have Dv:=Qw.out A0;rw [A9 A0,A9 A0,A9 A0,A9 A0,AE h] at Dv;obtain⟨xa,Gt⟩:∃x,(-2147483648:Int)=x:=⟨_,rfl⟩;obtain⟨xb,hxb⟩:∃x,(2147483647:Int)=x:=⟨_,rfl⟩;rw [show ay=(xa,xb) by rw [←Gt,← hxb];rfl] at Dv;have⟨Fh,HFU⟩:=AL Dv (fun w=>FD w);rw [Gt,hxb] at HFU;clear Dv Gt hxb;rcases h with rfl|rfl|rfl;all_goals
   go_upto_region 17 with fail;refine JW 4 A6 A6 ?_;simp only [Ew,List.take_zero,Er,List.drop_zero];repeat (go_big_quiet_step (first|(go_at_call 133;exact Calls.AQ (HFU.out _))))
   refine Ba ?_;rintro _ ⟨x1,rfl⟩;go_upto_region 23 with fail;obtain⟨W1,hW1⟩:=AA x1.w;have IV:=A3 (show Below U.heap.size U W1 from hW1▸x1.h);rw [hW1];clear hW1
 rotate_left 3
 focus
  have Dv:=Qw.out A0;rw [A9 A0,A9 A0,A9 A0,A9 A0,A9 A0,AE h] at Dv;subst h;obtain⟨xa,xb,hx⟩:∃xa xb,Aw (al,ah) (0,im - 1)=(xa,xb):=⟨_,_,rfl⟩;have hme:=fun w=>dJ al ah 0 (im - 1) w;rw [hx] at hme;have⟨HME,HX,HB9⟩:=B8 hme (show Aw (rg r (an:Int)) (0,im - 1)=(xa,xb) by rw [Jw.out];exact hx) Dv;clear Dv;have w1:IntKind.i64.wrap (im - 1)=im - 1:=GN _ A0;have w2:IntKind.i32.wrap (im - 1)=im - 1:=IntWalk.i32_in _ A0;clear hme hx CV hcw haw;go_upto_region 19 with fail;go_cut [7] from 131 to 140 (fun s7 wx=>∃(g:Nat) (v:Ext U),s7=.pointer (some ⟨g,0,none⟩)∧wx=v.w∧v.w.cell? ⟨g,0,none⟩=some (.int .i32 xa)∧v.w.cell? ⟨g,1,none⟩=some (.int .i32 xb)∧g<v.w.heap.size)
  case first=>
   as_aux_lemma=>
    have K0:Dm U U:=AP _ _;go_region_held3 (fun w'=>(∀b o,b<U.heap.size→w'.cell? ⟨b,o,none⟩=U.cell? ⟨b,o,none⟩)∧Dm U w') ((refine yN rfl ?_;(repeat (first|(with_reducible assumption)|(with_reducible refine Dm.alloc ?_ _)|(with_reducible refine Dm.ext ?_ _)|(with_reducible refine Dm.set ?_ qw _)|(with_reducible refine Dm.drew ?_)))))
     (first|(go_at_call 134;(first|(with_reducible refine (Calls.AQ (HME.out _)).mono ?_)|(with_reducible refine (Calls.ext (HME.out _)).mono ?_));rintro e _ ⟨rfl,y,rfl⟩;have KK:Dm U y.w:=(by (repeat (first|(with_reducible assumption)|(with_reducible refine Dm.alloc ?_ _)|(with_reducible refine Dm.ext ?_ _)|(with_reducible refine Dm.set ?_ qw _)|(with_reducible refine Dm.drew ?_))));have KS:U.heap.size≤y.w.heap.size:=KK.size;(have KZ:=Below.size (Ext.h y));(try simp only [El,World.size_drew] at KZ);(try have KM:U.heap.size<y.w.heap.size:=A0)))
    all_goals (go_wp2_with fail;go_meet;refine aqk ?_ ?_ ?_ ?_)
    all_goals first
     | (with_reducible show Dm _ _;(repeat (first|(with_reducible assumption)|(with_reducible refine Dm.alloc ?_ _)|(with_reducible refine Dm.ext ?_ _)|(with_reducible refine Dm.set ?_ qw _)|(with_reducible refine Dm.drew ?_)));done)
     | (simp;done)
     | (simp;omega)
     | (go_simp;done)
     | (simp;refine World.cell?_setCell_same _ _ _ (u:=.int .i32 0) ?_;go_simp;done)
     | (go_simp;refine World.cell?_setCell_same _ _ _ (u:=.int .i32 0) ?_;go_simp;done)
  obtain⟨tb,v,rfl,rfl,t0',t1',nD⟩:=hcut;obtain⟨U2,Hu⟩:=AA v.w;have b2:Below U.heap.size U U2:=Hu▸v.h;rw [Hu] at t0' t1' nD ⊢;have t0:=t0';have t1:=t1';have lt2:=nD;have v1:U2.cell? ⟨w.heap.size,1,none⟩=some (.int .i64 (an:Int)):=by rw [b2.cell (p:=⟨w.heap.size,1,none⟩) lI];exact u1
  have s4:U2.cell? ⟨w.heap.size+1,an*2,none⟩=some (.int .i32 al):=by rw [b2.cell (p:=⟨w.heap.size+1,an*2,none⟩) lR];exact r4
  have s5:U2.cell? ⟨w.heap.size+1,an*2+1,none⟩=some (.int .i32 ah):=by rw [b2.cell (p:=⟨w.heap.size+1,an*2+1,none⟩) lR];exact r5
  have sf0:U2.frozen? ⟨w.heap.size+1,an*2,none⟩=false:=(N6.out.keep b2).fz _;have sf1:U2.frozen? ⟨w.heap.size+1,an*2+1,none⟩=false:=(N6.out.keep b2).fz _;have li2:w.heap.size<U2.heap.size:=by have:=b2.size;omega
  have lr2:w.heap.size+1<U2.heap.size:=by have:=b2.size;omega
  have lo2:w.heap.size+1+1<U2.heap.size:=by have:=b2.size;omega
  have⟨B2,KO2⟩:=AL b2 ((b2.block _ lO).trans Yg.out);clear t0' t1' nD Hu b2 r0 r1 r2 r3 r4 r5 u0 u1 u2 u3 u4 rf0 rf1 g0 g1 w1 w2;have RT:=A3 (Calls.ext (Ax xa xb U2));by_cases he:xb<xa
  ·have d:=AR he
   have KJ:=A3 (show emp (xa,xb)=true by unfold emp;simpa using he);clear he;go_wp2_with (first|(go_at_call 127;refine RT.out.mono ?_;rintro e w' ⟨rfl,y,rfl⟩)|(refine Bp rfl 174 (.tmp 4) (.tmp 143) rfl (w.heap.size+1+1) BO.toArray rfl rfl 174 _ (((Ext.h _).block _ lo2).trans KO2.out) A6 rfl BS ?_));refine Al (results_cell_tmp (P:=Tryz.prog) fy _ _ (w.heap.size+1+1) BO _ rfl (FM (IJ _ _ _ _ _ _ ((y.h.block _ lo2).trans KO2.out))) BH rfl A6) rfl ⟨?_,Bt (BU.out.trans ((B2.out.trans (y.h.mono B2.out.size)).mono BU.out.size)) A0 _⟩;rw [HB9.out,show Xc r (an:Int) im=none by unfold Xc;rw [HX.out,AE KJ.out]];rfl
  have d:=Aq he;have KJ:=A3 (show ¬emp (xa,xb)=true by unfold emp;simpa using he);clear he;go_upto_region 22 with (go_at_call 127;refine RT.out.mono ?_;rintro e w' ⟨rfl,y,rfl⟩);go_upto_region 23 with fail;have⟨Fh,BY5⟩:=AL (show O=some (DZ r (an:Int) (xa,xb)) by rw [HB9.out];unfold Xc;rw [HX.out,A9 KJ.out]) (B2.out.trans (y.h.mono B2.out.size));obtain⟨W1,hW1⟩:=AA y.w;have IV:=A3 (show Below U.heap.size U W1 from hW1▸BY5.out);rw [hW1];clear hW1
 rotate_left 1;rotate_left 10
 iterate 11
  focus
   obtain⟨Y,hY⟩:=AA ((W1.setCell ⟨w.heap.size+1,an*2,none⟩ (.int .i32 xa)).setCell ⟨w.heap.size+1,an*2+1,none⟩ (.int .i32 xb));obtain⟨rs,JD⟩:=AA (r.set an (xa,xb));have lrs:rs.length=16:=by rw [←JD,NP];exact hr.len
   have kY:Am Y (w.heap.size+1) 174 rs:=by rw [←hY,← JD];exact (N6.out.keep IV.out).set an (xa,xb)
   have kO:Y.heap[w.heap.size+1+1]?=some (.cells BO.toArray 174 (0,0)):=by
    rw [←hY,BL _ _ _ _ XE,BL _ _ _ _ XE];exact (IV.out.block _ lO).trans Yg.out
   have bY:Below w.heap.size w Y:=by rw [←hY];exact CJ (CJ (BU.out.trans (IV.out.mono BU.out.size)) YK _) YK _
   have EC:=A3 (show ∀r3,rs.set 0 (0,0)=r3→O=some r3 from fun r3 h=>by rw [Fh.out,← h,← JD,vG hr.len (kM HP.out)]);clear JD
  rotate_left 1
 all_goals
  rw [hY];have lY:w.heap.size+1<Y.heap.size:=kY.lt;have Xu:w.heap.size+1+1<Y.heap.size:=(Be.1 kO).1;have z0:Y.cell? ⟨w.heap.size+1,0,none⟩=some (.int .i32 (rg rs 0).1):=by simpa using kY.lo (k:=0) A0
  have z1:Y.cell? ⟨w.heap.size+1,1,none⟩=some (.int .i32 (rg rs 0).2):=by simpa using kY.hi (k:=0) A0
  have zf0:Y.frozen? ⟨w.heap.size+1,0,none⟩=false:=kY.fz _;have zf1:Y.frozen? ⟨w.heap.size+1,1,none⟩=false:=kY.fz _;have⟨KY,KO,BY,LRS,HOF⟩:=Fi kY kO bY lrs (Calls.ext (EG 0 Y));clear hY kY kO bY lrs;go_upto_region 24 with (go_at_call 130;refine HOF.out.mono ?_;rintro e w' ⟨rfl,y2,rfl⟩);obtain⟨Z,hZ⟩:=AA ((y2.w.setCell ⟨w.heap.size+1,0,none⟩ (.int .i32 0)).setCell ⟨w.heap.size+1,1,none⟩ (.int .i32 0));obtain⟨r3,hr3⟩:=AA (rs.set 0 (0,0));have l3:r3.length=16:=by rw [←hr3,NP];exact LRS.out
  have kZ:Am Z (w.heap.size+1) 174 r3:=by
   rw [←hZ,← hr3];have h:=(KY.out.keep y2.h).set 0 (0,0);simpa using h
  have NY:Z.heap[w.heap.size+1+1]?=some (.cells BO.toArray 174 (0,0)):=by
   rw [←hZ,BL _ _ _ _ XE,BL _ _ _ _ XE];exact (y2.h.block _ Xu).trans KO.out
  have bZ:Below w.heap.size w Z:=by rw [←hZ];exact CJ (CJ (BY.out.trans (y2.h.mono BY.out.size)) YK _) YK _
  rw [hZ];have⟨DD,O5,BZ,JS,KD,Q8,Pv,VK⟩:=Ki kZ.range NY bZ (show (Tryz.prog.info? 174).map (·.size)=some (AD r3).length by rw [CZ,l3];kernel_rfl) (show (Tryz.prog.info? 174).map (·.size)=some (AD r3).toArray.size by rw [Iu,CZ,l3];kernel_rfl) (show (BO.toArray:Array Value).size=(AD r3).toArray.size by rw [show (AD r3).toArray.size=32 by rw [Iu,CZ,l3]];rfl) (CX r3) (EC.out r3 hr3);clear hZ kZ NY bZ hr3 l3 z0 z1 zf0 zf1;go_wp2_with (first|(refine Cu rfl _ _ rfl _ _ rfl (AD r3) _ DD.out BH rfl JS.out ?_)|(refine Bp rfl 174 (.tmp 4) (.tmp 150) rfl (w.heap.size+1+1) (AD r3).toArray rfl rfl 174 _ O5.out KD.out Q8.out Pv.out ?_));refine Al (results_cell_tmp (P:=Tryz.prog) fy _ _ (w.heap.size+1+1) (AD r3) _ rfl (FM (IJ _ _ _ _ _ _ O5.out)) BH rfl JS.out) rfl ⟨?_,Bt BZ.out A0 _⟩;rw [VK.out];rfl
theorem aqC:∀k,k<30→(Db k).LD≤15∧(Db k).L8≤15∧(Db k).Kg≤15∧-131072≤M9 k∧MT k≤131071:=by decide
theorem xT (op a b c im:Int) (h0:0≤op) (r:RG) (hr:R16 r) (w:World) (T:C8 w) :
  Calls Tryz.prog 107 #[.agg #[.int .u8 op,.int .i64 a,.int .i64 b,.int .i64 c,.int .i64 im],.agg (AD r).toArray] w fun e w'=>e=.returned (Ca (Iw ⟨op,a,b,c,im⟩ r))∧Below w.heap.size w w':=by
 by_cases hvp:CE ⟨op,a,b,c,im⟩=true∧Fe r=true;case neg=>
  refine (xP op a b c im h0 r hr w T (by
   cases h1:CE ⟨op,a,b,c,im⟩<;>cases h2:Fe r<;>simp_all)).mono fun e w' ⟨q,hb⟩=>⟨q.trans ?_,hb⟩
  unfold Iw;rw [A9 hvp]
 obtain⟨hv,hp⟩:=hvp;obtain⟨k,g1,g2,⟨a1,a2⟩,⟨b1,b2⟩,⟨c1,c2⟩,i1,i2⟩:=(PT (i:=⟨op,a,b,c,im⟩) h0).1 hv;obtain⟨s1,s2,s3,s4,s5⟩:=aqC k g2;simp only at g1 a1 a2 b1 b2 c1 c2 i1 i2;obtain⟨an,rfl⟩:∃n:Nat,a=(n:Int):=⟨a.toNat,by omega⟩;obtain⟨bn,rfl⟩:∃n:Nat,b=(n:Int):=⟨b.toNat,by omega⟩;obtain⟨cn,rfl⟩:∃n:Nat,c=(n:Int):=⟨c.toNat,by omega⟩;exact ao6 op an bn cn im A0 A0 A0 A0 h0 A0 r hr w T hv hp
theorem hi3 {r:RG} (hr:r.length=16):(Tryz.prog.info? 174).map (·.size)=some (AD r).length:=by rw [CZ,hr];kernel_rfl
theorem hi4 {r:RG} (hr:r.length=16):(Tryz.prog.info? 174).map (·.size)=some (AD r).toArray.size:=by rw [Iu,CZ,hr];kernel_rfl
theorem hi6 {r z:RG} (hr:r.length=16) (hz:z.length=16):(AD z).toArray.size=(AD r).toArray.size:=by rw [Iu,Iu,CZ,CZ,hr,hz]
theorem BK:Ao.length=16:=rfl
theorem Am.row {w:World} {b:Nat} {T:TypeId} {z r:RG} (h:Am w b T z):Am (w.setRow b (AD r).toArray) b T r:=IJ _ _ _ _ _ _ h
theorem KI {w:World} {fn:Func} {a u:Tmp} (h:fn.results=#[.cell a 174,.tmp u]) (tmps:Array Value) (b:Nat) {r:RG} (hr:r.length=16) (ha:tmps.getD a undef=.pointer (some ⟨b,0,none⟩)) (hb:Am w b 174 r) :
  (results fn tmps).run Tryz.prog w=.ok (.tuple #[.agg (AD r).toArray,tmps.getD u undef]) w:=
 results_cell_tmp (P:=Tryz.prog) h tmps w b (AD r) _ ha hb.range BH rfl (hi3 hr)
theorem ints_at {w:World} {v:Value} {l:List Int} (h:Ints w v l):∃A cap,v=.slice A l.length cap∧l.length≤cap∧cap≤maxLen:=by
 obtain⟨A,cap,h1,h2,h3,_⟩:=h;exact⟨A,cap,h1,h2,h3⟩
theorem Oo {n:Nat} (h:n≤maxLen):n≤2 ^ 63 - 1:=by unfold maxLen at h;exact h
theorem ow {V w:World} {ab cb rb ib pb:Nat} {bv pv:Value} {G:List AV} {B:List AB} {val:Nat→Value} {s:AS} (h:An V w ab cb rb ib pb bv pv G B val s) {k:Nat} {b:AB} (hk:B[k]?=some b) (hne:b.code≠[]) (QY:∀i∈b.code,0≤i.op) (T:C8 w) :
  Calls Tryz.prog 87 #[.pointer (some ⟨ab,0,none⟩),.int .i64 (k:Int)] w fun e w'=>e=.returned (Ca (F5 b.code (s.Af.getD k [])))∧Below w.heap.size w w':=by
 have hkl:=(Bl.1 hk).1;have JG:=h.lB;obtain⟨r,hr⟩:=AA (s.Af.getD k []);have r16:R16 r:=hr▸h.Ez.get hkl;obtain⟨V0,Bv⟩:=AA (w.alloc (.cells BO.toArray 174));have b0:Below w.heap.size w V0:=Bv▸(AP _ _).alloc (AH _) _;have s0:V0.heap.size=w.heap.size+1:=by rw [←Bv];simp
 have kz:Am V0 w.heap.size 174 Ao:=Bv▸Ai _ _;have h0:=h.below b0;obtain⟨l1,l2,l3,l4,l5⟩:=h0.lt;obtain⟨-,c2,-,c4,-⟩:=h0.cells;have hrg:=h0.JN hkl;rw [hr] at hrg;have DD:=A3 hrg;have dk:(k:Int)<(B.length:Int):=by omega
 obtain⟨n,hn⟩:=AA B.length;rw [hn] at c2 c4 dk JG;have⟨H0,HR,aaH,R,B0,S0,KZ,HT⟩:=Ki h0 hr QY r16 b0 s0 kz T;obtain⟨q,cap,hval,Cp,ZJ,Qv,vS⟩:∃q cap,val k=.slice (some ⟨q,0,none⟩) b.code.length cap∧b.code.length≤cap∧cap≤2 ^ 63 - 1∧q<w.heap.size∧∀j i,b.code[j]?=some i→
   w.cell? ⟨q,j*5,none⟩=some (.int .u8 i.op)∧w.cell? ⟨q,j*5+1,none⟩=some (.int .i64 i.a)∧w.cell? ⟨q,j*5+2,none⟩=some (.int .i64 i.b)∧w.cell? ⟨q,j*5+3,none⟩=some (.int .i64 i.c)∧w.cell? ⟨q,j*5+4,none⟩=some (.int .i64 i.AG):=by
  rcases (h.code hk).2 with⟨_,e⟩|⟨q,cap,e1,e2,e3,e4,e5⟩
  ·exact absurd e hne
  ·exact⟨q,cap,e1,e2,Oo e3,e4,e5⟩
 have CC:=A3 vS;obtain⟨m,hm⟩:=AA b.code.length;have x2:V0.cell? ⟨cb,k,none⟩=some (.slice (some ⟨q,0,none⟩) m cap):=by rw [←hm,← hval];exact (h0.code hk).1
 have HM:=A3 hm;rw [hm] at Cp;clear h0 h hr QY r16 b0 s0 kz hne hk T hrg hn hval vS hm hkl;go_enter Tryz.func87,Tryz.ntmps87;go_upto_region 2 with (first|(refine Cu rfl _ _ rfl _ _ rfl (AD r) _ DD.out BH rfl (hi3 R.out.len) ?_)|(refine Bp rfl 174 (.tmp 6) (.tmp 16) rfl V0.heap.size (AD r).toArray rfl rfl 174 _ (Ai _ _) (hi4 R.out.len) (hi6 R.out.len BK) (CX r) ?_));obtain⟨X,hX⟩:=AA ((V0.alloc (.cells BO.toArray 174)).setRow V0.heap.size (AD r).toArray);have hA:Am (V0.alloc (.cells BO.toArray 174)) V0.heap.size 174 Ao:=Ai _ _;have bX:Below V0.heap.size V0 X:=hX▸Bt ((AP _ _).alloc (AH _) _) (AH _) _;have kX:Am X V0.heap.size 174 r:=hX▸hA.row;rw [hX];clear Bv;have hX0:=H0.out.below bX;obtain⟨y1,y2,y3,y4,y5⟩:=hX0.lt;have e2:=hX0.cells.2.1;have f2:X.cell? ⟨cb,k,none⟩=some (.slice (some ⟨q,0,none⟩) m cap):=(bX.cell (p:=⟨cb,k,none⟩) l2).trans x2;have⟨BX,KX⟩:=AL bX kX;have hnB:B.length=n:=by
  have:=c2.symm.trans H0.out.cells.2.1;simp at this;omega
 rw [hnB] at e2;clear hX hA bX kX hX0 c2 c4 x2 hnB;go_upto_region 3 with fail;go_loopw [7,25] (fun a7 a25 wr=>∃(j:Nat) (r1:RG),j≤m∧a25=.int .i64 (j:Int)∧a7=.bool true∧F5 (b.code.drop j) r1=F5 b.code r∧R16 r1∧Below V0.heap.size V0 wr∧Am wr V0.heap.size 174 r1) (fun _ a25 _=>m - (intOf a25).toNat);case atStart=>exact⟨0,r,by omega,rfl,rfl,by simp,R.out,BX.out,KX.out⟩
 case round=>
  obtain⟨j,r1,hj,rfl,rfl,hrun,hr1,hb,kr⟩:=hrel;have⟨uW,R1,HB,KR⟩:=Bz hrun hr1 hb kr;clear hrun hr1 hb kr;have hsz:V0.heap.size<wr.heap.size:=KR.out.lt;by_cases hlt:j<m
  ·have dl:decide ((j:Int)<(m:Int))=true:=AR A0
   obtain⟨i,hi⟩:∃i,b.code[j]?=some i:=⟨_,Aj VG⟩;obtain⟨i0,i1,i2,i3,i4⟩:=CC.out j i hi;have lqv:q<V0.heap.size:=by have:=S0.out;omega
   have bq:=fun o=>(HB.out.cell (p:=⟨q,o,none⟩) lqv).trans (B0.out.cell (p:=⟨q,o,none⟩) Qv);have j0:=(bq _).trans i0;have j1:=(bq _).trans i1;have j2:=(bq _).trans i2;have j3:=(bq _).trans i3;have j4:=(bq _).trans i4;have Fq:=A3 (aaH.out i (Bf hi));have HST:=A3 (show F5 (i :: b.code.drop (j+1)) r1=F5 b.code r by
    have hl:j<b.code.length:=by rw [HM.out];exact hlt
    have e1:b.code[j]=i:=Gl ((Aj hl).symm.trans hi);have e2:b.code.drop j=i :: b.code.drop (j+1):=by rw [iQ hl,e1]
    rw [←uW.out,e2])
   obtain⟨op,ia,ic,id,im⟩:=i;simp only at j0 j1 j2 j3 j4;clear i0 i1 i2 i3 i4 hi bq;go_upto_region 5 with fail;obtain⟨Y,hY⟩:=AA (wr.alloc (.cells #[.int .u8 op,.int .i64 ia,.int .i64 ic,.int .i64 id,.int .i64 im] 67));rw [hY];have bY:Below wr.heap.size wr Y:=hY▸(AP _ _).alloc (AH _) _;obtain⟨z0,z1,z2,z3,z4,lY⟩:=Fy (show Y.heap[wr.heap.size]?=some (.cells #[.int .u8 op,.int .i64 ia,.int .i64 ic,.int .i64 id,.int .i64 im] 67 (0,0)) from hY▸Ai _ _);have KY:=A3 (KR.out.keep bY);have⟨dU,Qc,Fk⟩:=B8 KY.out.range (B0.out.trans ((HB.out.trans (bY.mono A0)).mono XP)) (show Am Y w.heap.size 174 Ao from (((HB.out.trans (bY.mono A0)).block _ XP).trans KZ.out));have⟨Fh,BVY⟩:=AL (xT op ia ic id im Fq.out r1 R1.out Y (HT.out.below Qc.out)) (HB.out.trans (bY.mono A0));have lV:V0.heap.size<Y.heap.size:=KY.out.lt;clear hY bY j0 j1 j2 j3 j4;rcases ho:Iw ⟨op,ia,ic,id,im⟩ r1 with _|r2
   ·rw [ho] at Fh
    have HN:=A3 (show F5 b.code r=none by rw [←HST.out];simp only [F5,ho]);clear ho;go_wp2_with (first|(refine Cu rfl _ _ rfl _ _ rfl (AD r1) _ dU.out BH rfl (hi3 R1.out.len) ?_)|(go_at_call 107;refine Fh.out.mono ?_;rintro e w1 ⟨rfl,hb1⟩;unfold Ca)|(refine Bp rfl 174 (.tmp 6) (.tmp 33) rfl V0.heap.size (AD Ao).toArray rfl rfl 174 _ (KY.out.keep hb1) (hi4 BK) (hi6 BK R1.out.len) (CX Ao) ?_)|(refine Bp rfl 174 (.tmp 4) (.tmp 37) rfl w.heap.size BO.toArray rfl rfl 174 _ ((Tw _ _ _ _ XP).trans (Fk.out.keep hb1)) A6 rfl BS ?_));refine Al (KI Tryz.results87 _ w.heap.size BK rfl (Am.row (r:=Ao) (z:=Ao) ((Tw _ _ _ _ XP).trans (Fk.out.keep hb1)))) rfl ⟨?_,?_⟩
    ·rw [HR.out,HN.out];rfl
    ·exact Bt (Bt (Qc.out.trans (hb1.mono Qc.out.size)) XP _) (AH _) _
   ·rw [ho] at Fh
    have⟨HN,R2⟩:=AL (show F5 (b.code.drop (j+1)) r2=F5 b.code r by rw [←HST.out];simp only [F5,ho]) (j7 Fq.out R1.out ho);clear ho;go_wp2_with (first|(refine Cu rfl _ _ rfl _ _ rfl (AD r1) _ dU.out BH rfl (hi3 R1.out.len) ?_)|(go_at_call 107;refine Fh.out.mono ?_;rintro e w1 ⟨rfl,hb1⟩;unfold Ca)|(refine Bp rfl 174 (.tmp 6) (.tmp 33) rfl V0.heap.size (AD r2).toArray rfl rfl 174 _ (KY.out.keep hb1) (hi4 R2.out.len) (hi6 R2.out.len R1.out.len) (CX r2) ?_));go_roundw;case rel=>exact⟨j+1,r2,by omega,by go_num,by first|rfl|trivial,HN.out,R2.out,Bt (BVY.out.trans (hb1.mono A0)) (AH _) _,Am.row (KY.out.keep hb1)⟩
    case measure=>exact Aa
  ·obtain rfl:j=m:=by omega
   have dl:decide ((j:Int)<(j:Int))=false:=by simp
   have⟨HN,dU,KZW⟩:=B8 (show F5 b.code r=some r1 by rw [←uW.out,← HM.out,List.drop_length];rfl) KR.out.range (show Am wr w.heap.size 174 Ao from ((HB.out.block _ XP).trans KZ.out));go_wp2_with (first|(refine Cu rfl _ _ rfl _ _ rfl (AD r1) _ dU.out BH rfl (hi3 R1.out.len) ?_)|(refine Bp rfl 174 (.tmp 4) (.tmp 39) rfl w.heap.size (AD r1).toArray rfl rfl 174 _ KZW.out (hi4 R1.out.len) (hi6 R1.out.len BK) (CX r1) ?_));refine Al (KI Tryz.results87 _ w.heap.size R1.out.len rfl (Am.row KZW.out)) rfl ⟨?_,?_⟩
   ·rw [HR.out,HN.out];rfl
   ·exact Bt (B0.out.trans (HB.out.mono B0.out.size)) (AH _) _
end Go.Proofs.YtlmgkipmfgijiaaGreatDoor
