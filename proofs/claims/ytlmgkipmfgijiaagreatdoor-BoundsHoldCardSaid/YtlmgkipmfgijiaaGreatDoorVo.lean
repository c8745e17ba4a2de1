/-
  What is proved here: parts aMono, aFix, aVi, aAz0, aSmp, aSa, aAk.
-/
import Derived.Test.YtlmgkipmfgijiaaGreatDoorVa
import Derived.Test.YtlmgkipmfgijiaaGreatDoorVl
import Derived.Test.YtlmgkipmfgijiaaGreatDoorVh
import Derived.Test.YtlmgkipmfgijiaaGreatDoorVn
import Derived.Test.YtlmgkipmfgijiaaGreatDoorVm
import Derived.BigRegion
import Derived.Deep.RegionHeld3
import Derived.Deep.DeepCutAuto
import Derived.Test.YtlmgkipmfgijiaaGreatDoorVd
import Derived.Test.YtlmgkipmfgijiaaGreatDoorVb
namespace Go.Proofs.YtlmgkipmfgijiaaGreatDoor
set_option linter.unusedVariables false
set_option linter.unusedSimpArgs false
set_option maxRecDepth 100000
set_option maxHeartbeats 8000000
open Go.RowKit
def MH (r m:RG):Prop:=∀k:Int,Sub (rg r k) (rg m k)
theorem rR {r:RG} {k:Int} (h:r.length≤k.toNat):rg r k=(0,0):=by
 unfold rg;simp [List.getD,Dy h]
theorem ay {r:RG} {k:Int} {x:Int×Int} (h0:0≤k) (hl:k.toNat<r.length) (j:Int) (hj:0≤j):rg (Cr r k x) j=if k≠0∧j=k then x else rg r j:=by
 unfold Cr;by_cases e:k=0
 ·rw [A9 e,A6 A0]
 ·rw [A6 e]
  unfold rg;by_cases e2:j=k
  ·subst e2
   rw [A9 ⟨e,rfl⟩];simp [List.getD,hl]
  ·rw [A6 A0]
   have:k.toNat≠j.toNat:=by omega
   simp [List.getD,Gv,this]
theorem pO {r:RG} {k:Int} (h:k<0):rg r k=rg r 0:=by
 unfold rg;rw [show k.toNat=0 by omega,show (0:Int).toNat=0 from rfl]
theorem MH.of {r m:RG} (h:∀k:Nat,k<16→Sub (rg r (k:Int)) (rg m (k:Int))) (hr:R16 r) (hm:R16 m):MH r m:=fun k=>by
 by_cases h1:k<0
 ·rw [pO h1,pO h1];exact h 0 A0
 ·by_cases h2:k.toNat<16
  ·have:=h k.toNat h2
   rwa [show ((k.toNat:Nat):Int)=k by omega] at this
  ·rw [rR Zb,rR (by rw [hm.len];omega)]
   exact .inr ⟨EJ _,EJ _⟩
theorem zQ {r:RG} (hr:R16 r) (h:∀k:Nat,k<16→(rg r (k:Int)).1≤(rg r (k:Int)).2) (h0:rg r 0=(0,0)):En r=true:=by
 unfold En;rw [Eh];refine⟨Mm.2 fun x hx=>?_,by simp [h0]⟩;obtain⟨i,hi,e⟩:=Rk hx;have h1:=h i (by rw [←hr.len];exact hi);have e2:rg r (i:Int)=r[i]:=by unfold rg;simp [List.getD,Ab hi]
 rw [e2,e] at h1;simpa using h1
theorem Zo {r m:RG} (hr:R16 r) (hm:R16 m) {k:Nat} (hk:k<16):rg (Cb r m) (k:Int)=Cc (rg r (k:Int)) (rg m (k:Int)):=by
 have h1:k<r.length:=by rw [hr.len];exact hk
 have h2:k<m.length:=by rw [hm.len];exact hk
 unfold rg Cb;simp [List.getD,oG,Ab h1,Ab h2]
theorem vH {r m:RG} (hr:R16 r) (hm:R16 m) {k:Nat} (hk:k<16):rg (Hw r m) (k:Int)=Bi (rg r (k:Int)) (rg m (k:Int)):=by
 have h1:k<r.length:=by rw [hr.len];exact hk
 have h2:k<m.length:=by rw [hm.len];exact hk
 unfold rg Hw;simp [List.getD,oG,Ab h1,Ab h2]
theorem gP {r m:RG} (hr:R16 r) (hm:R16 m):MH r (Cb r m):=MH.of (fun k hk=>by
 rw [Zo hr hm hk]
 exact (within_iff _ _).1 (aqf _ _)) hr (hr.join hm)
theorem atc:∀k,k<30→(FO k).PE≤15∧(FO k).Oz≤15∧(FO k).Nw≤15∧-131072≤OM k∧PB k≤131071:=by decide
theorem ZP {i:Ins} (h0:0≤i.op) (hv:CW i=true):(0≤i.a∧i.a≤15)∧(0≤i.b∧i.b≤15)∧(0≤i.c∧i.c≤15)∧-131072≤i.AD∧i.AD≤131071:=by
 obtain⟨k,g1,g2,⟨a1,a2⟩,⟨b1,b2⟩,⟨c1,c2⟩,i1,i2⟩:=(QJ (i:=i) h0).1 hv;obtain⟨s1,s2,s3,s4,s5⟩:=atc k g2;omega
theorem vQ (x:Int×Int):Sub x x:=.inr ⟨EJ _,EJ _⟩
def Jk (v:List Int) (r:RG):Prop:=∀k:Nat,k<16→Mem (v.getD k 0) (rg r (k:Int))
theorem Jk.sub {v:List Int} {r m:RG} (h:Jk v r) (hs:MH r m):Jk v m:=fun k hk=>by
 have h1:=h k hk;have h2:=hs (k:Int);unfold Mem at *;unfold Sub at h2;omega
theorem wX {op:Int} {v:Int} {x:Int×Int} (hv:Mem v x):Mem v (Ij op (decide (v=0)==decide (op=22)) x)∧emp (Ij op (decide (v=0)==decide (op=22)) x)=false:=by
 have key:Mem v (Ij op (decide (v=0)==decide (op=22)) x):=by
  unfold Ij;by_cases h0:v=0
  ·rw [A9 (by by_cases h:op=22<;>simp [h,h0])]
   have:=(tj x (0,0) v).2 ⟨hv,by simp only;omega⟩;exact this
  ·rw [A6 (by by_cases h:op=22<;>simp [h,h0])]
   unfold Oo Mem at *
   (repeat' split)<;>first|(simp_all;omega)|omega
 refine⟨key,?_⟩;unfold emp Mem at *;simpa using Ph key.1 key.2
theorem pz {i:Ins} (h0:0≤i.op) {r:RG} {v:List Int} (hl:v.length=16) (hr:R16 r) (pr:En r=true) (hop:i.op=22∨i.op=23) (hv:CW i=true) (hin:Jk v r):∃a,Cx i r (decide (v.getD i.a.toNat 0=0)==decide (i.op=22))=some a∧Jk v a:=by
 obtain⟨⟨a0,a1⟩,_⟩:=ZP h0 hv;have hm:=hin i.a.toNat A0;rw [show ((i.a.toNat:Nat):Int)=i.a by omega] at hm;obtain⟨k1,k2⟩:=wX (op:=i.op) hm;unfold Cx;rw [A9 ⟨hv,pr⟩,A9 hop,A6 (by rw [k2];simp)];refine⟨_,rfl,fun k hk=>?_⟩;rw [ay a0 Zb _ A0];split
 ·rename_i e
  rw [show k=i.a.toNat by omega];exact k1
 ·exact hin k hk
def FV (s:AS) (b:Nat):RG:=s.AG.getD b []
def tZ (last:Ins) (nx:List Int) (AX:RG) (s:AS) (j:Nat):Prop:=
 ES last nx.length j AX=none∨∃r,ES last nx.length j AX=some r∧s.reach.getD (nx.getD j 0).toNat false=true∧Cb (FV s (nx.getD j 0).toNat) r=FV s (nx.getD j 0).toNat
theorem ata {s:AS} {t:Nat} {o:Option RG} (h:(Ew s t o).2=false):(Ew s t o).1=s∧(o=none∨∃r,o=some r∧s.reach.getD t false=true∧Cb (FV s t) r=FV s t):=by
 cases o with
 | none=>exact⟨rfl,.inl rfl⟩
 | some r=>
  unfold Ew at h ⊢;simp only at h ⊢;split at h
  ·cases h
  ·rename_i h1
   rw [A6 h1];split at h
   ·rename_i h2
    rw [A9 h2];exact⟨rfl,.inr ⟨r,rfl,by simpa using h1,h2⟩⟩
   ·cases h
theorem uW {last:Ins} {nx:List Int} {AX:RG} {s:AS}:∀ {k:Nat},(FU last nx AX s k).2=false→(FU last nx AX s k).1=s∧∀j,j<k→tZ last nx AX s j
 | 0,_=>⟨rfl,fun j hj=>by omega⟩
 | k+1,h=>by
  simp only [FU,dR] at h ⊢;obtain⟨e,q⟩:=uW h.1;have h2:=h.2;rw [e] at h2 ⊢;obtain⟨e2,q2⟩:=ata h2;refine⟨e2,fun j hj=>?_⟩;by_cases hjk:j<k
  ·exact q j hjk
  ·obtain rfl:j=k:=by omega
   exact q2
def bS (b:AB) (n:Nat) (s:AS):Prop:=Dc b.code (FV s n)=none∨∃AX,Dc b.code (FV s n)=some AX∧∀j,j<b.nx.length→tZ b.last b.nx AX s j
theorem as2 {b:AB} {n:Nat} {s:AS} (h:(Fh b n s).2=false):(Fh b n s).1=s∧bS b n s:=by
 unfold Fh at h ⊢;unfold bS FV;cases hr:Dc b.code (s.AG.getD n []) with
 | none=>simp
 | some AX=>
  rw [hr] at h;simp only at h ⊢;obtain⟨e,q⟩:=uW h;exact⟨e,.inr ⟨AX,rfl,q⟩⟩
theorem jk {B:List AB} {s:AS}:∀ {n:Nat},(D5 B s n).2=false→(D5 B s n).1=s∧∀b,b<n→s.reach.getD b false=true→bS (B.getD b ⟨[],[]⟩) b s
 | 0,_=>⟨rfl,fun j hj=>by omega⟩
 | n+1,h=>by
  simp only [D5] at h ⊢;by_cases hr:(D5 B s n).1.reach.getD n false=true
  ·rw [A9 hr] at h ⊢
   simp only [dR] at h ⊢;obtain⟨e,q⟩:=jk h.1;have h2:=h.2;rw [e] at h2 ⊢;obtain⟨e2,q2⟩:=as2 h2;refine⟨e2,fun j hj OW=>?_⟩;by_cases hjk:j<n
   ·exact q j hjk OW
   ·obtain rfl:j=n:=by omega
    exact q2
  ·rw [A6 hr] at h ⊢
   obtain⟨e,q⟩:=jk h;refine⟨e,fun j hj OW=>?_⟩;by_cases hjk:j<n
   ·exact q j hjk OW
   ·obtain rfl:j=n:=by omega
    rw [e] at hr;exact absurd OW hr
theorem Ends.fixed {B:List AB} {s s':AS} (h:Ends B s s'):∀b,b<B.length→s'.reach.getD b false=true→bS (B.getD b ⟨[],[]⟩) b s':=by
 induction h with
 | done h=>
  obtain⟨e,q⟩:=jk h;rw [e];exact q
 | more _ _ ih=>exact ih
def zeros:List Int:=List.replicate 16 0
structure Fx (n:Nat) (s:AS):Prop where
 El:JS n s
 z:∀b,b<n→rg (FV s b) 0=(0,0)
 r0:s.reach.getD 0 false=true
 c0:Jk zeros (FV s 0)
 un:∀b,b<n→s.reach.getD b false=false→FV s b=Aj
theorem vE {i:Ins} {r a:RG} (h0:0≤i.op) (hr:R16 r) (h:Hu i r=some a):rg a 0=rg r 0∧En r=true:=by
 unfold Hu at h;split at h
 ·rename_i hv
  refine⟨?_,hv.2⟩;obtain⟨⟨a0,a1⟩,_⟩:=ZP h0 hv.1;have key:∀x,rg (Cr r i.a x) 0=rg r 0:=fun x=>by
   rw [ay a0 Zb _ (EJ _),A6 A0]
  (repeat' split at h)<;>first|(cases h;exact key _)|(cases h;rfl)|cases h
 ·cases h
theorem Xe {i:Ins} {r a:RG} {t:Bool} (h0:0≤i.op) (hr:R16 r) (h:Cx i r t=some a):rg a 0=rg r 0:=by
 unfold Cx at h;split at h
 ·rename_i hv
  obtain⟨⟨a0,a1⟩,_⟩:=ZP h0 hv.1;have key:∀x,rg (Cr r i.a x) 0=rg r 0:=fun x=>by
   rw [ay a0 Zb _ (EJ _),A6 A0]
  (repeat' split at h)<;>first|(cases h;exact key _)|(cases h;rfl)|cases h
 ·cases h
theorem lD {r m:RG} (hr:R16 r) (hm:R16 m) (h1:rg r 0=(0,0)) (h2:rg m 0=(0,0)):rg (Cb r m) 0=(0,0):=by
 have:=Zo hr hm (k:=0) A0;rw [show ((0:Nat):Int)=0 from rfl] at this;rw [this,h1,h2];decide
theorem xV {r m:RG} (hr:R16 r) (hm:R16 m) (h1:rg r 0=(0,0)) (h2:rg m 0=(0,0)):rg (Hw r m) 0=(0,0):=by
 have:=vH hr hm (k:=0) A0;rw [show ((0:Nat):Int)=0 from rfl] at this;rw [this,h1,h2];decide
theorem jS:∀ {l:List Ins} {r a:RG},(∀i∈l,0≤i.op)→R16 r→Dc l r=some a→rg a 0=rg r 0
 | [],r,a,_,_,h=>by cases h;rfl
 | i :: l,r,a,hl,hr,h=>by
  unfold Dc at h;split at h
  ·cases h
  ·rename_i r' e
   rw [jS (fun j hj=>hl j (Fu _ hj)) (eD (hl i (Lf ..)) hr e) h];exact (vE (hl i (Lf ..)) hr e).1
theorem ye {last:Ins} {m k:Nat} {r a:RG} (h0:0≤last.op) (hr:R16 r) (hz:rg r 0=(0,0)) (h:ES last m k r=some a):rg a 0=(0,0):=by
 unfold ES at h;split at h
 ·cases h;exact hz
 split at h
 ·rw [Xe h0 hr h];exact hz
 ·split at h
  ·rw [Xe h0 hr h];exact hz
  ·rename_i e _
   cases h;rw [Xe h0 hr Mz];exact hz
  ·rename_i e1 e2
   cases h;exact lD (Ip hr e1) (Ip hr e2) (by rw [Xe h0 hr e1];exact hz) (by rw [Xe h0 hr e2];exact hz)
theorem arT {x y:Int×Int} (wx:AL x.1∧AL x.2) (h:Sub x y):Sub x (Bi x y):=by
 unfold AL at wx;unfold Bi emp Sub at *;by_cases h1:x.2<x.1
 ·exact .inl h1
 ·by_cases h2:y.2<y.1
  ·simp [h1,h2]
  ·simp only [h1,h2,decide_false,NJ,Lc]
   right;constructor<;>split<;>omega
def newR (s:AS) (t:Nat) (r:RG):RG:=if 2≤s.rep.getD t 0 then Hw (s.AG.getD t []) (Cb (s.AG.getD t []) r) else Cb (s.AG.getD t []) r
theorem apm {n:Nat} {s:AS} (h:JS n s) {t:Nat} (ht:t<n) {r:RG} (hr:R16 r):R16 (newR s t r)∧MH (s.AG.getD t []) (newR s t r)∧(rg (s.AG.getD t []) 0=(0,0)→rg r 0=(0,0)→rg (newR s t r) 0=(0,0)):=by
 have hg:=h.get ht;have hj:=hg.join hr;unfold newR;split
 ·refine⟨hg.Xg hj,MH.of (fun k hk=>?_) hg (hg.Xg hj),fun e1 e2=>xV hg hj e1 (lD hg hr e1 e2)⟩
  rw [vH hg hj hk];exact arT (hg.at_ _) (gP hg hr _)
 ·exact⟨hj,gP hg hr,fun e1 e2=>lD hg hr e1 e2⟩
theorem Fx.step {n:Nat} {s:AS} (h:Fx n s) {t:Nat} (ht:t<n) {o:Option RG} (ho:∀r,o=some r→R16 r∧rg r 0=(0,0)):Fx n (Ew s t o).1:=by
 have ha:=(Zf h.El ht o (fun r hr=>(ho r hr).1)).1;cases o with
 | none=>exact h
 | some r=>
  obtain⟨h16,hz⟩:=ho r rfl;unfold Ew at ha ⊢;simp only at ha ⊢;have l1:=h.El.l1;have l2:=h.El.l2;by_cases h1:s.reach.getD t false=false
  ·rw [A9 h1] at ha ⊢
   have ht0:t≠0:=fun e=>by rw [e,h.r0] at h1;cases h1
   refine⟨ha,fun b hb=>?_,?_,?_,fun b hb hrb=>?_⟩
   ·unfold FV
    simp only;by_cases e:b=t
    ·subst e;rw [SS A0];exact hz
    ·rw [OH e];exact h.z b hb
   ·simp only;rw [OH (ED ht0)];exact h.r0
   ·unfold FV;simp only;rw [OH (ED ht0)];exact h.c0
   ·unfold FV
    simp only at hrb ⊢;by_cases e:b=t
    ·subst e;rw [SS A0] at hrb;cases hrb
    ·rw [OH e] at hrb ⊢;exact h.un b hb hrb
  ·rw [A6 h1] at ha ⊢
   by_cases h2:Cb (s.AG.getD t []) r=s.AG.getD t []
   ·rw [A9 h2];exact h
   ·rw [A6 h2] at ha ⊢
    obtain⟨n1,n2,n3⟩:=apm h.El ht h16;refine⟨ha,fun b hb=>?_,h.r0,?_,fun b hb hrb=>?_⟩
    ·unfold FV
     simp only;by_cases e:b=t
     ·subst e;rw [SS A0];exact n3 (h.z b hb) hz
     ·rw [OH e];exact h.z b hb
    ·unfold FV
     simp only;by_cases e:t=0
     ·subst e;rw [SS A0];exact h.c0.sub n2
     ·rw [OH (ED e)];exact h.c0
    ·unfold FV
     simp only at hrb ⊢;by_cases e:b=t
     ·subst e;exact absurd hrb h1
     ·rw [OH e];exact h.un b hb hrb
theorem Fx.FU {n:Nat} {last:Ins} {nx:List Int} {AX:RG} (h0:0≤last.op) (ha:R16 AX) (hz:rg AX 0=(0,0)) (BK:∀t∈nx,0≤t∧t<n) {s:AS} (h:Fx n s):∀k,k≤nx.length→Fx n (FU last nx AX s k).1
 | 0,_=>h
 | k+1,hk=>by
  simp only [Go.Proofs.YtlmgkipmfgijiaaGreatDoor.FU];have hm:nx.getD k 0∈nx:=by
   rw [show nx.getD k 0=nx[k]'A0 by simp [List.getD,Ab (show k<nx.length by omega)]];exact CQ _
  have:=BK _ hm;exact (Fx.FU h0 ha hz BK h k A0).step A0 (fun r hr=>⟨XJ ha hr,ye h0 ha hz hr⟩)
structure ABf (n:Nat) (b:AB):Prop where
 ok:jW n b
 op:0≤b.last.op
 ops:∀i∈b.code,0≤i.op
theorem Fx.Fh {n:Nat} {b:AB} (hb:ABf n b) (BK:∀t∈b.nx,0≤t∧t<n) {s:AS} (h:Fx n s) {k:Nat} (hk:k<n):Fx n (Fh b k s).1:=by
 unfold Go.Proofs.YtlmgkipmfgijiaaGreatDoor.Fh;split
 ·exact h
 ·rename_i AX e
  have hg:=h.El.get hk;exact h.FU hb.op (TM hb.ops hg e) (by rw [jS hb.ops hg e];exact h.z k hk) BK _ (AH _)
theorem Fx.D5 {n:Nat} {B:List AB} (hB:∀b∈B,ABf n b∧∀t∈b.nx,0≤t∧t<n) (hl:B.length=n) {s:AS} (h:Fx n s):∀k,k≤n→Fx n (D5 B s k).1
 | 0,_=>h
 | k+1,hk=>by
  simp only [Go.Proofs.YtlmgkipmfgijiaaGreatDoor.D5];have ih:=Fx.D5 hB hl h k A0;split
  ·have e:B.getD k ⟨[],[]⟩=B[k]'A0:=by simp [List.getD,Ab (show k<B.length by omega)]
   have hm:B.getD k ⟨[],[]⟩∈B:=by rw [e];exact CQ _
   exact ih.Fh (hB _ hm).1 (hB _ hm).2 A0
  ·exact ih
theorem Ends.fx {B:List AB} {s s':AS} (hB:∀b∈B,ABf B.length b∧∀t∈b.nx,0≤t∧t<B.length) (h:Ends B s s'):Fx B.length s→Fx B.length s':=by
 induction h with
 | done _=>exact fun hs=>hs.D5 hB rfl _ (AH _)
 | more _ _ ih=>exact fun hs=>ih (hs.D5 hB rfl _ (AH _))
theorem ao5 {n:Nat} (hn:0<n):Fx n (EI n):=by
 have hin:∀b,b<n→FV (EI n) b=Aj:=fun b hb=>by simp [FV,EI,List.getD,hb]
 refine⟨rj n,fun b hb=>by rw [hin b hb];rfl,by simp [EI,List.getD,hn],?_,fun b hb _=>hin b hb⟩;rw [hin 0 hn];intro k hk;have h1:∀k:Nat,k<16→rg Aj (k:Int)=(0,0)∧zeros.getD k 0=0:=by decide
 obtain⟨e1,e2⟩:=h1 k hk;rw [e1,e2];unfold Mem;simp
theorem agQ {x r:RG} (hx:R16 x) (hr:R16 r) (h:Cb x r=x):MH r x:=MH.of (fun k hk=>by
 have h1:=Zo hx hr hk;rw [h] at h1;rw [h1]
 exact (within_iff _ _).1 (vt _ _)) hr hx
structure ABw (n:Nat) (b:AB):Prop where
 f:ABf n b
 ne:b.code≠[]
 Gf:b.nx.length≤1000
 nx:∀t∈b.nx,0≤t∧t<n
theorem An.nexts {V w:World} {ab cb rb ib pb:Nat} {bv pv:Value} {G:List AU} {B:List AB} {val:Nat→Value} {s:AS} (h:An V w ab cb rb ib pb bv pv G B val s) {k:Nat} {b:AB} (hk:B[k]?=some b) :
  ∃g off cap nA CX,bv=.slice (some ⟨g,off,none⟩) B.length cap∧B.length≤cap∧cap≤2 ^ 63 - 1∧g<V.heap.size∧V.cell? ⟨g,off+k*3+2,none⟩=some (.slice nA b.nx.length CX)∧b.nx.length≤CX∧CX≤2 ^ 63 - 1∧∀j t,b.nx[j]?=some t→∃nb Fy,nA=some ⟨nb,Fy,none⟩∧nb<V.heap.size∧V.cell? ⟨nb,Fy+j,none⟩=some (.int .i64 t):=by
 have DK:=(Bc.1 hk).1;have hlG:=h.lG;obtain⟨A,cap,h1,h2,h3,h4⟩:=h.fX;obtain⟨g,off,rfl,hg,hc⟩:=h4 A0;obtain⟨x,hx⟩:∃x,G[k]?=some x:=⟨_,Ab A0⟩;obtain⟨_,_,nv,c2,hn⟩:=hc k x hx;have e:=h.gnx k x b hx hk;rw [e] at hn;obtain⟨nA,CX,rfl,n2,n3,n4⟩:=hn;rw [hlG] at h1 h2;refine⟨g,off,cap,nA,CX,h1,h2,MV h3,hg,c2,n2,MV n3,fun j t hj=>?_⟩;have hl:=(Bc.1 hj).1;obtain⟨nb,Fy,ha,hb,hcc⟩:=n4 A0;refine⟨nb,Fy,ha,hb,?_⟩;rw [hcc j hl,show b.nx.getD j 0=t by simp [List.getD,hj]]
theorem amd (last:Ins) (nx:List Int) (AX:RG) (s:AS) (k:Nat):FU last nx AX s (k+1)=((Ew (FU last nx AX s k).1 (nx.getD k 0).toNat (ES last nx.length k AX)).1,(FU last nx AX s k).2 || (Ew (FU last nx AX s k).1 (nx.getD k 0).toNat (ES last nx.length k AX)).2):=rfl
theorem there_drew {w:World} {b o n:Nat} (h:w.there b o n):w.drew.there b o n:=h
theorem ap3 {w:World} {b o n c p:Nat} {v:Value} (h:w.there b o n):(w.setCell ⟨c,p,none⟩ v).there b o n:=by
 have:=World.there_setCells h c p [v];exact this
theorem wj {Y w':World} {rb ib b10 o:Nat} {cs:List Value} (h1:b10<Y.heap.size) (n1:b10≠rb) (n2:b10≠ib) (hr:Y.rangeAt b10 0 cs) (hf:Fr (fun k=>k=rb∨k=ib) Y w') (ht:w'.there ib o 32) :
  (∀b o,b<Y.heap.size→b≠rb→b≠ib→w'.cell? ⟨b,o,none⟩=Y.cell? ⟨b,o,none⟩)∧w'.rangeAt b10 0 cs∧w'.there ib o 32∧Fr (fun k=>k=rb∨k=ib) Y w':=
 ⟨fun b o hb h2 h3=>hf.cell o hb (by simp [h2,h3]),fun j v hv=>(hf.cell (0+j) h1 (by simp [n1,n2])).trans (hr j v hv),ht,hf⟩
theorem Sg {P:Program} {ops:Array Oper} {C:World→Prop} {Q:Act→Prop} {a:Act} {op:Oper} {rest:List Oper} (hw:Region.wanted op (yielded ops a.tmps)=true) (ty:TypeId) (x:Operand) (ho:op.op=.load ty x)
  (b o:Nat) (hx:a.eval x=.pointer (some ⟨b,o,none⟩)) (cs:List Value) (d:TypeDesc) (hc:∀w,C w→w.rangeAt b o cs)
  (hu:P.underlying ty=some d) (hd:d.isRow=true) (hi:(P.info? ty).map (·.size)=some cs.length) (h:wpQuiet P ops C Q rest (a.put op.dst (.agg cs.toArray))):wpQuiet P ops C Q (op :: rest) a:=
 BigFrame.wpQuiet_want hw fun K hK=>⟨.agg cs.toArray,fun w hC=>by
  unfold Oper.quietAt execOp;simp only [ho,hx,Instr.loadAt,Instr.sureAddr,QH,eX,cO,aP w b o ty cs d (hc w hC) hu hd hi]
  exact⟨rfl,rfl⟩,hK _ h⟩
theorem abe (W:World):(W.alloc (.cells BL.toArray 174)).there W.heap.size 0 32:=fun j hj=>by
 have h:(W.alloc (.cells BL.toArray 174)).heap[W.heap.size]?=some (.cells (AE Aj).toArray 174 (0,0)):=AY _ _;have:0+j<(AE Aj).length:=by rw [Cp];simp [Aj];omega
 constructor
 ·simp only [World.cell?,h,YF,Ab this]
  rfl
 ·simp only [World.frozen?,h]
  simp
theorem arP {W:World} {g:Nat} {T:TypeId} {z:RG} (h:Ag W g T z):W.there g 0 (z.length*2):=fun j hj=>by
 unfold Ag at h;constructor
 ·have:0+j<(AE z).length:=by rw [Cp];omega
  simp only [World.cell?,h];simp only [YF,Ab this];rfl
 ·simp [World.frozen?,h]
theorem UH {Y w':World} {ib b10 o:Nat} {cs ds:List Value} (h1:b10<Y.heap.size) (h2:ib<Y.heap.size) (hr:Y.rangeAt b10 0 cs) (hi:Y.rangeAt ib o ds) (hf:Below Y.heap.size Y w') :
  (∀b o,b<Y.heap.size→w'.cell? ⟨b,o,none⟩=Y.cell? ⟨b,o,none⟩)∧w'.rangeAt b10 0 cs∧w'.rangeAt ib o ds∧Below Y.heap.size Y w':=
 ⟨fun b o hb=>hf.cell (p:=⟨b,o,none⟩) hb,fun j v hv=>(hf.cell (p:=⟨b10,0+j,none⟩) h1).trans (hr j v hv),fun j v hv=>(hf.cell (p:=⟨ib,o+j,none⟩) h2).trans (hi j v hv),hf⟩
theorem ng {W:World} {g:Nat} {T:TypeId} {z r:RG} (h:Ag W g T z) (hz:z.length=16) (hr:r.length=16):Ag (W.setCells g 0 (AE r)) g T r:=by
 have h1:(AE z).length=32:=by rw [Cp,hz]
 have h2:(AE r).length=32:=by rw [Cp,hr]
 unfold Ag at *;rw [fe g T (AE r) 0 W (AE z) h A0,h2,List.drop_eq_nil_of_le A0];simp
theorem Below.YO {B:Nat} {w0 w:World} (h:Below B w0 w) {b:Nat} (hb:B≤b) (o:Nat) (vs:List Value):Below B w0 (w.setCells b o vs):=by
 obtain⟨h1,h2,h3,h4⟩:=eW b vs o w;exact h.trans ⟨h1,h2,h3,by rw [h4];exact AH _,fun k hk=>UK b vs o w k A0⟩
theorem nR (r:RG):∀v∈AE r,v.oneCell'=true:=fun v hv=>by
 unfold AE at hv;obtain⟨x,_,h⟩:=TB.1 hv;simp only [Da,WS,SL] at h;rcases h with rfl|rfl<;>rfl
theorem agJ {V w:World} {ab cb rb ib pb:Nat} {bv pv:Value} {G:List AU} {B:List AB} {val:Nat→Value} {s:AS} (h:An V w ab cb rb ib pb bv pv G B val s) {k:Nat} {b:AB} (hk:B[k]?=some b) (hb:ABw B.length b) (T:CO V) :
  Calls Tryz.prog 86 #[.pointer (some ⟨ab,0,none⟩),.int .i64 (k:Int)] w fun e w'=>e=.returned (.bool (Fh b k s).2)∧An V w' ab cb rb ib pb bv pv G B val (Fh b k s).1∧Fr (Ol rb ib pb) w w':=by
 have DK:=(Bc.1 hk).1;have JZ:=h.lB;have Gl:=A3 (qY h hk hb.ne hb.f.ops (T.below h.AA));rcases hr:Dc b.code (s.AG.getD k []) with _|AX
 ·have HV:=A3 (show Fh b k s=(s,false) by unfold Fh;rw [hr])
  rw [hr] at Gl;have HA:=A3 h;clear h hr DK JZ hk hb T;go_enter Tryz.func86,Tryz.ntmps86;go_wp2_with (first|(go_at_call 87;refine Gl.out.mono ?_;rintro e w1 ⟨rfl,hb1⟩;unfold Cq)|(refine Bk rfl 174 (.tmp 5) (.tmp 17) rfl w1.heap.size (AE Aj).toArray rfl rfl 174 _ (AY _ _) (hi4 BO) (hi6 BO BO) (Ct Aj) ?_));go_ret;have bb:Below w.heap.size w ((w1.alloc (.cells BL.toArray 174)).setRow w1.heap.size (AE Aj).toArray):=Bu (hb1.alloc hb1.size _) hb1.size _;rw [HV.out];exact⟨rfl,HA.out.below bb,Fr.of bb⟩
 have CL:=A3 (TM hb.f.ops (h.El.get DK) hr);have HVR:=A3 (show Fh b k s=FU b.last b.nx AX s b.nx.length by unfold Fh;rw [hr]);rw [hr] at Gl;obtain⟨g,off,BH,nA,CX,EP,g1,g2,g3,nc,n1,n2,BK⟩:=h.nexts hk;obtain⟨n,hn⟩:=A8 B.length;obtain⟨u,hu⟩:=A8 b.nx.length;have dk:(k:Int)<(n:Int):=by omega
 have⟨HA,ER,HN,HU,HK,TU,HT,Hl⟩:=OI h BK hn hu hk hb T EP;have hul:u≤1000:=by rw [←hu];exact hb.Gf
 rw [hn] at JZ g1;rw [hu] at nc n1;have HNC:=A3 nc;clear h hr BK hn hu hk hb T EP nc DK;go_enter Tryz.func86,Tryz.ntmps86;go_upto_region 2 with (first|(go_at_call 87;refine Gl.out.mono ?_;rintro e w1 ⟨rfl,hb1⟩;unfold Cq)|(refine Bk rfl 174 (.tmp 5) (.tmp 17) rfl w1.heap.size (AE AX).toArray rfl rfl 174 _ (AY _ _) (hi4 CL.out.len) (hi6 CL.out.len BO) (Ct AX) ?_));obtain⟨X,hX⟩:=A8 ((w1.alloc (.cells BL.toArray 174)).setRow w1.heap.size (AE AX).toArray);rw [hX];have bX:Below w.heap.size w X:=hX▸Bu (hb1.alloc hb1.size _) hb1.size _;have kX:Ag X w1.heap.size 174 AX:=hX▸Ag.row (z:=Aj) (AY _ _);obtain⟨b5,hb5⟩:=A8 w1.heap.size;have L5:=A3 (show w.heap.size≤b5 by rw [←hb5];exact hb1.size);rw [hb5] at kX;rw [hb5];have HAX:=A3 (HA.out.below bX);have Tz:=HAX.out.AA;have l1:ab<X.heap.size:=HAX.out.lt.1;have lg:g<X.heap.size:=by have:=Tz.size;omega
 have c0:X.cell? ⟨ab,0,none⟩=some (.slice (some ⟨g,off,none⟩) n BH):=by rw [HAX.out.cells.1,Hl.out,HN.out]
 have c1:X.cell? ⟨g,off+k*3+2,none⟩=some (.slice nA u CX):=(Tz.cell (p:=⟨g,off+k*3+2,none⟩) g3).trans HNC.out;have⟨BX,KX⟩:=AQ bX kX;clear hX bX kX hb5 hb1 Tz;go_upto_region 6 with fail;clear c0 c1 l1 lg;go_loopw [7,31] (fun a7 a31 wr=>∃j:Nat,j≤u∧a31=.int .i64 (j:Int)∧a7=.bool (FU b.last b.nx AX s j).2∧An V wr ab cb rb ib pb bv pv G B val (FU b.last b.nx AX s j).1∧Fr (Ol rb ib pb) w wr∧Ag wr b5 174 AX) (fun _ a31 _=>u - (intOf a31).toNat);case atStart=>exact⟨0,by omega,rfl,rfl,HAX.out,Fr.of BX.out,KX.out⟩
 case round=>
  obtain⟨j,hj,rfl,rfl,Vs,hFr,hkb⟩:=hrel;have⟨WR,KB,Dq⟩:=Bh hFr hkb hkb.range;clear hFr hkb;by_cases hlt:j<u
  ·have dl:decide ((j:Int)<(u:Int))=true:=Ac A0
   obtain⟨t,ht⟩:∃t,b.nx[j]?=some t:=⟨_,Ab (by rw [HU.out];exact hlt)⟩;obtain⟨nb,Fy,rfl,hnb,Mf⟩:=ER.out j t ht;have htb:=TU.out.nx t (Bj ht);rw [HN.out] at htb;obtain⟨tn,rfl⟩:∃tn:Nat,t=(tn:Int):=⟨t.toNat,by omega⟩;have htn:tn<n:=by omega
   have dt:(tn:Int)<(n:Int):=by omega
   have hD:=A3 (show (b.nx.getD j 0).toNat=tn by simp [List.getD,ht]);have Tz:=Vs.AA;have x0:wr.cell? ⟨nb,Fy+j,none⟩=some (.int .i64 (tn:Int)):=(Tz.cell (p:=⟨nb,Fy+j,none⟩) hnb).trans Mf;obtain⟨sj,hsj⟩:=A8 (FU b.last b.nx AX s j);rw [hsj] at Vs;rw [hsj];have⟨Gd,Nr⟩:=AQ (mY Vs HK.out TU.out.ne TU.out.Gf TU.out.f.op j AX CL.out (HT.out.below Tz)) Vs;have hst:=amd b.last b.nx AX s j;rw [hsj,hD.out] at hst;clear ht Mf htb Tz Vs hsj;rcases he:ES b.last b.nx.length j AX with _|r
   ·rw [he] at Gd hst
    have HST:=A3 hst;clear he hst;go_wp2_with (first|(refine DR rfl _ _ rfl _ _ rfl (AE AX) _ Dq.out BI rfl (hi3 CL.out.len) ?_)|(go_at_call 88;refine Gd.out.mono ?_;rintro e w2 ⟨rfl,hb2⟩;unfold Cq)|(refine Bk rfl 174 (.tmp 10) (.tmp 42) rfl w2.heap.size (AE Aj).toArray rfl rfl 174 _ (AY _ _) (hi4 BO) (hi6 BO BO) (Ct Aj) ?_));go_roundw;case rel=>
     have bb:Below wr.heap.size wr ((w2.alloc (.cells BL.toArray 174)).setRow w2.heap.size (AE Aj).toArray):=Bu (hb2.alloc hb2.size _) hb2.size _;refine⟨j+1,by omega,by go_num,?_,?_,WR.out.trans (Fr.of bb),KB.out.keep bb⟩
     ·rw [HST.out];simp [Ew]
     ·rw [HST.out];exact Nr.out.below bb
    case measure=>exact Ai
   ·rw [he] at Gd hst
    have⟨HST,R16⟩:=AQ hst (XJ CL.out he);clear he hst;go_upto_region 10 with (first|(refine DR rfl _ _ rfl _ _ rfl (AE AX) _ Dq.out BI rfl (hi3 CL.out.len) ?_)|(go_at_call 88;refine Gd.out.mono ?_;rintro e w2 ⟨rfl,hb2⟩;unfold Cq)|(refine Bk rfl 174 (.tmp 10) (.tmp 42) rfl w2.heap.size (AE r).toArray rfl rfl 174 _ (AY _ _) (hi4 R16.out.len) (hi6 R16.out.len BO) (Ct r) ?_));obtain⟨Y,hY⟩:=A8 ((w2.alloc (.cells BL.toArray 174)).setRow w2.heap.size (AE r).toArray);rw [hY];have bY:Below wr.heap.size wr Y:=hY▸Bu (hb2.alloc hb2.size _) hb2.size _;have kY:Ag Y w2.heap.size 174 r:=hY▸Ag.row (z:=Aj) (AY _ _);obtain⟨b10,Rx⟩:=A8 w2.heap.size;rw [Rx] at kY;rw [Rx];have L10:=A3 (show wr.heap.size≤b10 by rw [←Rx];exact hb2.size);have⟨KR,J5,BY⟩:=Bh kY (Nr.out.below bY) bY;obtain⟨y1,y2,y3,y4,y5⟩:=J5.out.lt;obtain⟨-,-,v2,v3,v4⟩:=J5.out.cells;rw [HN.out] at v2 v3 v4;obtain⟨v5,v5f⟩:=J5.out.Zh (t:=tn) MN;have l10:b10<Y.heap.size:=kY.lt;clear hY bY kY Rx hb2 x0;rcases Il:sj.1.reach.getD tn false with _|_
    ·rw [Il] at v5
     have J8:=A3 Il;clear Il;go_upto_region 11 with fail;obtain⟨ne1,ne2,ne3,-,-,-,ne7,ne8,ne9⟩:=J5.out.ne;have hq:=Nr.out.lt;have nb1:b10≠rb:=by have:=L10.out;omega
     have nb2:b10≠ib:=by have:=L10.out;omega
     have O6:=KR.out.range;have PJ:=J5.out.there (t:=tn) MN;have ZG:=BI;have Un:(Tryz.prog.info? 174).map (·.size)=some (AE r).length:=hi3 R16.out.len;have cK:(AE r).length=32:=by rw [Cp,R16.out.len]
     have Xo:=nR r;go_cut [5] from 54 to 66 (fun a5 wx=>a5=.pointer (some ⟨b5,0,none⟩)∧∃wy,Below Y.heap.size Y wy∧wx=(wy.setCell ⟨rb,tn,none⟩ (.bool true)).setCells ib (tn*32) (AE r))
     case first=>
      go_region_held3 (fun w'=>(∀b o,b<Y.heap.size→b≠rb→b≠ib→w'.cell? ⟨b,o,none⟩=Y.cell? ⟨b,o,none⟩)∧w'.rangeAt b10 0 (AE r)∧w'.there ib (tn*32) 32∧Fr (fun k=>k=rb∨k=ib) Y w') ((exact wj l10 nb1 nb2 O6 (by (repeat (first|(with_reducible exact Fr.refl _ _)|(with_reducible refine Fr.drew ?_)|(with_reducible refine Fr.set ?_ _ (.inl AR))|(with_reducible refine Fr.setCells ?_ _ (.inl AR))))) (by (repeat (first|(with_reducible exact PJ)|(with_reducible refine there_drew ?_)|(with_reducible refine ap3 ?_)|(with_reducible refine World.there_setCells ?_ _ _ _)))))) (fail)
      all_goals (go_wp2_with fail;go_meet)
      case rel=>exact⟨rfl,Y.drew,Dl (AV _ _),rfl⟩
     case rest=>
      obtain⟨rfl,wy,hby,hwy⟩:=hcut;obtain⟨hA1,hF1⟩:=J5.out.first hby MN R16.out J8.out;rw [←hwy] at hA1 hF1;obtain⟨W3,hW3⟩:∃W3:World,W3=wc:=⟨_,rfl⟩;subst hW3;have⟨HA1,HF1⟩:=AQ hA1 hF1;have KB3:=A3 (show Ag W3 b5 174 AX from (hF1.block b5 (by have:=(KB.out.keep BY.out).lt;exact this) qL).trans (KB.out.keep BY.out));clear hwy hby hA1 hF1 O6 PJ ZG Un cK Xo hq v2 v3 v4 v5 v5f;go_wp2_with fail;go_roundw;case rel=>
       have e2:(Ew sj.1 tn (some r)).2=true:=by unfold Ew;simp only;rw [A9 J8.out]
       refine⟨j+1,by omega,by go_num,?_,?_,(WR.out.trans (Fr.of BY.out)).trans HF1.out,KB3.out⟩
       ·rw [HST.out,e2];simp
       ·rw [HST.out];exact HA1.out
      case measure=>exact Ai
    ·rw [Il] at v5
     have J8:=A3 Il;clear Il;go_upto_region 13 with fail;obtain⟨ne1,ne2,ne3,-,-,-,ne7,ne8,ne9⟩:=J5.out.ne;obtain⟨cur,cH⟩:=A8 (sj.1.AG.getD tn []);have c16:Go.Proofs.YtlmgkipmfgijiaaGreatDoor.R16 cur:=by rw [←cH];exact J5.out.El.get MN
     have MM:=J5.out.FV (t:=tn) MN;rw [cH] at MM;have⟨TD,YG⟩:=AQ c16 cH;have O6:=KR.out.range;have oz:∀W:World,(W.alloc (.cells BL.toArray 174)).there W.heap.size 0 32:=abe;obtain⟨jr,OW⟩:=A8 (List.zipWith Cc cur r);have j16:Go.Proofs.YtlmgkipmfgijiaaGreatDoor.R16 jr:=by rw [←OW];exact c16.join R16.out
     have⟨HJ,O1⟩:=AQ (show Cb cur r=jr from OW) j16;have PI:=fun W=>dH 105 Cc (fun _ _=>by kernel_rfl) iF cur r c16.len R16.out.len W;rw [OW] at PI;have Sd:=A3 PI;have ZG:=BI;have Un:(Tryz.prog.info? 174).map (·.size)=some (AE r).length:=hi3 R16.out.len;have td:(Tryz.prog.info? 174).map (·.size)=some (AE cur).length:=hi3 c16.len;have qi:(Tryz.prog.info? 174).map (·.size)=some (AE jr).length:=hi3 j16.len;have cK:(AE jr).length=32:=by rw [Cp,j16.len]
     have Xo:=nR jr;clear cH c16 OW j16 PI;go_cut [12] from 67 to 75 (fun a12 wx=>∃g,a12=.pointer (some ⟨g,0,none⟩)∧Y.heap.size≤g∧Ag wx g 174 jr∧Below Y.heap.size Y wx)
     case first=>
      refine r8 (S:=fun w'=>(∀b o,b<Y.heap.size→w'.cell? ⟨b,o,none⟩=Y.cell? ⟨b,o,none⟩)∧w'.rangeAt b10 0 (AE r)∧w'.rangeAt ib (tn*32) (AE cur)∧Below Y.heap.size Y w') A4 ?_ (fun hHeld=>?_)
      ·exact UH l10 y4 O6 MM (by (repeat (first|(with_reducible assumption)|(with_reducible exact AV _ _)|(with_reducible refine Dl ?_)|(with_reducible refine MU ?_ cM _)|(with_reducible refine Below.YO ?_ (by first|exact AH _|omega|(simp;done)|(simp;omega)) _ _))))
      refine Bf (i:=0) (oi:=_) (v:=?_) rfl A4 A4 A4 (fun _ _ _ h=>h) (CZ ⟨by rfl,?_⟩) hHeld ?_;rotate_left
      ·intro w hSw
       (try dsimp only at hSw);go_simp
       (try with_reducible rfl)
      (try simp only [Az,B9,BB,Act.put,Ax,B8,Aw]);refine Bf (i:=1) (oi:=_) (v:=?_) rfl A4 A4 A4 (fun _ _ _ h=>h) (CZ ⟨by rfl,?_⟩) hHeld ?_;rotate_left
      ·intro w hSw
       (try dsimp only at hSw);go_simp
       (try with_reducible rfl)
      (try simp only [Az,B9,BB,Act.put,Ax,B8,Aw]);refine Bf (i:=2) (oi:=_) (v:=?_) rfl A4 A4 A4 (fun _ _ _ h=>h) (CZ ⟨by rfl,?_⟩) hHeld ?_;rotate_left
      ·intro w hSw
       (try dsimp only at hSw);go_simp
       (try with_reducible rfl)
      (try simp only [Az,B9,BB,Act.put,Ax,B8,Aw]);refine Bf (i:=3) (oi:=_) (v:=?_) rfl A4 A4 A4 (fun _ _ _ h=>h) (CZ ⟨by rfl,?_⟩) hHeld ?_;rotate_left
      ·intro w hSw
       (try dsimp only at hSw);go_simp
       (try with_reducible rfl)
      (try simp only [Az,B9,BB,Act.put,Ax,B8,Aw]);refine Bf (i:=4) (oi:=_) (v:=?_) rfl A4 A4 A4 (fun _ _ _ h=>h) (CZ ⟨by rfl,?_⟩) hHeld ?_;rotate_left
      ·intro w hSw
       (try dsimp only at hSw);go_simp
       (try with_reducible rfl)
      (try simp only [Az,B9,BB,Act.put,Ax,B8,Aw]);refine Bf (i:=5) (oi:=_) (v:=?_) rfl A4 A4 A4 (fun _ _ _ h=>h) (CZ ⟨by rfl,?_⟩) hHeld ?_;rotate_left
      ·intro w hSw
       (try dsimp only at hSw);go_simp
       (try with_reducible rfl)
      (try simp only [Az,B9,BB,Act.put,Ax,B8,Aw]);refine Bf (i:=6) (oi:=_) (v:=_) rfl A4 A4 A4 (fun _ _ _ h=>h) (yieldsIf_load_mid (by rfl) _ _ rfl _ _ rfl (AE cur) _ (fun w hSw=>hSw.2.2.1) ZG rfl td) hHeld ?_;(try simp only [Az,B9,BB,Act.put,Ax,B8,Aw]);refine Bf (i:=7) (oi:=_) (v:=_) rfl A4 A4 A4 (fun _ _ _ h=>h) (yieldsIf_load_mid (by rfl) _ _ rfl _ _ rfl (AE r) _ (fun w hSw=>hSw.2.1) ZG rfl Un) hHeld ?_;(try simp only [Az,B9,BB,Act.put,Ax,B8,Aw]);have rF:(AE jr).toArray.size=32:=by rw [Ig];exact cK
      have tL:(Tryz.prog.info? 174).map (·.size)=some (AE jr).toArray.size:=by rw [Ig];exact qi
      refine RD (rs:=[8,9]) A4 AR ?_;refine QK (o:=_) rfl (fun K hK=>?_) ?_
      ·go_simp
       go_at_call 104
       refine (Sd.out _).mono ?_;rintro e w3 ⟨rfl,hb3⟩;have hk3:Below Y.heap.size Y w3:=Below.trans (Dl (AV _ _)) (Below.mono hb3 (AH _));refine hK.out _ _ (UH l10 y4 O6 MM hk3) (fun hHeld=>?_);clear hK K;(try simp only [Az,B9,BB,Act.put,Ax,B8,Aw]);refine RD (rs:=[9]) A4 AR ?_;refine QK (o:=_) rfl (fun K hK=>?_) S4;go_simp
       refine hK.out _ _ (UH l10 y4 O6 MM (hk3.alloc hk3.size _)) (fun hHeld=>?_);clear hK K;(try simp only [Az,B9,BB,Act.put,Ax,B8,Aw]);refine RD (rs:=[10]) A4 AR ?_;refine QK (o:=_) rfl (fun K hK=>?_) S4;rw [A9 (by rfl)];refine wp_store_mid _ _ _ rfl _ _ (AE jr).toArray rfl rfl (by rw [rF];exact oz w3) tL (qw Xo) ?_;refine hK.out _ _ (UH l10 y4 O6 MM (Below.YO (hk3.alloc hk3.size _) hk3.size _ _)) (fun hHeld=>?_);clear hK K;(try simp only [Az,B9,BB,Act.put,Ax,B8,Aw]);refine wpAnyH_done A4 ?_ _;go_wp2_with fail;go_meet;case rel=>exact⟨_,rfl,hk3.size,ng (z:=Aj) (AY _ _) BO O1.out.len,Below.YO (hk3.alloc hk3.size _) hk3.size _ _⟩
      refine QK (o:=_) rfl (fun K hK=>?_) S4;go_simp
      have hk2:Below Y.heap.size Y (Y.drew.alloc (.cells BL.toArray 174)):=(Dl (AV _ _)).alloc (AH _) _;refine hK.out _ _ (UH l10 y4 O6 MM hk2) (fun hHeld=>?_);clear hK K;(try simp only [Az,B9,BB,Act.put,Ax,B8,Aw]);refine RD (rs:=[8]) A4 AR ?_;refine QK (o:=_) rfl (fun K hK=>?_) S4;go_simp
      go_at_call 104
      refine (Sd.out _).mono ?_;rintro e w3 ⟨rfl,hb3⟩;have hk3:Below Y.heap.size Y w3:=hk2.trans (hb3.mono hk2.size);have hz3:Ag w3 Y.heap.size 174 Aj:=(hb3.block _ AR).trans (AY Y.drew _);refine hK.out _ _ (UH l10 y4 O6 MM hk3) (fun hHeld=>?_);clear hK K;(try simp only [Az,B9,BB,Act.put,Ax,B8,Aw]);refine RD (rs:=[10]) A4 AR ?_;refine QK (o:=_) rfl (fun K hK=>?_) S4;rw [A9 (by rfl)];refine wp_store_mid _ _ _ rfl _ _ (AE jr).toArray rfl rfl (by rw [rF];exact arP hz3) tL (qw Xo) ?_;refine hK.out _ _ (UH l10 y4 O6 MM (Below.YO hk3 (AH _) _ _)) (fun hHeld=>?_);clear hK K;(try simp only [Az,B9,BB,Act.put,Ax,B8,Aw]);refine wpAnyH_done A4 ?_ _;go_wp2_with fail;go_meet;case rel=>exact⟨_,rfl,AH _,ng hz3 BO O1.out.len,Below.YO hk3 (AH _) _ _⟩
     obtain⟨g2,rfl,hg2,kg2,bg2⟩:=hcut;obtain⟨W4,hW4⟩:∃W4:World,W4=wc:=⟨_,rfl⟩;subst hW4;clear O6 MM oz ZG Un td qi cK Xo;have HA4:=A3 (J5.out.below bg2);obtain⟨q1,q2,q3,q4,q5⟩:=HA4.out.lt;obtain⟨-,-,p2,p3,p4⟩:=HA4.out.cells;rw [HN.out] at p2 p3 p4;have MM:=HA4.out.FV (t:=tn) MN;rw [YG.out] at MM;have⟨KG,BG,Lr⟩:=Bh kg2 bg2 MM;have LDA:=A3 (show ∀w',(∃x:Ext W4,w'=x.w)→w'.rangeAt g2 0 (AE jr) from by rintro _ ⟨x,rfl⟩;exact (KG.out.keep x.h).range);have LDB:=A3 (show ∀w',(∃x:Ext W4,w'=x.w)→w'.rangeAt ib (tn*32) (AE cur) from by rintro _ ⟨x,rfl⟩;exact fun j v hv=>(x.h.cell (p:=⟨ib,tn*32+j,none⟩) q4).trans (Lr.out j v hv));clear kg2 bg2 MM v2 v3 v4 v5 v5f;go_upto_region 14 with fail;by_cases NN:jr=cur
     ·have heq:∀w,(binOp .eql 174 (.agg (AE jr).toArray) (.agg (AE cur).toArray)).run Tryz.prog w=.ok (.bool true) w:=fun w=>by
       have:=uP O1.out.len TD.out.len w
       rwa [show decide (jr=cur)=true from Ac NN] at this
      have HE:=A3 (show Ew sj.1 tn (some r)=(sj.1,false) by
       unfold Ew;simp only
       rw [A6 (by rw [J8.out];simp),A9 (by rw [YG.out,HJ.out];exact NN)])
      clear NN;refine C7 A4 A4 ?_;repeat (first|(refine Sg JU _ _ rfl _ _ rfl (AE jr) _ LDA.out BI rfl (hi3 O1.out.len) ?_;(try simp only [Az,B9,BB,Act.put,Ax,B8,Aw]))|(refine Sg JU _ _ rfl _ _ rfl (AE cur) _ LDB.out BI rfl (hi3 TD.out.len) ?_;(try simp only [Az,B9,BB,Act.put,Ax,B8,Aw]))|(go_big_quiet_step (fail)))
      refine BD ?_;rintro _ ⟨x2,rfl⟩;go_wp2_with fail;go_roundw;case rel=>
       have bb:Below wr.heap.size wr x2.w:=BY.out.trans ((BG.out.trans (x2.h.mono BG.out.size)).mono BY.out.size);refine⟨j+1,by omega,by go_num,?_,?_,WR.out.trans (Fr.of bb),KB.out.keep bb⟩
       ·rw [HST.out,HE.out];simp
       ·rw [HST.out,HE.out];exact Nr.out.below bb
      case measure=>exact Ai
     ·have heq:∀w,(binOp .eql 174 (.agg (AE jr).toArray) (.agg (AE cur).toArray)).run Tryz.prog w=.ok (.bool false) w:=fun w=>by
       have:=uP O1.out.len TD.out.len w
       rwa [show decide (jr=cur)=false from Ad NN] at this
      have KL:=A3 (show Cb (sj.1.AG.getD tn []) r≠sj.1.AG.getD tn [] by rw [YG.out,HJ.out];exact NN);clear NN;refine C7 A4 A4 ?_;repeat (first|(refine Sg JU _ _ rfl _ _ rfl (AE jr) _ LDA.out BI rfl (hi3 O1.out.len) ?_;(try simp only [Az,B9,BB,Act.put,Ax,B8,Aw]))|(refine Sg JU _ _ rfl _ _ rfl (AE cur) _ LDB.out BI rfl (hi3 TD.out.len) ?_;(try simp only [Az,B9,BB,Act.put,Ax,B8,Aw]))|(go_big_quiet_step (fail)))
      refine BD ?_;rintro _ ⟨x2,rfl⟩;obtain⟨p6,p6f⟩:=HA4.out.VX (t:=tn) MN;have Zn:=HA4.out.El.VX (t:=tn) MN;obtain⟨rp,Qq⟩:=A8 (sj.1.rep.getD tn 0);rw [Qq] at p6 Zn;have IV:=A3 Qq;have aun:rp≤70000000:=by rw [HN.out] at Zn;omega
      have wrp:IntKind.i64.wrap (rp+1)=rp+1:=Dn _ A0;clear Qq Zn;by_cases hge:2≤rp
      ·have dge:decide (2≤rp)=true:=Ac hge
       obtain⟨nr,Qe⟩:=A8 (List.zipWith Bi cur jr);have n16:Go.Proofs.YtlmgkipmfgijiaaGreatDoor.R16 nr:=by rw [←Qe];exact TD.out.Xg O1.out
       have hcw:=fun W=>dH 106 Bi (fun _ _=>by kernel_rfl) xZ cur jr TD.out.len O1.out.len W;rw [Qe] at hcw;have⟨HCW,Q2⟩:=AQ hcw n16;have HNR:=A3 (show (if 2≤sj.1.rep.getD tn 0 then Hw (sj.1.AG.getD tn []) (Cb (sj.1.AG.getD tn []) r) else Cb (sj.1.AG.getD tn []) r)=nr by rw [IV.out,A9 hge,YG.out,HJ.out];exact Qe);clear hcw n16 Qe hge;go_upto_region 16 with fail;refine YI 9 A4 A4 ?_;simp only [Fp,List.take_zero,G0,List.drop_zero];repeat (first|(refine Sg JU _ _ rfl _ _ rfl (AE jr) _ LDA.out BI rfl (hi3 O1.out.len) ?_;(try simp only [Az,B9,BB,Act.put,Ax,B8,Aw]))|(refine Sg JU _ _ rfl _ _ rfl (AE cur) _ LDB.out BI rfl (hi3 TD.out.len) ?_;(try simp only [Az,B9,BB,Act.put,Ax,B8,Aw]))|(go_big_quiet_step (exact Calls.AW (HCW.out _))))
       refine BD ?_;rintro _ ⟨x3,rfl⟩;go_upto_region 17 with (refine Bk rfl 174 (.tmp 12) (.tmp 101) rfl g2 (AE nr).toArray rfl rfl 174 _ (KG.out.keep x3.h) (hi4 Q2.out.len) (hi6 Q2.out.len O1.out.len) (Ct nr) ?_);obtain⟨Z1,QF⟩:=A8 (x3.w.setRow g2 (AE nr).toArray);rw [QF];(try simp only [Act.put]);have Tg:Below Y.heap.size Y Z1:=QF▸Bu (BG.out.trans (x3.h.mono BG.out.size)) hg2 _;have TL:Ag Z1 g2 174 nr:=QF▸Ag.row (KG.out.keep x3.h);clear QF heq dge;have OV:=A3 (J5.out.below Tg);obtain⟨r1,r2,r3,r4,r5⟩:=OV.out.lt;obtain⟨-,-,-,s3,s4⟩:=OV.out.cells;rw [HN.out] at s3 s4;have⟨KZ1,BZ1⟩:=AQ TL Tg;have lg2:g2<Z1.heap.size:=TL.lt;have LDC:=A3 (show ∀w',(∃x:Ext Z1,w'=x.w)→w'.rangeAt g2 0 (AE nr) from by rintro _ ⟨x,rfl⟩;exact (KZ1.out.keep x.h).range);clear TL Tg p2 p3 p4 p6 p6f q1 q2 q3 q4 q5;refine KA 6 A4 A4 ?_;simp only [Fp,List.take_zero,G0,List.drop_zero];repeat (first|(refine Sg JU _ _ rfl _ _ rfl (AE nr) _ LDC.out BI rfl (hi3 Q2.out.len) ?_;(try simp only [Az,B9,BB,Act.put,Ax,B8,Aw]))|(go_big_quiet_step (fail)))
       refine BD ?_;rintro _ ⟨x4,rfl⟩;have HTH:=A3 (show x4.w.there ib (tn*32) (AE nr).toArray.size by
        rw [Ig,Cp,Q2.out.len]
        exact ((OV.out.below x4.h).there MN))
       go_upto_region 18 with (refine wpList_store_mid rfl 174 (.tmp 108) (.tmp 107) rfl ib (tn*32) (AE nr).toArray rfl rfl HTH.out (hi4 Q2.out.len) (Ct nr) ?_);(try simp only [Act.put]);have bx4:Below Y.heap.size Y x4.w:=BZ1.out.trans (x4.h.mono BZ1.out.size);obtain⟨OS,QI⟩:=J5.out.again bx4 MN R16.out J8.out KL.out;rw [HNR.out,IV.out] at OS QI;obtain⟨Z2,Kw⟩:=A8 (x4.w.setCells ib (tn*32) (AE nr));rw [Kw] at OS QI;have f2:Fr (fun k=>k=ib) Z1 Z2:=Kw▸(Fr.of x4.h).setCells _ (.inl rfl);rw [show x4.w.setCells ib (tn*32) (AE nr).toArray.toList=Z2 from Kw];obtain⟨m1,m2,m3,-,-,-,m7,m8,m9⟩:=OV.out.ne;have t4:Z2.cell? ⟨ab,5,none⟩=_:=(f2.cell 5 r1 m2).trans s4;obtain⟨p7,Ub⟩:=OV.out.VX (t:=tn) MN;rw [IV.out] at p7;have t6:Z2.cell? ⟨pb,tn,none⟩=some (.int .i64 rp):=(f2.cell tn r5 (fun e=>m9 e.symm)).trans p7;have t7:Z2.frozen? ⟨pb,tn,none⟩=false:=by
        have e:=f2.block pb r5 (fun e=>m9 e.symm);unfold World.frozen? at Ub ⊢;rw [e];exact Ub
       have u1:ab<Z2.heap.size:=by have:=f2.size;omega
       have u5:pb<Z2.heap.size:=by have:=f2.size;omega
       have⟨HA5,HF5,KBY⟩:=Bh OS QI (KB.out.keep BY.out);clear Kw OS QI f2 bx4 s3 s4 p7 Ub;go_wp2_with fail;go_roundw;case rel=>
        have e2:(Ew sj.1 tn (some r)).2=true:=by unfold Ew;simp only;rw [A6 (by rw [J8.out];simp),A6 KL.out]
        refine⟨j+1,by omega,by go_num,?_,?_,(WR.out.trans (Fr.of BY.out)).trans HF5.out,(HF5.out.block b5 KBY.out.lt qL).trans KBY.out⟩
        ·rw [HST.out,e2];simp
        ·rw [HST.out];exact HA5.out
       case measure=>exact Ai
      ·have dge:decide (2≤rp)=false:=Ad hge
       obtain⟨nr,Qe⟩:=A8 jr;have Q2:=A3 (show Go.Proofs.YtlmgkipmfgijiaaGreatDoor.R16 nr from Qe▸O1.out);have HNR:=A3 (show (if 2≤sj.1.rep.getD tn 0 then Hw (sj.1.AG.getD tn []) (Cb (sj.1.AG.getD tn []) r) else Cb (sj.1.AG.getD tn []) r)=nr by rw [IV.out,A6 hge,YG.out,HJ.out];exact Qe);have uL:Ag x2.w g2 174 nr:=Qe▸KG.out.keep x2.h;clear Qe hge;go_upto_region 17 with fail;obtain⟨Z1,QF⟩:=A8 x2.w;rw [QF];have Tg:Below Y.heap.size Y Z1:=QF▸(BG.out.trans (x2.h.mono BG.out.size));have TL:Ag Z1 g2 174 nr:=QF▸uL;clear QF uL heq dge;have OV:=A3 (J5.out.below Tg);obtain⟨r1,r2,r3,r4,r5⟩:=OV.out.lt;obtain⟨-,-,-,s3,s4⟩:=OV.out.cells;rw [HN.out] at s3 s4;have⟨KZ1,BZ1⟩:=AQ TL Tg;have lg2:g2<Z1.heap.size:=TL.lt;have LDC:=A3 (show ∀w',(∃x:Ext Z1,w'=x.w)→w'.rangeAt g2 0 (AE nr) from by rintro _ ⟨x,rfl⟩;exact (KZ1.out.keep x.h).range);clear TL Tg p2 p3 p4 p6 p6f q1 q2 q3 q4 q5;refine KA 6 A4 A4 ?_;simp only [Fp,List.take_zero,G0,List.drop_zero];repeat (first|(refine Sg JU _ _ rfl _ _ rfl (AE nr) _ LDC.out BI rfl (hi3 Q2.out.len) ?_;(try simp only [Az,B9,BB,Act.put,Ax,B8,Aw]))|(go_big_quiet_step (fail)))
       refine BD ?_;rintro _ ⟨x4,rfl⟩;have HTH:=A3 (show x4.w.there ib (tn*32) (AE nr).toArray.size by
        rw [Ig,Cp,Q2.out.len]
        exact ((OV.out.below x4.h).there MN))
       go_upto_region 18 with (refine wpList_store_mid rfl 174 (.tmp 108) (.tmp 107) rfl ib (tn*32) (AE nr).toArray rfl rfl HTH.out (hi4 Q2.out.len) (Ct nr) ?_);(try simp only [Act.put]);have bx4:Below Y.heap.size Y x4.w:=BZ1.out.trans (x4.h.mono BZ1.out.size);obtain⟨OS,QI⟩:=J5.out.again bx4 MN R16.out J8.out KL.out;rw [HNR.out,IV.out] at OS QI;obtain⟨Z2,Kw⟩:=A8 (x4.w.setCells ib (tn*32) (AE nr));rw [Kw] at OS QI;have f2:Fr (fun k=>k=ib) Z1 Z2:=Kw▸(Fr.of x4.h).setCells _ (.inl rfl);rw [show x4.w.setCells ib (tn*32) (AE nr).toArray.toList=Z2 from Kw];obtain⟨m1,m2,m3,-,-,-,m7,m8,m9⟩:=OV.out.ne;have t4:Z2.cell? ⟨ab,5,none⟩=_:=(f2.cell 5 r1 m2).trans s4;obtain⟨p7,Ub⟩:=OV.out.VX (t:=tn) MN;rw [IV.out] at p7;have t6:Z2.cell? ⟨pb,tn,none⟩=some (.int .i64 rp):=(f2.cell tn r5 (fun e=>m9 e.symm)).trans p7;have t7:Z2.frozen? ⟨pb,tn,none⟩=false:=by
        have e:=f2.block pb r5 (fun e=>m9 e.symm);unfold World.frozen? at Ub ⊢;rw [e];exact Ub
       have u1:ab<Z2.heap.size:=by have:=f2.size;omega
       have u5:pb<Z2.heap.size:=by have:=f2.size;omega
       have⟨HA5,HF5,KBY⟩:=Bh OS QI (KB.out.keep BY.out);clear Kw OS QI f2 bx4 s3 s4 p7 Ub;go_wp2_with fail;go_roundw;case rel=>
        have e2:(Ew sj.1 tn (some r)).2=true:=by unfold Ew;simp only;rw [A6 (by rw [J8.out];simp),A6 KL.out]
        refine⟨j+1,by omega,by go_num,?_,?_,(WR.out.trans (Fr.of BY.out)).trans HF5.out,(HF5.out.block b5 KBY.out.lt qL).trans KBY.out⟩
        ·rw [HST.out,e2];simp
        ·rw [HST.out];exact HA5.out
       case measure=>exact Ai
  ·obtain rfl:j=u:=by omega
   have dl:decide ((j:Int)<(j:Int))=false:=by simp
   go_wp2_with fail;go_ret;have e:=HVR.out;rw [HU.out] at e;rw [e];exact⟨rfl,Vs,WR.out⟩
def BR (cd:Nat→Int) (G:List AU):List AB:=G.map fun x=>⟨codeFrom cd x.lo (x.hi - x.lo).toNat,x.nx⟩
structure M6 (n:Nat) (cd:Nat→Int) (G:List AU) (x:AU):Prop where
 lo:0≤x.lo
 lt:x.lo<x.hi
 Gf:x.nx.length≤1000
 nx:∀t∈x.nx,0≤t∧t<(G.length:Int)
 MK:∀a:Nat,x.lo≤(a:Int)→(a:Int)<x.hi→a<n∧(Ba (cd a)).2=0∧0≤(AK cd (a:Int)).op
theorem SZ (cd:Nat→Int) (lo:Int) (m:Nat):(codeFrom cd lo m).length=m:=by simp [codeFrom]
theorem dZ (cd:Nat→Int) (G:List AU):(BR cd G).length=G.length:=by simp [BR]
theorem Zs {cd:Nat→Int} {G:List AU} {k:Nat} {b:AB} (h:(BR cd G)[k]?=some b):∃x,G[k]?=some x∧b=⟨codeFrom cd x.lo (x.hi - x.lo).toNat,x.nx⟩:=by
 unfold BR at h;rw [D8] at h;cases hx:G[k]? with
 | none=>rw [hx] at h;cases h
 | some x=>rw [hx] at h;cases h;exact⟨x,rfl,rfl⟩
theorem M6.abw {n:Nat} {cd:Nat→Int} {G:List AU} {x:AU} (h:M6 n cd G x):ABw G.length ⟨codeFrom cd x.lo (x.hi - x.lo).toNat,x.nx⟩:=by
 have hm:0<(x.hi - x.lo).toNat:=by have:=h.lt;omega
 have Mu:∀i∈codeFrom cd x.lo (x.hi - x.lo).toNat,0≤i.op:=fun i hi=>by
  unfold codeFrom at hi;obtain⟨j,hj,rfl⟩:=C5.1 hi;have hj:=Gp.1 hj;have h0:=h.lo;have:=(h.MK (x.lo.toNat+j) A0 A0).2.2
  rwa [show ((x.lo.toNat+j:Nat):Int)=x.lo+(j:Int) by omega] at this
 have hne:codeFrom cd x.lo (x.hi - x.lo).toNat≠[]:=by
  intro e;have:=SZ cd x.lo (x.hi - x.lo).toNat;rw [e] at this;simp at this;omega
 refine⟨⟨⟨Mu,h.nx⟩,?_,Mu⟩,hne,h.Gf,h.nx⟩;unfold AB.last;have hl:(codeFrom cd x.lo (x.hi - x.lo).toNat).length - 1<(codeFrom cd x.lo (x.hi - x.lo).toNat).length:=by rw [SZ];omega
 have e:(codeFrom cd x.lo (x.hi - x.lo).toNat).getD ((codeFrom cd x.lo (x.hi - x.lo).toNat).length - 1) ⟨0,0,0,0,0⟩=(codeFrom cd x.lo (x.hi - x.lo).toNat)[(codeFrom cd x.lo (x.hi - x.lo).toNat).length - 1]:=by simp [List.getD,Ab hl]
 show 0≤((codeFrom cd x.lo (x.hi - x.lo).toNat).getD ((codeFrom cd x.lo (x.hi - x.lo).toNat).length - 1) ⟨0,0,0,0,0⟩).op;rw [e];exact Mu _ (CQ _)
theorem pS {X w':World} (hf:Below X.heap.size X w'):(∀b o,b<X.heap.size→w'.cell? ⟨b,o,none⟩=X.cell? ⟨b,o,none⟩)∧Below X.heap.size X w':=⟨fun b o hb=>hf.cell (p:=⟨b,o,none⟩) hb,hf⟩
theorem rJ (w:World) (a b c d e:Value) (t:TypeId):∀j u,[a,b,c,d,e][j]?=some u→(w.alloc (.cells #[a,b,c,d,e] t)).cell? ((⟨w.heap.size,0,none⟩:Addr).add j)=some u:=by
 intro j u h;have e:(⟨w.heap.size,0,none⟩:Addr).add j=⟨w.heap.size,j,none⟩:=by cases j<;>simp [Addr.add]
 rw [e];unfold World.cell?;rw [AY];simpa using h
theorem arL {w:World} {rb k:Nat} {T:TypeId} (h:w.heap[rb]?=some (.cells ((List.replicate k false).map Value.bool).toArray T (0,0))) (hk:0<k):w.cell? ⟨rb,0,none⟩=some (.bool false)∧w.frozen? ⟨rb,0,none⟩=false:=by
 constructor
 ·unfold World.cell?
  simp only [h];rw [YF,D8,j8,A9 hk];rfl
 ·simp [World.frozen?,h]
def mI (B:Nat) (rv iv dv:Value):Prop:=∀q,(rv.ownBlock=some q∨iv.ownBlock=some q∨dv.ownBlock=some q)→B≤q
def Di (f:Nat→List Ins) (k:Nat) (l:List Ins):Nat→List Ins:=fun i=>if i<k then f i else if i=k then l else []
theorem tK (f:Nat→List Ins):Di f 0 []=fun _=>[]:=by funext i;simp [Di]
theorem S2 (f:Nat→List Ins) (k:Nat) (l:List Ins):Di f k l k=l:=by unfold Di;rw [A6 A0,A9 rfl]
theorem mD (f:Nat→List Ins) (k:Nat) (l l':List Ins):upd (Di f k l) k l'=Di f k l':=by
 funext i;unfold upd Di;by_cases h:i=k
 ·rw [A9 h,A6 A0,A9 h]
 ·rw [A6 h,A6 h,A6 h]
theorem tY (f:Nat→List Ins) (k:Nat):Di f k (f k)=Di f (k+1) []:=by
 funext i;unfold Di;by_cases h1:i<k
 ·rw [A9 h1,A9 A0]
 ·rw [A6 h1]
  by_cases h2:i=k
  ·rw [A9 h2,A9 A0,h2]
  ·rw [A6 h2,A6 A0]
   split<;>rfl
def Cf (cd:Nat→Int) (G:List AU) (k:Nat):List Ins:=codeFrom cd (G.getD k ⟨0,0,[]⟩).lo ((G.getD k ⟨0,0,[]⟩).hi - (G.getD k ⟨0,0,[]⟩).lo).toNat
theorem qG:(Tryz.prog.info? 67).map (fun i=>(i.zero,i.size,i.bytes))=some (some (.agg #[.int .u8 0,.int .i64 0,.int .i64 0,.int .i64 0,.int .i64 0]),5,40):=by kernel_rfl
theorem qJ:(Tryz.prog.info? 4).map (fun i=>(i.zero,i.size,i.bytes))=some (some (.bool false),1,1):=by kernel_rfl
theorem aqX:(Tryz.prog.info? 3).map (fun i=>(i.zero,i.size,i.bytes))=some (some (.int .i64 0),1,8):=by kernel_rfl
theorem s9:(Tryz.prog.info? 144).map (fun i=>(i.zero,i.size,i.bytes))=some (some (.slice none 0 0),1,24):=by kernel_rfl
theorem ara:(Tryz.prog.info? 174).map (fun i=>(i.zero,i.size,i.bytes))=some (some (.agg (AE Aj).toArray),32,128):=by kernel_rfl
def bR:Prop:=∀(cv ev bv pv:Value) (sh lk:Int) (n:Nat) (cd:Nat→Int) (G:List AU) (P:List (List Int)) (w:World) (T:CO w) (HW:Words w cv n cd) (HG:E7 w bv G) (HP:Dk w pv P) (hv:Dm G P) (hg0:0<G.length) (hg1:G.length≤1000) (hok:∀x∈G,M6 n cd G x),
  Calls Tryz.prog 52 #[.agg #[cv,ev,.int .i64 sh,.int .i64 lk],.agg #[bv,pv]] w fun e w'=>(∃s rv iv dv,Ends (BR cd G) (EI G.length) s∧e=.returned (.tuple #[.agg #[rv,iv,dv],.int .i64 0])∧TQ w' rv iv s.reach s.AG∧UJ w' dv (Em (BR cd G) s G.length)∧mI w.heap.size rv iv dv)∧Below w.heap.size w w'



end Go.Proofs.YtlmgkipmfgijiaaGreatDoor
