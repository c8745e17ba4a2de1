/-
  What is proved here: parts aMono, aFix, aVi, aAz0.
-/
import Derived.Test.YtlmgkipmfgijiaaGreatDoorVa
import Derived.Test.YtlmgkipmfgijiaaGreatDoorVi
import Derived.Test.YtlmgkipmfgijiaaGreatDoorVh
import Derived.Test.YtlmgkipmfgijiaaGreatDoorVk
import Derived.Test.YtlmgkipmfgijiaaGreatDoorVj
import Derived.BigRegion
import Derived.Deep.RegionHeld3
import Derived.Deep.DeepCutAuto
import Derived.Test.YtlmgkipmfgijiaaGreatDoorVd
import Derived.Test.YtlmgkipmfgijiaaGreatDoorVb
namespace Go.Proofs.YtlmgkipmfgijiaaGreatDoor
set_option linter.unusedVariables false
set_option linter.unusedSimpArgs false
set_option maxRecDepth 100000
set_option maxHeartbeats 8000000
open Go.RowKit
def T8 (r m:RG):Prop:=∀k:Int,Sub (rg r k) (rg m k)
theorem ru {r:RG} {k:Int} (h:r.length≤k.toNat):rg r k=(0,0):=by
 unfold rg;simp [List.getD,E0 h]
theorem sZ {r:RG} {k:Int} {x:Int×Int} (h0:0≤k) (hl:k.toNat<r.length) (j:Int) (hj:0≤j):rg (DZ r k x) j=if k≠0∧j=k then x else rg r j:=by
 unfold DZ;by_cases e:k=0
 ·rw [AE e,A9 A0]
 ·rw [A9 e]
  unfold rg;by_cases e2:j=k
  ·subst e2
   rw [AE ⟨e,rfl⟩];simp [List.getD,hl]
  ·rw [A9 A0]
   have:k.toNat≠j.toNat:=by omega
   simp [List.getD,IY,this]
theorem vt {r:RG} {k:Int} (h:k<0):rg r k=rg r 0:=by
 unfold rg;rw [show k.toNat=0 by omega,show (0:Int).toNat=0 from rfl]
theorem T8.of {r m:RG} (h:∀k:Nat,k<16→Sub (rg r (k:Int)) (rg m (k:Int))) (hr:R16 r) (hm:R16 m):T8 r m:=fun k=>by
 by_cases h1:k<0
 ·rw [vt h1,vt h1];exact h 0 A0
 ·by_cases h2:k.toNat<16
  ·have:=h k.toNat h2
   rwa [show ((k.toNat:Nat):Int)=k by omega] at this
  ·rw [ru (by rw [hr.len];omega),ru (by rw [hm.len];omega)]
   exact .inr ⟨JE _,JE _⟩
theorem tT {r m:RG} (hr:R16 r) (hm:R16 m) {k:Nat} (hk:k<16):rg (Cb r m) (k:Int)=CN (rg r (k:Int)) (rg m (k:Int)):=by
 have h1:k<r.length:=by rw [hr.len];exact hk
 have h2:k<m.length:=by rw [hm.len];exact hk
 unfold rg Cb;simp [List.getD,oL,Aj h1,Aj h2]
theorem nZ {r m:RG} (hr:R16 r) (hm:R16 m) {k:Nat} (hk:k<16):rg (I0 r m) (k:Int)=Bd (rg r (k:Int)) (rg m (k:Int)):=by
 have h1:k<r.length:=by rw [hr.len];exact hk
 have h2:k<m.length:=by rw [hm.len];exact hk
 unfold rg I0;simp [List.getD,oL,Aj h1,Aj h2]
theorem oV {r m:RG} (hr:R16 r) (hm:R16 m):T8 r (Cb r m):=T8.of (fun k hk=>by
 rw [tT hr hm hk]
 exact (within_iff _ _).1 (aoz _ _)) hr (hr.join hm)
theorem api:∀k,k<30→(Db k).LD≤15∧(Db k).L8≤15∧(Db k).Kg≤15∧-131072≤M9 k∧MT k≤131071:=by decide
theorem tQ {i:Ins} (h0:0≤i.op) (hv:CE i=true):(0≤i.a∧i.a≤15)∧(0≤i.b∧i.b≤15)∧(0≤i.c∧i.c≤15)∧-131072≤i.AG∧i.AG≤131071:=by
 obtain⟨k,g1,g2,⟨a1,a2⟩,⟨b1,b2⟩,⟨c1,c2⟩,i1,i2⟩:=(PT (i:=i) h0).1 hv;obtain⟨s1,s2,s3,s4,s5⟩:=api k g2;omega
def Zz (v:List Int) (r:RG):Prop:=∀k:Nat,k<16→Mem (v.getD k 0) (rg r (k:Int))
theorem Zz.sub {v:List Int} {r m:RG} (h:Zz v r) (hs:T8 r m):Zz v m:=fun k hk=>by
 have h1:=h k hk;have h2:=hs (k:Int);unfold Mem at *;unfold Sub at h2;omega
def JN (s:AS) (b:Nat):RG:=s.Af.getD b []
def zeros:List Int:=List.replicate 16 0
structure Fx (n:Nat) (s:AS):Prop where
 Ez:Iy n s
 z:∀b,b<n→rg (JN s b) 0=(0,0)
 r0:s.reach.getD 0 false=true
 c0:Zz zeros (JN s 0)
 un:∀b,b<n→s.reach.getD b false=false→JN s b=Ao
theorem apo {i:Ins} {r a:RG} (h0:0≤i.op) (hr:R16 r) (h:Iw i r=some a):rg a 0=rg r 0∧Fe r=true:=by
 unfold Iw at h;split at h
 ·rename_i hv
  refine⟨?_,hv.2⟩;obtain⟨⟨a0,a1⟩,_⟩:=tQ h0 hv.1;have key:∀x,rg (DZ r i.a x) 0=rg r 0:=fun x=>by
   rw [sZ a0 (by rw [hr.len];omega) _ (JE _),A9 A0]
  (repeat' split at h)<;>first|(cases h;exact key _)|(cases h;rfl)|cases h
 ·cases h
theorem ZH {i:Ins} {r a:RG} {t:Bool} (h0:0≤i.op) (hr:R16 r) (h:Dl i r t=some a):rg a 0=rg r 0:=by
 unfold Dl at h;split at h
 ·rename_i hv
  obtain⟨⟨a0,a1⟩,_⟩:=tQ h0 hv.1;have key:∀x,rg (DZ r i.a x) 0=rg r 0:=fun x=>by
   rw [sZ a0 (by rw [hr.len];omega) _ (JE _),A9 A0]
  (repeat' split at h)<;>first|(cases h;exact key _)|(cases h;rfl)|cases h
 ·cases h
theorem lK {r m:RG} (hr:R16 r) (hm:R16 m) (h1:rg r 0=(0,0)) (h2:rg m 0=(0,0)):rg (Cb r m) 0=(0,0):=by
 have:=tT hr hm (k:=0) A0;rw [show ((0:Nat):Int)=0 from rfl] at this;rw [this,h1,h2];decide
theorem adW {r m:RG} (hr:R16 r) (hm:R16 m) (h1:rg r 0=(0,0)) (h2:rg m 0=(0,0)):rg (I0 r m) 0=(0,0):=by
 have:=nZ hr hm (k:=0) A0;rw [show ((0:Nat):Int)=0 from rfl] at this;rw [this,h1,h2];decide
theorem pX:∀ {l:List Ins} {r a:RG},(∀i∈l,0≤i.op)→R16 r→F5 l r=some a→rg a 0=rg r 0
 | [],r,a,_,_,h=>by cases h;rfl
 | i :: l,r,a,hl,hr,h=>by
  unfold F5 at h;split at h
  ·cases h
  ·rename_i r' e
   rw [pX (fun j hj=>hl j (F9 _ hj)) (j7 (hl i (Jo ..)) hr e) h];exact (apo (hl i (Jo ..)) hr e).1
theorem yD {last:Ins} {m k:Nat} {r a:RG} (h0:0≤last.op) (hr:R16 r) (hz:rg r 0=(0,0)) (h:En last m k r=some a):rg a 0=(0,0):=by
 unfold En at h;split at h
 ·cases h;exact hz
 split at h
 ·rw [ZH h0 hr h];exact hz
 ·split at h
  ·rw [ZH h0 hr h];exact hz
  ·rename_i e _
   cases h;rw [ZH h0 hr (by assumption)];exact hz
  ·rename_i e1 e2
   cases h;exact lK (KT hr e1) (KT hr e2) (by rw [ZH h0 hr e1];exact hz) (by rw [ZH h0 hr e2];exact hz)
theorem amN {x y:Int×Int} (wx:Ae x.1∧Ae x.2) (h:Sub x y):Sub x (Bd x y):=by
 unfold Ae at wx;unfold Bd emp Sub at *;by_cases h1:x.2<x.1
 ·exact .inl h1
 ·by_cases h2:y.2<y.1
  ·simp [h1,h2]
  ·simp only [h1,h2,decide_false,MZ,N0]
   right;constructor<;>split<;>omega
def newR (s:AS) (t:Nat) (r:RG):RG:=if 2≤s.rep.getD t 0 then I0 (s.Af.getD t []) (Cb (s.Af.getD t []) r) else Cb (s.Af.getD t []) r
theorem aq7 {n:Nat} {s:AS} (h:Iy n s) {t:Nat} (ht:t<n) {r:RG} (hr:R16 r):R16 (newR s t r)∧T8 (s.Af.getD t []) (newR s t r)∧(rg (s.Af.getD t []) 0=(0,0)→rg r 0=(0,0)→rg (newR s t r) 0=(0,0)):=by
 have hg:=h.get ht;have hj:=hg.join hr;unfold newR;split
 ·refine⟨hg.XD hj,T8.of (fun k hk=>?_) hg (hg.XD hj),fun e1 e2=>adW hg hj e1 (lK hg hr e1 e2)⟩
  rw [nZ hg hj hk];exact amN (hg.at_ _) (oV hg hr _)
 ·exact⟨hj,oV hg hr,fun e1 e2=>lK hg hr e1 e2⟩
theorem Fx.step {n:Nat} {s:AS} (h:Fx n s) {t:Nat} (ht:t<n) {o:Option RG} (ho:∀r,o=some r→R16 r∧rg r 0=(0,0)):Fx n (F7 s t o).1:=by
 have ha:=(dY h.Ez ht o (fun r hr=>(ho r hr).1)).1;cases o with
 | none=>exact h
 | some r=>
  obtain⟨h16,hz⟩:=ho r rfl;unfold F7 at ha ⊢;simp only at ha ⊢;have l1:=h.Ez.l1;have l2:=h.Ez.l2;by_cases h1:s.reach.getD t false=false
  ·rw [AE h1] at ha ⊢
   have ht0:t≠0:=fun e=>by rw [e,h.r0] at h1;cases h1
   refine⟨ha,fun b hb=>?_,?_,?_,fun b hb hrb=>?_⟩
   ·unfold JN
    simp only;by_cases e:b=t
    ·subst e;rw [Qj A0];exact hz
    ·rw [O3 e];exact h.z b hb
   ·simp only;rw [O3 (Ds ht0)];exact h.r0
   ·unfold JN;simp only;rw [O3 (Ds ht0)];exact h.c0
   ·unfold JN
    simp only at hrb ⊢;by_cases e:b=t
    ·subst e;rw [Qj A0] at hrb;cases hrb
    ·rw [O3 e] at hrb ⊢;exact h.un b hb hrb
  ·rw [A9 h1] at ha ⊢
   by_cases h2:Cb (s.Af.getD t []) r=s.Af.getD t []
   ·rw [AE h2];exact h
   ·rw [A9 h2] at ha ⊢
    obtain⟨n1,n2,n3⟩:=aq7 h.Ez ht h16;refine⟨ha,fun b hb=>?_,h.r0,?_,fun b hb hrb=>?_⟩
    ·unfold JN
     simp only;by_cases e:b=t
     ·subst e;rw [Qj A0];exact n3 (h.z b hb) hz
     ·rw [O3 e];exact h.z b hb
    ·unfold JN
     simp only;by_cases e:t=0
     ·subst e;rw [Qj A0];exact h.c0.sub n2
     ·rw [O3 (Ds e)];exact h.c0
    ·unfold JN
     simp only at hrb ⊢;by_cases e:b=t
     ·subst e;exact absurd hrb h1
     ·rw [O3 e];exact h.un b hb hrb
theorem Fx.Fv {n:Nat} {last:Ins} {nx:List Int} {Ag:RG} (h0:0≤last.op) (ha:R16 Ag) (hz:rg Ag 0=(0,0)) (BJ:∀t∈nx,0≤t∧t<n) {s:AS} (h:Fx n s):∀k,k≤nx.length→Fx n (Fv last nx Ag s k).1
 | 0,_=>h
 | k+1,hk=>by
  simp only [Go.Proofs.YtlmgkipmfgijiaaGreatDoor.Fv];have hm:nx.getD k 0∈nx:=by
   rw [show nx.getD k 0=nx[k]'A0 by simp [List.getD,Aj (show k<nx.length by omega)]];exact Cn _
  have:=BJ _ hm;exact (Fx.Fv h0 ha hz BJ h k A0).step A0 (fun r hr=>⟨dS ha hr,yD h0 ha hz hr⟩)
structure ABf (n:Nat) (b:AB):Prop where
 ok:ko n b
 op:0≤b.last.op
 ops:∀i∈b.code,0≤i.op
theorem Fx.Gf {n:Nat} {b:AB} (hb:ABf n b) (BJ:∀t∈b.nx,0≤t∧t<n) {s:AS} (h:Fx n s) {k:Nat} (hk:k<n):Fx n (Gf b k s).1:=by
 unfold Go.Proofs.YtlmgkipmfgijiaaGreatDoor.Gf;split
 ·exact h
 ·rename_i Ag e
  have hg:=h.Ez.get hk;exact h.Fv hb.op (Yz hb.ops hg e) (by rw [pX hb.ops hg e];exact h.z k hk) BJ _ (AH _)
theorem Fx.DG {n:Nat} {B:List AB} (hB:∀b∈B,ABf n b∧∀t∈b.nx,0≤t∧t<n) (hl:B.length=n) {s:AS} (h:Fx n s):∀k,k≤n→Fx n (DG B s k).1
 | 0,_=>h
 | k+1,hk=>by
  simp only [Go.Proofs.YtlmgkipmfgijiaaGreatDoor.DG];have ih:=Fx.DG hB hl h k A0;split
  ·have e:B.getD k ⟨[],[]⟩=B[k]'A0:=by simp [List.getD,Aj (show k<B.length by omega)]
   have hm:B.getD k ⟨[],[]⟩∈B:=by rw [e];exact Cn _
   exact ih.Gf (hB _ hm).1 (hB _ hm).2 A0
  ·exact ih
theorem Ends.fx {B:List AB} {s s':AS} (hB:∀b∈B,ABf B.length b∧∀t∈b.nx,0≤t∧t<B.length) (h:Ends B s s'):Fx B.length s→Fx B.length s':=by
 induction h with
 | done _=>exact fun hs=>hs.DG hB rfl _ (AH _)
 | more _ _ ih=>exact fun hs=>ih (hs.DG hB rfl _ (AH _))
theorem apb {n:Nat} (hn:0<n):Fx n (EW n):=by
 have hin:∀b,b<n→JN (EW n) b=Ao:=fun b hb=>by simp [JN,EW,List.getD,hb]
 refine⟨tP n,fun b hb=>by rw [hin b hb];rfl,by simp [EW,List.getD,hn],?_,fun b hb _=>hin b hb⟩;rw [hin 0 hn];intro k hk;have h1:∀k:Nat,k<16→rg Ao (k:Int)=(0,0)∧zeros.getD k 0=0:=by decide
 obtain⟨e1,e2⟩:=h1 k hk;rw [e1,e2];unfold Mem;simp
structure ABw (n:Nat) (b:AB):Prop where
 f:ABf n b
 ne:b.code≠[]
 Hf:b.nx.length≤1000
 nx:∀t∈b.nx,0≤t∧t<n
theorem An.nexts {V w:World} {ab cb rb ib pb:Nat} {bv pv:Value} {G:List AV} {B:List AB} {val:Nat→Value} {s:AS} (h:An V w ab cb rb ib pb bv pv G B val s) {k:Nat} {b:AB} (hk:B[k]?=some b) :
  ∃g off cap nA C6,bv=.slice (some ⟨g,off,none⟩) B.length cap∧B.length≤cap∧cap≤2 ^ 63 - 1∧g<V.heap.size∧V.cell? ⟨g,off+k*3+2,none⟩=some (.slice nA b.nx.length C6)∧b.nx.length≤C6∧C6≤2 ^ 63 - 1∧∀j t,b.nx[j]?=some t→∃nb FN,nA=some ⟨nb,FN,none⟩∧nb<V.heap.size∧V.cell? ⟨nb,FN+j,none⟩=some (.int .i64 t):=by
 have hkl:=(Bl.1 hk).1;have hlG:=h.lG;obtain⟨A,cap,h1,h2,h3,h4⟩:=h.jI;obtain⟨g,off,rfl,hg,hc⟩:=h4 A0;obtain⟨x,hx⟩:∃x,G[k]?=some x:=⟨_,Aj A0⟩;obtain⟨_,_,nv,c2,hn⟩:=hc k x hx;have e:=h.gnx k x b hx hk;rw [e] at hn;obtain⟨nA,C6,rfl,n2,n3,n4⟩:=hn;rw [hlG] at h1 h2;refine⟨g,off,cap,nA,C6,h1,h2,Oo h3,hg,c2,n2,Oo n3,fun j t hj=>?_⟩;have hl:=(Bl.1 hj).1;obtain⟨nb,FN,ha,hb,hcc⟩:=n4 A0;refine⟨nb,FN,ha,hb,?_⟩;rw [hcc j hl,show b.nx.getD j 0=t by simp [List.getD,hj]]
theorem ade (last:Ins) (nx:List Int) (Ag:RG) (s:AS) (k:Nat):Fv last nx Ag s (k+1)=((F7 (Fv last nx Ag s k).1 (nx.getD k 0).toNat (En last nx.length k Ag)).1,(Fv last nx Ag s k).2 || (F7 (Fv last nx Ag s k).1 (nx.getD k 0).toNat (En last nx.length k Ag)).2):=rfl
theorem there_drew {w:World} {b o n:Nat} (h:w.there b o n):w.drew.there b o n:=h
theorem anw {w:World} {b o n c p:Nat} {v:Value} (h:w.there b o n):(w.setCell ⟨c,p,none⟩ v).there b o n:=by
 have:=World.there_setCells h c p [v];exact this
theorem anO {Y w':World} {rb ib b10 o:Nat} {cs:List Value} (h1:b10<Y.heap.size) (n1:b10≠rb) (n2:b10≠ib) (hr:Y.rangeAt b10 0 cs) (hf:Fr (fun k=>k=rb∨k=ib) Y w') (ht:w'.there ib o 32) :
  (∀b o,b<Y.heap.size→b≠rb→b≠ib→w'.cell? ⟨b,o,none⟩=Y.cell? ⟨b,o,none⟩)∧w'.rangeAt b10 0 cs∧w'.there ib o 32∧Fr (fun k=>k=rb∨k=ib) Y w':=
 ⟨fun b o hb h2 h3=>hf.cell o hb (by simp [h2,h3]),fun j v hv=>(hf.cell (0+j) h1 (by simp [n1,n2])).trans (hr j v hv),ht,hf⟩
theorem SI {P:Program} {ops:Array Oper} {C:World→Prop} {Q:Act→Prop} {a:Act} {op:Oper} {rest:List Oper} (hw:Region.wanted op (yielded ops a.tmps)=true) (ty:TypeId) (x:Operand) (ho:op.op=.load ty x)
  (b o:Nat) (hx:a.eval x=.pointer (some ⟨b,o,none⟩)) (cs:List Value) (d:TypeDesc) (hc:∀w,C w→w.rangeAt b o cs)
  (hu:P.underlying ty=some d) (hd:d.isRow=true) (hi:(P.info? ty).map (·.size)=some cs.length) (h:wpQuiet P ops C Q rest (a.put op.dst (.agg cs.toArray))):wpQuiet P ops C Q (op :: rest) a:=
 BigFrame.wpQuiet_want hw fun K hK=>⟨.agg cs.toArray,fun w hC=>by
  unfold Oper.quietAt execOp;simp only [ho,hx,Instr.loadAt,Instr.sureAddr,PI,Zy,Z6,WT w b o ty cs d (hc w hC) hu hd hi]
  exact⟨rfl,rfl⟩,hK _ h⟩
theorem abV (W:World):(W.alloc (.cells BO.toArray 174)).there W.heap.size 0 32:=fun j hj=>by
 have h:(W.alloc (.cells BO.toArray 174)).heap[W.heap.size]?=some (.cells (AD Ao).toArray 174 (0,0)):=Ai _ _;have:0+j<(AD Ao).length:=by rw [CZ];simp [Ao];omega
 constructor
 ·simp only [World.cell?,h,Xv,Aj this]
  rfl
 ·simp only [World.frozen?,h]
  simp
theorem ar4 {W:World} {g:Nat} {T:TypeId} {z:RG} (h:Am W g T z):W.there g 0 (z.length*2):=fun j hj=>by
 unfold Am at h;constructor
 ·have:0+j<(AD z).length:=by rw [CZ];omega
  simp only [World.cell?,h];simp only [Xv,Aj this];rfl
 ·simp [World.frozen?,h]
theorem Tj {Y w':World} {ib b10 o:Nat} {cs ds:List Value} (h1:b10<Y.heap.size) (h2:ib<Y.heap.size) (hr:Y.rangeAt b10 0 cs) (hi:Y.rangeAt ib o ds) (hf:Below Y.heap.size Y w') :
  (∀b o,b<Y.heap.size→w'.cell? ⟨b,o,none⟩=Y.cell? ⟨b,o,none⟩)∧w'.rangeAt b10 0 cs∧w'.rangeAt ib o ds∧Below Y.heap.size Y w':=
 ⟨fun b o hb=>hf.cell (p:=⟨b,o,none⟩) hb,fun j v hv=>(hf.cell (p:=⟨b10,0+j,none⟩) h1).trans (hr j v hv),fun j v hv=>(hf.cell (p:=⟨ib,o+j,none⟩) h2).trans (hi j v hv),hf⟩
theorem rG {W:World} {g:Nat} {T:TypeId} {z r:RG} (h:Am W g T z) (hz:z.length=16) (hr:r.length=16):Am (W.setCells g 0 (AD r)) g T r:=by
 have h1:(AD z).length=32:=by rw [CZ,hz]
 have h2:(AD r).length=32:=by rw [CZ,hr]
 unfold Am at *;rw [nM g T (AD r) 0 W (AD z) h A0,h2,List.drop_eq_nil_of_le A0];simp
theorem Below.Wm {B:Nat} {w0 w:World} (h:Below B w0 w) {b:Nat} (hb:B≤b) (o:Nat) (vs:List Value):Below B w0 (w.setCells b o vs):=by
 obtain⟨h1,h2,h3,h4⟩:=jT b vs o w;exact h.trans ⟨h1,h2,h3,by rw [h4];exact AH _,fun k hk=>heap_setCells_other b vs o w k A0⟩
theorem wV (r:RG):∀v∈AD r,v.oneCell'=true:=fun v hv=>by
 unfold AD at hv;obtain⟨x,_,h⟩:=cj.1 hv;simp only [Di,Xb,VQ] at h;rcases h with rfl|rfl<;>rfl
theorem xU {V w:World} {ab cb rb ib pb:Nat} {bv pv:Value} {G:List AV} {B:List AB} {val:Nat→Value} {s:AS} (h:An V w ab cb rb ib pb bv pv G B val s) {k:Nat} {b:AB} (hk:B[k]?=some b) (hb:ABw B.length b) (T:C8 V) :
  Calls Tryz.prog 86 #[.pointer (some ⟨ab,0,none⟩),.int .i64 (k:Int)] w fun e w'=>e=.returned (.bool (Gf b k s).2)∧An V w' ab cb rb ib pb bv pv G B val (Gf b k s).1∧Fr (OZ rb ib pb) w w':=by
 have hkl:=(Bl.1 hk).1;have JG:=h.lB;have G6:=A3 (ow h hk hb.ne hb.f.ops (T.below h.A7));rcases hr:F5 b.code (s.Af.getD k []) with _|Ag
 ·have HV:=A3 (show Gf b k s=(s,false) by unfold Gf;rw [hr])
  rw [hr] at G6;have HA:=A3 h;clear h hr hkl JG hk hb T;go_enter Tryz.func86,Tryz.ntmps86;go_wp2_with (first|(go_at_call 87;refine G6.out.mono ?_;rintro e w1 ⟨rfl,hb1⟩;unfold Ca)|(refine Bp rfl 174 (.tmp 5) (.tmp 17) rfl w1.heap.size (AD Ao).toArray rfl rfl 174 _ (Ai _ _) (hi4 BK) (hi6 BK BK) (CX Ao) ?_));go_ret;have bb:Below w.heap.size w ((w1.alloc (.cells BO.toArray 174)).setRow w1.heap.size (AD Ao).toArray):=Bt (hb1.alloc hb1.size _) hb1.size _;rw [HV.out];exact⟨rfl,HA.out.below bb,Fr.of bb⟩
 have⟨C5,HVR⟩:=AL (Yz hb.f.ops (h.Ez.get hkl) hr) (show Gf b k s=Fv b.last b.nx Ag s b.nx.length by unfold Gf;rw [hr]);rw [hr] at G6;obtain⟨g,off,B9,nA,C6,Du,g1,g2,g3,nc,n1,n2,BJ⟩:=h.nexts hk;obtain⟨n,hn⟩:=AA B.length;obtain⟨u,hu⟩:=AA b.nx.length;have dk:(k:Int)<(n:Int):=by omega
 have⟨HA,Cw,HN,HU,HK,Fl,HT,Ec⟩:=Ki h BJ hn hu hk hb T Du;have hul:u≤1000:=by rw [←hu];exact hb.Hf
 rw [hn] at JG g1;rw [hu] at nc n1;have Xq:=A3 nc;clear h hr BJ hn hu hk hb T Du nc hkl;go_enter Tryz.func86,Tryz.ntmps86;go_upto_region 2 with (first|(go_at_call 87;refine G6.out.mono ?_;rintro e w1 ⟨rfl,hb1⟩;unfold Ca)|(refine Bp rfl 174 (.tmp 5) (.tmp 17) rfl w1.heap.size (AD Ag).toArray rfl rfl 174 _ (Ai _ _) (hi4 C5.out.len) (hi6 C5.out.len BK) (CX Ag) ?_));obtain⟨X,hX⟩:=AA ((w1.alloc (.cells BO.toArray 174)).setRow w1.heap.size (AD Ag).toArray);rw [hX];have bX:Below w.heap.size w X:=hX▸Bt (hb1.alloc hb1.size _) hb1.size _;have kX:Am X w1.heap.size 174 Ag:=hX▸Am.row (z:=Ao) (Ai _ _);obtain⟨b5,hb5⟩:=AA w1.heap.size;have L5:=A3 (show w.heap.size≤b5 by rw [←hb5];exact hb1.size);rw [hb5] at kX;rw [hb5];have HAX:=A3 (HA.out.below bX);have TQ:=HAX.out.A7;have l1:ab<X.heap.size:=HAX.out.lt.1;have lg:g<X.heap.size:=by have:=TQ.size;omega
 have c0:X.cell? ⟨ab,0,none⟩=some (.slice (some ⟨g,off,none⟩) n B9):=by rw [HAX.out.cells.1,Ec.out,HN.out]
 have c1:X.cell? ⟨g,off+k*3+2,none⟩=some (.slice nA u C6):=(TQ.cell (p:=⟨g,off+k*3+2,none⟩) g3).trans Xq.out;have⟨BX,KX⟩:=AL bX kX;clear hX bX kX hb5 hb1 TQ;go_upto_region 6 with fail;clear c0 c1 l1 lg;go_loopw [7,31] (fun a7 a31 wr=>∃j:Nat,j≤u∧a31=.int .i64 (j:Int)∧a7=.bool (Fv b.last b.nx Ag s j).2∧An V wr ab cb rb ib pb bv pv G B val (Fv b.last b.nx Ag s j).1∧Fr (OZ rb ib pb) w wr∧Am wr b5 174 Ag) (fun _ a31 _=>u - (intOf a31).toNat);case atStart=>exact⟨0,by omega,rfl,rfl,HAX.out,Fr.of BX.out,KX.out⟩
 case round=>
  obtain⟨j,hj,rfl,rfl,VO,hFr,hkb⟩:=hrel;have⟨WN,KB,DD⟩:=B8 hFr hkb hkb.range;clear hFr hkb;by_cases hlt:j<u
  ·have dl:decide ((j:Int)<(u:Int))=true:=AR A0
   obtain⟨t,ht⟩:∃t,b.nx[j]?=some t:=⟨_,Aj (by rw [HU.out];exact hlt)⟩;obtain⟨nb,FN,rfl,hnb,Ge⟩:=Cw.out j t ht;have htb:=Fl.out.nx t (Bf ht);rw [HN.out] at htb;obtain⟨tn,rfl⟩:∃tn:Nat,t=(tn:Int):=⟨t.toNat,by omega⟩;have htn:tn<n:=by omega
   have dt:(tn:Int)<(n:Int):=by omega
   have hD:=A3 (show (b.nx.getD j 0).toNat=tn by simp [List.getD,ht]);have TQ:=VO.A7;have x0:wr.cell? ⟨nb,FN+j,none⟩=some (.int .i64 (tn:Int)):=(TQ.cell (p:=⟨nb,FN+j,none⟩) hnb).trans Ge;obtain⟨sj,hsj⟩:=AA (Fv b.last b.nx Ag s j);rw [hsj] at VO;rw [hsj];have⟨GH,NI⟩:=AL (uK VO HK.out Fl.out.ne Fl.out.Hf Fl.out.f.op j Ag C5.out (HT.out.below TQ)) VO;have hst:=ade b.last b.nx Ag s j;rw [hsj,hD.out] at hst;clear ht Ge htb TQ VO hsj;rcases he:En b.last b.nx.length j Ag with _|r
   ·rw [he] at GH hst
    have HST:=A3 hst;clear he hst;go_wp2_with (first|(refine Cu rfl _ _ rfl _ _ rfl (AD Ag) _ DD.out BH rfl (hi3 C5.out.len) ?_)|(go_at_call 88;refine GH.out.mono ?_;rintro e w2 ⟨rfl,hb2⟩;unfold Ca)|(refine Bp rfl 174 (.tmp 10) (.tmp 42) rfl w2.heap.size (AD Ao).toArray rfl rfl 174 _ (Ai _ _) (hi4 BK) (hi6 BK BK) (CX Ao) ?_));go_roundw;case rel=>
     have bb:Below wr.heap.size wr ((w2.alloc (.cells BO.toArray 174)).setRow w2.heap.size (AD Ao).toArray):=Bt (hb2.alloc hb2.size _) hb2.size _;refine⟨j+1,by omega,by go_num,?_,?_,WN.out.trans (Fr.of bb),KB.out.keep bb⟩
     ·rw [HST.out];simp [F7]
     ·rw [HST.out];exact NI.out.below bb
    case measure=>exact Aa
   ·rw [he] at GH hst
    have⟨HST,R16⟩:=AL hst (dS C5.out he);clear he hst;go_upto_region 10 with (first|(refine Cu rfl _ _ rfl _ _ rfl (AD Ag) _ DD.out BH rfl (hi3 C5.out.len) ?_)|(go_at_call 88;refine GH.out.mono ?_;rintro e w2 ⟨rfl,hb2⟩;unfold Ca)|(refine Bp rfl 174 (.tmp 10) (.tmp 42) rfl w2.heap.size (AD r).toArray rfl rfl 174 _ (Ai _ _) (hi4 R16.out.len) (hi6 R16.out.len BK) (CX r) ?_));obtain⟨Y,hY⟩:=AA ((w2.alloc (.cells BO.toArray 174)).setRow w2.heap.size (AD r).toArray);rw [hY];have bY:Below wr.heap.size wr Y:=hY▸Bt (hb2.alloc hb2.size _) hb2.size _;have kY:Am Y w2.heap.size 174 r:=hY▸Am.row (z:=Ao) (Ai _ _);obtain⟨b10,Mz⟩:=AA w2.heap.size;rw [Mz] at kY;rw [Mz];have⟨L10,KR,IX,BY⟩:=Bz (show wr.heap.size≤b10 by rw [←Mz];exact hb2.size) kY (NI.out.below bY) bY;obtain⟨y1,y2,y3,y4,y5⟩:=IX.out.lt;obtain⟨-,-,v2,v3,v4⟩:=IX.out.cells;rw [HN.out] at v2 v3 v4;obtain⟨v5,v5f⟩:=IX.out.aQ (t:=tn) Li;have l10:b10<Y.heap.size:=kY.lt;clear hY bY kY Mz hb2 x0;rcases IB:sj.1.reach.getD tn false with _|_
    ·rw [IB] at v5
     have IW:=A3 IB;clear IB;go_upto_region 11 with fail;obtain⟨ne1,ne2,ne3,-,-,-,ne7,ne8,ne9⟩:=IX.out.ne;have hq:=NI.out.lt;have nb1:b10≠rb:=by have:=L10.out;omega
     have nb2:b10≠ib:=by have:=L10.out;omega
     have NW:=KR.out.range;have IQ:=IX.out.there (t:=tn) Li;have YR:=BH;have VW:(Tryz.prog.info? 174).map (·.size)=some (AD r).length:=hi3 R16.out.len;have fu:(AD r).length=32:=by rw [CZ,R16.out.len]
     have Ze:=wV r;go_cut [5] from 54 to 66 (fun a5 wx=>a5=.pointer (some ⟨b5,0,none⟩)∧∃wy,Below Y.heap.size Y wy∧wx=(wy.setCell ⟨rb,tn,none⟩ (.bool true)).setCells ib (tn*32) (AD r))
     case first=>
      go_region_held3 (fun w'=>(∀b o,b<Y.heap.size→b≠rb→b≠ib→w'.cell? ⟨b,o,none⟩=Y.cell? ⟨b,o,none⟩)∧w'.rangeAt b10 0 (AD r)∧w'.there ib (tn*32) 32∧Fr (fun k=>k=rb∨k=ib) Y w') ((exact anO l10 nb1 nb2 NW (by (repeat (first|(with_reducible exact Fr.refl _ _)|(with_reducible refine Fr.drew ?_)|(with_reducible refine Fr.set ?_ _ (.inl AO))|(with_reducible refine Fr.setCells ?_ _ (.inl AO))))) (by (repeat (first|(with_reducible exact IQ)|(with_reducible refine there_drew ?_)|(with_reducible refine anw ?_)|(with_reducible refine World.there_setCells ?_ _ _ _)))))) (fail)
      all_goals (go_wp2_with fail;go_meet)
      case rel=>exact⟨rfl,Y.drew,Gg (AP _ _),rfl⟩
     case rest=>
      obtain⟨rfl,wy,hby,hwy⟩:=hcut;obtain⟨hA1,cJ⟩:=IX.out.first hby Li R16.out IW.out;rw [←hwy] at hA1 cJ;obtain⟨W3,hW3⟩:∃W3:World,W3=wc:=⟨_,rfl⟩;subst hW3;have⟨HA1,HF1,KB3⟩:=B8 hA1 cJ (show Am W3 b5 174 Ag from (cJ.block b5 (by have:=(KB.out.keep BY.out).lt;exact this) rR).trans (KB.out.keep BY.out));clear hwy hby hA1 cJ NW IQ YR VW fu Ze hq v2 v3 v4 v5 v5f;go_wp2_with fail;go_roundw;case rel=>
       have e2:(F7 sj.1 tn (some r)).2=true:=by unfold F7;simp only;rw [AE IW.out]
       refine⟨j+1,by omega,by go_num,?_,?_,(WN.out.trans (Fr.of BY.out)).trans HF1.out,KB3.out⟩
       ·rw [HST.out,e2];simp
       ·rw [HST.out];exact HA1.out
      case measure=>exact Aa
    ·rw [IB] at v5
     have IW:=A3 IB;clear IB;go_upto_region 13 with fail;obtain⟨ne1,ne2,ne3,-,-,-,ne7,ne8,ne9⟩:=IX.out.ne;obtain⟨cur,Zi⟩:=AA (sj.1.Af.getD tn []);have c16:Go.Proofs.YtlmgkipmfgijiaaGreatDoor.R16 cur:=by rw [←Zi];exact IX.out.Ez.get Li
     have MD:=IX.out.JN (t:=tn) Li;rw [Zi] at MD;have⟨Ta,XG⟩:=AL c16 Zi;have NW:=KR.out.range;have pz:∀W:World,(W.alloc (.cells BO.toArray 174)).there W.heap.size 0 32:=abV;obtain⟨jr,UY⟩:=AA (List.zipWith CN cur r);have j16:Go.Proofs.YtlmgkipmfgijiaaGreatDoor.R16 jr:=by rw [←UY];exact c16.join R16.out
     have⟨HJ,Nj⟩:=AL (show Cb cur r=jr from UY) j16;have VC:=fun W=>dA 105 CN (fun _ _=>by kernel_rfl) mm cur r c16.len R16.out.len W;rw [UY] at VC;have RI:=A3 VC;have YR:=BH;have VW:(Tryz.prog.info? 174).map (·.size)=some (AD r).length:=hi3 R16.out.len;have qV:(Tryz.prog.info? 174).map (·.size)=some (AD cur).length:=hi3 c16.len;have oK:(Tryz.prog.info? 174).map (·.size)=some (AD jr).length:=hi3 j16.len;have fu:(AD jr).length=32:=by rw [CZ,j16.len]
     have Ze:=wV jr;clear Zi c16 UY j16 VC;go_cut [12] from 67 to 75 (fun a12 wx=>∃g,a12=.pointer (some ⟨g,0,none⟩)∧Y.heap.size≤g∧Am wx g 174 jr∧Below Y.heap.size Y wx)
     case first=>
      refine YN (S:=fun w'=>(∀b o,b<Y.heap.size→w'.cell? ⟨b,o,none⟩=Y.cell? ⟨b,o,none⟩)∧w'.rangeAt b10 0 (AD r)∧w'.rangeAt ib (tn*32) (AD cur)∧Below Y.heap.size Y w') A6 ?_ (fun hHeld=>?_)
      ·exact Tj l10 y4 NW MD (by (repeat (first|(with_reducible assumption)|(with_reducible exact AP _ _)|(with_reducible refine Gg ?_)|(with_reducible refine QH ?_ eD _)|(with_reducible refine Below.Wm ?_ (by first|exact AH _|omega|(simp;done)|(simp;omega)) _ _))))
      refine BI (i:=0) (oi:=_) (v:=?_) rfl A6 A6 A6 (fun _ _ _ h=>h) (Bq ⟨by rfl,?_⟩) hHeld ?_;rotate_left
      ·intro w hSw
       (try dsimp only at hSw);go_simp
       (try with_reducible rfl)
      (try simp only [AX,Ad,Ac,Act.put,AW,Ab,AY]);refine BI (i:=1) (oi:=_) (v:=?_) rfl A6 A6 A6 (fun _ _ _ h=>h) (Bq ⟨by rfl,?_⟩) hHeld ?_;rotate_left
      ·intro w hSw
       (try dsimp only at hSw);go_simp
       (try with_reducible rfl)
      (try simp only [AX,Ad,Ac,Act.put,AW,Ab,AY]);refine BI (i:=2) (oi:=_) (v:=?_) rfl A6 A6 A6 (fun _ _ _ h=>h) (Bq ⟨by rfl,?_⟩) hHeld ?_;rotate_left
      ·intro w hSw
       (try dsimp only at hSw);go_simp
       (try with_reducible rfl)
      (try simp only [AX,Ad,Ac,Act.put,AW,Ab,AY]);refine BI (i:=3) (oi:=_) (v:=?_) rfl A6 A6 A6 (fun _ _ _ h=>h) (Bq ⟨by rfl,?_⟩) hHeld ?_;rotate_left
      ·intro w hSw
       (try dsimp only at hSw);go_simp
       (try with_reducible rfl)
      (try simp only [AX,Ad,Ac,Act.put,AW,Ab,AY]);refine BI (i:=4) (oi:=_) (v:=?_) rfl A6 A6 A6 (fun _ _ _ h=>h) (Bq ⟨by rfl,?_⟩) hHeld ?_;rotate_left
      ·intro w hSw
       (try dsimp only at hSw);go_simp
       (try with_reducible rfl)
      (try simp only [AX,Ad,Ac,Act.put,AW,Ab,AY]);refine BI (i:=5) (oi:=_) (v:=?_) rfl A6 A6 A6 (fun _ _ _ h=>h) (Bq ⟨by rfl,?_⟩) hHeld ?_;rotate_left
      ·intro w hSw
       (try dsimp only at hSw);go_simp
       (try with_reducible rfl)
      (try simp only [AX,Ad,Ac,Act.put,AW,Ab,AY]);refine BI (i:=6) (oi:=_) (v:=_) rfl A6 A6 A6 (fun _ _ _ h=>h) (yieldsIf_load_mid (by rfl) _ _ rfl _ _ rfl (AD cur) _ (fun w hSw=>hSw.2.2.1) YR rfl qV) hHeld ?_;(try simp only [AX,Ad,Ac,Act.put,AW,Ab,AY]);refine BI (i:=7) (oi:=_) (v:=_) rfl A6 A6 A6 (fun _ _ _ h=>h) (yieldsIf_load_mid (by rfl) _ _ rfl _ _ rfl (AD r) _ (fun w hSw=>hSw.2.1) YR rfl VW) hHeld ?_;(try simp only [AX,Ad,Ac,Act.put,AW,Ab,AY]);have qx:(AD jr).toArray.size=32:=by rw [Iu];exact fu
      have wS:(Tryz.prog.info? 174).map (·.size)=some (AD jr).toArray.size:=by rw [Iu];exact oK
      refine GZ (rs:=[8,9]) A6 AO ?_;refine Eg (o:=_) rfl (fun K hK=>?_) ?_
      ·go_simp
       go_at_call 104
       refine (RI.out _).mono ?_;rintro e w3 ⟨rfl,hb3⟩;have hk3:Below Y.heap.size Y w3:=Below.trans (Gg (AP _ _)) (Below.mono hb3 (AH _));refine hK.out _ _ (Tj l10 y4 NW MD hk3) (fun hHeld=>?_);clear hK K;(try simp only [AX,Ad,Ac,Act.put,AW,Ab,AY]);refine GZ (rs:=[9]) A6 AO ?_;refine Eg (o:=_) rfl (fun K hK=>?_) GV;go_simp
       refine hK.out _ _ (Tj l10 y4 NW MD (hk3.alloc hk3.size _)) (fun hHeld=>?_);clear hK K;(try simp only [AX,Ad,Ac,Act.put,AW,Ab,AY]);refine GZ (rs:=[10]) A6 AO ?_;refine Eg (o:=_) rfl (fun K hK=>?_) GV;rw [AE (by rfl)];refine wp_store_mid _ _ _ rfl _ _ (AD jr).toArray rfl rfl (by rw [qx];exact pz w3) wS (xD Ze) ?_;refine hK.out _ _ (Tj l10 y4 NW MD (Below.Wm (hk3.alloc hk3.size _) hk3.size _ _)) (fun hHeld=>?_);clear hK K;(try simp only [AX,Ad,Ac,Act.put,AW,Ab,AY]);refine VJ A6 ?_ _;go_wp2_with fail;go_meet;case rel=>exact⟨_,rfl,hk3.size,rG (z:=Ao) (Ai _ _) BK Nj.out.len,Below.Wm (hk3.alloc hk3.size _) hk3.size _ _⟩
      refine Eg (o:=_) rfl (fun K hK=>?_) GV;go_simp
      have hk2:Below Y.heap.size Y (Y.drew.alloc (.cells BO.toArray 174)):=(Gg (AP _ _)).alloc (AH _) _;refine hK.out _ _ (Tj l10 y4 NW MD hk2) (fun hHeld=>?_);clear hK K;(try simp only [AX,Ad,Ac,Act.put,AW,Ab,AY]);refine GZ (rs:=[8]) A6 AO ?_;refine Eg (o:=_) rfl (fun K hK=>?_) GV;go_simp
      go_at_call 104
      refine (RI.out _).mono ?_;rintro e w3 ⟨rfl,hb3⟩;have hk3:Below Y.heap.size Y w3:=hk2.trans (hb3.mono hk2.size);have hz3:Am w3 Y.heap.size 174 Ao:=(hb3.block _ AO).trans (Ai Y.drew _);refine hK.out _ _ (Tj l10 y4 NW MD hk3) (fun hHeld=>?_);clear hK K;(try simp only [AX,Ad,Ac,Act.put,AW,Ab,AY]);refine GZ (rs:=[10]) A6 AO ?_;refine Eg (o:=_) rfl (fun K hK=>?_) GV;rw [AE (by rfl)];refine wp_store_mid _ _ _ rfl _ _ (AD jr).toArray rfl rfl (by rw [qx];exact ar4 hz3) wS (xD Ze) ?_;refine hK.out _ _ (Tj l10 y4 NW MD (Below.Wm hk3 (AH _) _ _)) (fun hHeld=>?_);clear hK K;(try simp only [AX,Ad,Ac,Act.put,AW,Ab,AY]);refine VJ A6 ?_ _;go_wp2_with fail;go_meet;case rel=>exact⟨_,rfl,AH _,rG hz3 BK Nj.out.len,Below.Wm hk3 (AH _) _ _⟩
     obtain⟨g2,rfl,hg2,kg2,bg2⟩:=hcut;obtain⟨W4,aK⟩:∃W4:World,W4=wc:=⟨_,rfl⟩;subst aK;clear NW MD pz YR VW qV oK fu Ze;have Yh:=A3 (IX.out.below bg2);obtain⟨q1,q2,q3,q4,q5⟩:=Yh.out.lt;obtain⟨-,-,p2,p3,p4⟩:=Yh.out.cells;rw [HN.out] at p2 p3 p4;have MD:=Yh.out.JN (t:=tn) Li;rw [XG.out] at MD;have⟨KG,BG,LN⟩:=B8 kg2 bg2 MD;have⟨LDA,LDB⟩:=AL (show ∀w',(∃x:Ext W4,w'=x.w)→w'.rangeAt g2 0 (AD jr) from by rintro _ ⟨x,rfl⟩;exact (KG.out.keep x.h).range) (show ∀w',(∃x:Ext W4,w'=x.w)→w'.rangeAt ib (tn*32) (AD cur) from by rintro _ ⟨x,rfl⟩;exact fun j v hv=>(x.h.cell (p:=⟨ib,tn*32+j,none⟩) q4).trans (LN.out j v hv));clear kg2 bg2 MD v2 v3 v4 v5 v5f;go_upto_region 14 with fail;by_cases Ml:jr=cur
     ·have heq:∀w,(binOp .eql 174 (.agg (AD jr).toArray) (.agg (AD cur).toArray)).run Tryz.prog w=.ok (.bool true) w:=fun w=>by
       have:=vN Nj.out.len Ta.out.len w
       rwa [show decide (jr=cur)=true from AR Ml] at this
      have HE:=A3 (show F7 sj.1 tn (some r)=(sj.1,false) by
       unfold F7;simp only
       rw [A9 (by rw [IW.out];simp),AE (by rw [XG.out,HJ.out];exact Ml)])
      clear Ml;refine Cg A6 A6 ?_;repeat (first|(refine SI JT _ _ rfl _ _ rfl (AD jr) _ LDA.out BH rfl (hi3 Nj.out.len) ?_;(try simp only [AX,Ad,Ac,Act.put,AW,Ab,AY]))|(refine SI JT _ _ rfl _ _ rfl (AD cur) _ LDB.out BH rfl (hi3 Ta.out.len) ?_;(try simp only [AX,Ad,Ac,Act.put,AW,Ab,AY]))|(go_big_quiet_step (fail)))
      refine Ba ?_;rintro _ ⟨x2,rfl⟩;go_wp2_with fail;go_roundw;case rel=>
       have bb:Below wr.heap.size wr x2.w:=BY.out.trans ((BG.out.trans (x2.h.mono BG.out.size)).mono BY.out.size);refine⟨j+1,by omega,by go_num,?_,?_,WN.out.trans (Fr.of bb),KB.out.keep bb⟩
       ·rw [HST.out,HE.out];simp
       ·rw [HST.out,HE.out];exact NI.out.below bb
      case measure=>exact Aa
     ·have heq:∀w,(binOp .eql 174 (.agg (AD jr).toArray) (.agg (AD cur).toArray)).run Tryz.prog w=.ok (.bool false) w:=fun w=>by
       have:=vN Nj.out.len Ta.out.len w
       rwa [show decide (jr=cur)=false from Aq Ml] at this
      have Ke:=A3 (show Cb (sj.1.Af.getD tn []) r≠sj.1.Af.getD tn [] by rw [XG.out,HJ.out];exact Ml);clear Ml;refine Cg A6 A6 ?_;repeat (first|(refine SI JT _ _ rfl _ _ rfl (AD jr) _ LDA.out BH rfl (hi3 Nj.out.len) ?_;(try simp only [AX,Ad,Ac,Act.put,AW,Ab,AY]))|(refine SI JT _ _ rfl _ _ rfl (AD cur) _ LDB.out BH rfl (hi3 Ta.out.len) ?_;(try simp only [AX,Ad,Ac,Act.put,AW,Ab,AY]))|(go_big_quiet_step (fail)))
      refine Ba ?_;rintro _ ⟨x2,rfl⟩;obtain⟨p6,p6f⟩:=Yh.out.UQ (t:=tn) Li;have ax:=Yh.out.Ez.UQ (t:=tn) Li;obtain⟨rp,Uq⟩:=AA (sj.1.rep.getD tn 0);rw [Uq] at p6 ax;have JH:=A3 Uq;have arf:rp≤70000000:=by rw [HN.out] at ax;omega
      have wrp:IntKind.i64.wrap (rp+1)=rp+1:=GN _ A0;clear Uq ax;by_cases hge:2≤rp
      ·have dge:decide (2≤rp)=true:=AR hge
       obtain⟨nr,QI⟩:=AA (List.zipWith Bd cur jr);have n16:Go.Proofs.YtlmgkipmfgijiaaGreatDoor.R16 nr:=by rw [←QI];exact Ta.out.XD Nj.out
       have hcw:=fun W=>dA 106 Bd (fun _ _=>by kernel_rfl) zO cur jr Ta.out.len Nj.out.len W;rw [QI] at hcw;have⟨YV,QV,HNR⟩:=B8 hcw n16 (show (if 2≤sj.1.rep.getD tn 0 then I0 (sj.1.Af.getD tn []) (Cb (sj.1.Af.getD tn []) r) else Cb (sj.1.Af.getD tn []) r)=nr by rw [JH.out,AE hge,XG.out,HJ.out];exact QI);clear hcw n16 QI hge;go_upto_region 16 with fail;refine ZF 9 A6 A6 ?_;simp only [Ew,List.take_zero,Er,List.drop_zero];repeat (first|(refine SI JT _ _ rfl _ _ rfl (AD jr) _ LDA.out BH rfl (hi3 Nj.out.len) ?_;(try simp only [AX,Ad,Ac,Act.put,AW,Ab,AY]))|(refine SI JT _ _ rfl _ _ rfl (AD cur) _ LDB.out BH rfl (hi3 Ta.out.len) ?_;(try simp only [AX,Ad,Ac,Act.put,AW,Ab,AY]))|(go_big_quiet_step (exact Calls.AQ (YV.out _))))
       refine Ba ?_;rintro _ ⟨x3,rfl⟩;go_upto_region 17 with (refine Bp rfl 174 (.tmp 12) (.tmp 101) rfl g2 (AD nr).toArray rfl rfl 174 _ (KG.out.keep x3.h) (hi4 QV.out.len) (hi6 QV.out.len Nj.out.len) (CX nr) ?_);obtain⟨Z1,Q2⟩:=AA (x3.w.setRow g2 (AD nr).toArray);rw [Q2];(try simp only [Act.put]);have UH:Below Y.heap.size Y Z1:=Q2▸Bt (BG.out.trans (x3.h.mono BG.out.size)) hg2 _;have T9:Am Z1 g2 174 nr:=Q2▸Am.row (KG.out.keep x3.h);clear Q2 heq dge;have Nr:=A3 (IX.out.below UH);obtain⟨r1,r2,r3,r4,r5⟩:=Nr.out.lt;obtain⟨-,-,-,s3,s4⟩:=Nr.out.cells;rw [HN.out] at s3 s4;have⟨KZ1,XN⟩:=AL T9 UH;have lg2:g2<Z1.heap.size:=T9.lt;have LDC:=A3 (show ∀w',(∃x:Ext Z1,w'=x.w)→w'.rangeAt g2 0 (AD nr) from by rintro _ ⟨x,rfl⟩;exact (KZ1.out.keep x.h).range);clear T9 UH p2 p3 p4 p6 p6f q1 q2 q3 q4 q5;refine JW 6 A6 A6 ?_;simp only [Ew,List.take_zero,Er,List.drop_zero];repeat (first|(refine SI JT _ _ rfl _ _ rfl (AD nr) _ LDC.out BH rfl (hi3 QV.out.len) ?_;(try simp only [AX,Ad,Ac,Act.put,AW,Ab,AY]))|(go_big_quiet_step (fail)))
       refine Ba ?_;rintro _ ⟨x4,rfl⟩;have Tl:=A3 (show x4.w.there ib (tn*32) (AD nr).toArray.size by
        rw [Iu,CZ,QV.out.len]
        exact ((Nr.out.below x4.h).there Li))
       go_upto_region 18 with (refine wpList_store_mid rfl 174 (.tmp 108) (.tmp 107) rfl ib (tn*32) (AD nr).toArray rfl rfl Tl.out (hi4 QV.out.len) (CX nr) ?_);(try simp only [Act.put]);have bx4:Below Y.heap.size Y x4.w:=XN.out.trans (x4.h.mono XN.out.size);obtain⟨O6,QS⟩:=IX.out.again bx4 Li R16.out IW.out Ke.out;rw [HNR.out,JH.out] at O6 QS;obtain⟨Z2,Qa⟩:=AA (x4.w.setCells ib (tn*32) (AD nr));rw [Qa] at O6 QS;have f2:Fr (fun k=>k=ib) Z1 Z2:=Qa▸(Fr.of x4.h).setCells _ (.inl rfl);rw [show x4.w.setCells ib (tn*32) (AD nr).toArray.toList=Z2 from Qa];obtain⟨m1,m2,m3,-,-,-,m7,m8,m9⟩:=Nr.out.ne;have t4:Z2.cell? ⟨ab,5,none⟩=_:=(f2.cell 5 r1 m2).trans s4;obtain⟨p7,T6⟩:=Nr.out.UQ (t:=tn) Li;rw [JH.out] at p7;have t6:Z2.cell? ⟨pb,tn,none⟩=some (.int .i64 rp):=(f2.cell tn r5 (fun e=>m9 e.symm)).trans p7;have t7:Z2.frozen? ⟨pb,tn,none⟩=false:=by
        have e:=f2.block pb r5 (fun e=>m9 e.symm);unfold World.frozen? at T6 ⊢;rw [e];exact T6
       have u1:ab<Z2.heap.size:=by have:=f2.size;omega
       have u5:pb<Z2.heap.size:=by have:=f2.size;omega
       have⟨HA5,Qu,X8⟩:=B8 O6 QS (KB.out.keep BY.out);clear Qa O6 QS f2 bx4 s3 s4 p7 T6;go_wp2_with fail;go_roundw;case rel=>
        have e2:(F7 sj.1 tn (some r)).2=true:=by unfold F7;simp only;rw [A9 (by rw [IW.out];simp),A9 Ke.out]
        refine⟨j+1,by omega,by go_num,?_,?_,(WN.out.trans (Fr.of BY.out)).trans Qu.out,(Qu.out.block b5 X8.out.lt rR).trans X8.out⟩
        ·rw [HST.out,e2];simp
        ·rw [HST.out];exact HA5.out
       case measure=>exact Aa
      ·have dge:decide (2≤rp)=false:=Aq hge
       obtain⟨nr,QI⟩:=AA jr;have⟨QV,HNR⟩:=AL (show Go.Proofs.YtlmgkipmfgijiaaGreatDoor.R16 nr from QI▸Nj.out) (show (if 2≤sj.1.rep.getD tn 0 then I0 (sj.1.Af.getD tn []) (Cb (sj.1.Af.getD tn []) r) else Cb (sj.1.Af.getD tn []) r)=nr by rw [JH.out,A9 hge,XG.out,HJ.out];exact QI);have rY:Am x2.w g2 174 nr:=QI▸KG.out.keep x2.h;clear QI hge;go_upto_region 17 with fail;obtain⟨Z1,Q2⟩:=AA x2.w;rw [Q2];have UH:Below Y.heap.size Y Z1:=Q2▸(BG.out.trans (x2.h.mono BG.out.size));have T9:Am Z1 g2 174 nr:=Q2▸rY;clear Q2 rY heq dge;have Nr:=A3 (IX.out.below UH);obtain⟨r1,r2,r3,r4,r5⟩:=Nr.out.lt;obtain⟨-,-,-,s3,s4⟩:=Nr.out.cells;rw [HN.out] at s3 s4;have⟨KZ1,XN⟩:=AL T9 UH;have lg2:g2<Z1.heap.size:=T9.lt;have LDC:=A3 (show ∀w',(∃x:Ext Z1,w'=x.w)→w'.rangeAt g2 0 (AD nr) from by rintro _ ⟨x,rfl⟩;exact (KZ1.out.keep x.h).range);clear T9 UH p2 p3 p4 p6 p6f q1 q2 q3 q4 q5;refine JW 6 A6 A6 ?_;simp only [Ew,List.take_zero,Er,List.drop_zero];repeat (first|(refine SI JT _ _ rfl _ _ rfl (AD nr) _ LDC.out BH rfl (hi3 QV.out.len) ?_;(try simp only [AX,Ad,Ac,Act.put,AW,Ab,AY]))|(go_big_quiet_step (fail)))
       refine Ba ?_;rintro _ ⟨x4,rfl⟩;have Tl:=A3 (show x4.w.there ib (tn*32) (AD nr).toArray.size by
        rw [Iu,CZ,QV.out.len]
        exact ((Nr.out.below x4.h).there Li))
       go_upto_region 18 with (refine wpList_store_mid rfl 174 (.tmp 108) (.tmp 107) rfl ib (tn*32) (AD nr).toArray rfl rfl Tl.out (hi4 QV.out.len) (CX nr) ?_);(try simp only [Act.put]);have bx4:Below Y.heap.size Y x4.w:=XN.out.trans (x4.h.mono XN.out.size);obtain⟨O6,QS⟩:=IX.out.again bx4 Li R16.out IW.out Ke.out;rw [HNR.out,JH.out] at O6 QS;obtain⟨Z2,Qa⟩:=AA (x4.w.setCells ib (tn*32) (AD nr));rw [Qa] at O6 QS;have f2:Fr (fun k=>k=ib) Z1 Z2:=Qa▸(Fr.of x4.h).setCells _ (.inl rfl);rw [show x4.w.setCells ib (tn*32) (AD nr).toArray.toList=Z2 from Qa];obtain⟨m1,m2,m3,-,-,-,m7,m8,m9⟩:=Nr.out.ne;have t4:Z2.cell? ⟨ab,5,none⟩=_:=(f2.cell 5 r1 m2).trans s4;obtain⟨p7,T6⟩:=Nr.out.UQ (t:=tn) Li;rw [JH.out] at p7;have t6:Z2.cell? ⟨pb,tn,none⟩=some (.int .i64 rp):=(f2.cell tn r5 (fun e=>m9 e.symm)).trans p7;have t7:Z2.frozen? ⟨pb,tn,none⟩=false:=by
        have e:=f2.block pb r5 (fun e=>m9 e.symm);unfold World.frozen? at T6 ⊢;rw [e];exact T6
       have u1:ab<Z2.heap.size:=by have:=f2.size;omega
       have u5:pb<Z2.heap.size:=by have:=f2.size;omega
       have⟨HA5,Qu,X8⟩:=B8 O6 QS (KB.out.keep BY.out);clear Qa O6 QS f2 bx4 s3 s4 p7 T6;go_wp2_with fail;go_roundw;case rel=>
        have e2:(F7 sj.1 tn (some r)).2=true:=by unfold F7;simp only;rw [A9 (by rw [IW.out];simp),A9 Ke.out]
        refine⟨j+1,by omega,by go_num,?_,?_,(WN.out.trans (Fr.of BY.out)).trans Qu.out,(Qu.out.block b5 X8.out.lt rR).trans X8.out⟩
        ·rw [HST.out,e2];simp
        ·rw [HST.out];exact HA5.out
       case measure=>exact Aa
  ·obtain rfl:j=u:=by omega
   have dl:decide ((j:Int)<(j:Int))=false:=by simp
   go_wp2_with fail;go_ret;have e:=HVR.out;rw [HU.out] at e;rw [e];exact⟨rfl,VO,WN.out⟩
def Bh (cd:Nat→Int) (G:List AV):List AB:=G.map fun x=>⟨codeFrom cd x.lo (x.hi - x.lo).toNat,x.nx⟩
structure Uy (n:Nat) (cd:Nat→Int) (G:List AV) (x:AV):Prop where
 lo:0≤x.lo
 lt:x.lo<x.hi
 Hf:x.nx.length≤1000
 nx:∀t∈x.nx,0≤t∧t<(G.length:Int)
 Na:∀a:Nat,x.lo≤(a:Int)→(a:Int)<x.hi→a<n∧(BB (cd a)).2=0∧0≤(Ak cd (a:Int)).op
theorem Sq (cd:Nat→Int) (lo:Int) (m:Nat):(codeFrom cd lo m).length=m:=by simp [codeFrom]
theorem kN (cd:Nat→Int) (G:List AV):(Bh cd G).length=G.length:=by simp [Bh]
theorem fY {cd:Nat→Int} {G:List AV} {k:Nat} {b:AB} (h:(Bh cd G)[k]?=some b):∃x,G[k]?=some x∧b=⟨codeFrom cd x.lo (x.hi - x.lo).toNat,x.nx⟩:=by
 unfold Bh at h;rw [Cr] at h;cases hx:G[k]? with
 | none=>rw [hx] at h;cases h
 | some x=>rw [hx] at h;cases h;exact⟨x,rfl,rfl⟩
theorem Uy.abw {n:Nat} {cd:Nat→Int} {G:List AV} {x:AV} (h:Uy n cd G x):ABw G.length ⟨codeFrom cd x.lo (x.hi - x.lo).toNat,x.nx⟩:=by
 have hm:0<(x.hi - x.lo).toNat:=by have:=h.lt;omega
 have QY:∀i∈codeFrom cd x.lo (x.hi - x.lo).toNat,0≤i.op:=fun i hi=>by
  unfold codeFrom at hi;obtain⟨j,hj,rfl⟩:=Bx.1 hi;have hj:=J9.1 hj;have h0:=h.lo;have:=(h.Na (x.lo.toNat+j) A0 A0).2.2
  rwa [show ((x.lo.toNat+j:Nat):Int)=x.lo+(j:Int) by omega] at this
 have hne:codeFrom cd x.lo (x.hi - x.lo).toNat≠[]:=by
  intro e;have:=Sq cd x.lo (x.hi - x.lo).toNat;rw [e] at this;simp at this;omega
 refine⟨⟨⟨QY,h.nx⟩,?_,QY⟩,hne,h.Hf,h.nx⟩;unfold AB.last;have hl:(codeFrom cd x.lo (x.hi - x.lo).toNat).length - 1<(codeFrom cd x.lo (x.hi - x.lo).toNat).length:=by rw [Sq];omega
 have e:(codeFrom cd x.lo (x.hi - x.lo).toNat).getD ((codeFrom cd x.lo (x.hi - x.lo).toNat).length - 1) ⟨0,0,0,0,0⟩=(codeFrom cd x.lo (x.hi - x.lo).toNat)[(codeFrom cd x.lo (x.hi - x.lo).toNat).length - 1]:=by simp [List.getD,Aj hl]
 show 0≤((codeFrom cd x.lo (x.hi - x.lo).toNat).getD ((codeFrom cd x.lo (x.hi - x.lo).toNat).length - 1) ⟨0,0,0,0,0⟩).op;rw [e];exact QY _ (Cn _)
theorem oD {X w':World} (hf:Below X.heap.size X w'):(∀b o,b<X.heap.size→w'.cell? ⟨b,o,none⟩=X.cell? ⟨b,o,none⟩)∧Below X.heap.size X w':=⟨fun b o hb=>hf.cell (p:=⟨b,o,none⟩) hb,hf⟩
theorem qP (w:World) (a b c d e:Value) (t:TypeId):∀j u,[a,b,c,d,e][j]?=some u→(w.alloc (.cells #[a,b,c,d,e] t)).cell? ((⟨w.heap.size,0,none⟩:Addr).add j)=some u:=by
 intro j u h;have e:(⟨w.heap.size,0,none⟩:Addr).add j=⟨w.heap.size,j,none⟩:=by cases j<;>simp [Addr.add]
 rw [e];unfold World.cell?;rw [Ai];simpa using h
theorem zL {w:World} {rb k:Nat} {T:TypeId} (h:w.heap[rb]?=some (.cells ((List.replicate k false).map Value.bool).toArray T (0,0))) (hk:0<k):w.cell? ⟨rb,0,none⟩=some (.bool false)∧w.frozen? ⟨rb,0,none⟩=false:=by
 constructor
 ·unfold World.cell?
  simp only [h];rw [Xv,Cr,dB,AE hk];rfl
 ·simp [World.frozen?,h]
def sH (B:Nat) (rv iv dv:Value):Prop:=∀q,(rv.ownBlock=some q∨iv.ownBlock=some q∨dv.ownBlock=some q)→B≤q
def D9 (f:Nat→List Ins) (k:Nat) (l:List Ins):Nat→List Ins:=fun i=>if i<k then f i else if i=k then l else []
theorem vU (f:Nat→List Ins):D9 f 0 []=fun _=>[]:=by funext i;simp [D9]
theorem SL (f:Nat→List Ins) (k:Nat) (l:List Ins):D9 f k l k=l:=by unfold D9;rw [A9 A0,AE rfl]
theorem rH (f:Nat→List Ins) (k:Nat) (l l':List Ins):upd (D9 f k l) k l'=D9 f k l':=by
 funext i;unfold upd D9;by_cases h:i=k
 ·rw [AE h,A9 A0,AE h]
 ·rw [A9 h,A9 h,A9 h]
theorem wC (f:Nat→List Ins) (k:Nat):D9 f k (f k)=D9 f (k+1) []:=by
 funext i;unfold D9;by_cases h1:i<k
 ·rw [AE h1,AE A0]
 ·rw [A9 h1]
  by_cases h2:i=k
  ·rw [AE h2,AE A0,h2]
  ·rw [A9 h2,A9 A0]
   split<;>rfl
def DW (cd:Nat→Int) (G:List AV) (k:Nat):List Ins:=codeFrom cd (G.getD k ⟨0,0,[]⟩).lo ((G.getD k ⟨0,0,[]⟩).hi - (G.getD k ⟨0,0,[]⟩).lo).toNat
theorem ve:(Tryz.prog.info? 67).map (fun i=>(i.zero,i.size,i.bytes))=some (some (.agg #[.int .u8 0,.int .i64 0,.int .i64 0,.int .i64 0,.int .i64 0]),5,40):=by kernel_rfl
theorem tG:(Tryz.prog.info? 4).map (fun i=>(i.zero,i.size,i.bytes))=some (some (.bool false),1,1):=by kernel_rfl
theorem amY:(Tryz.prog.info? 3).map (fun i=>(i.zero,i.size,i.bytes))=some (some (.int .i64 0),1,8):=by kernel_rfl
theorem sD:(Tryz.prog.info? 144).map (fun i=>(i.zero,i.size,i.bytes))=some (some (.slice none 0 0),1,24):=by kernel_rfl
theorem amT:(Tryz.prog.info? 174).map (fun i=>(i.zero,i.size,i.bytes))=some (some (.agg (AD Ao).toArray),32,128):=by kernel_rfl
def WV:Prop:=∀(cv ev bv pv:Value) (sh lk:Int) (n:Nat) (cd:Nat→Int) (G:List AV) (P:List (List Int)) (w:World) (T:C8 w) (HW:Words w cv n cd) (HG:Dc w bv G) (HP:CO w pv P) (hv:Ea G P) (hg0:0<G.length) (hg1:G.length≤1000) (hok:∀x∈G,Uy n cd G x),
  Calls Tryz.prog 52 #[.agg #[cv,ev,.int .i64 sh,.int .i64 lk],.agg #[bv,pv]] w fun e w'=>(∃s rv iv dv,Ends (Bh cd G) (EW G.length) s∧e=.returned (.tuple #[.agg #[rv,iv,dv],.int .i64 0])∧Tn w' rv iv s.reach s.Af∧U6 w' dv (GY (Bh cd G) s G.length)∧sH w.heap.size rv iv dv)∧Below w.heap.size w w'
end Go.Proofs.YtlmgkipmfgijiaaGreatDoor
