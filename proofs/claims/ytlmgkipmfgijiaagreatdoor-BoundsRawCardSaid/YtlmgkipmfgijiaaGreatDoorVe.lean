/-
  What is proved here: parts mPlain, mOrd, mVisit, mRev, mOrder, mNca, pPlain, mCom, mTree, pDom, pIncl.
-/
import Derived.Test.YtlmgkipmfgijiaaGreatDoorVa
import Derived.Test.YtlmgkipmfgijiaaGreatDoorVd
import Derived.Laws.EntriesVeiled
namespace Go.Proofs.YtlmgkipmfgijiaaGreatDoor
set_option linter.unusedVariables false
set_option linter.unusedSimpArgs false
set_option maxRecDepth 100000
set_option maxHeartbeats 8000000
open Go.RowKit
section
inductive Path (nx:Nat→List Nat):Nat→List Nat→Prop
 | nil:Path nx 0 [0]
 | step {p b:Nat} {l:List Nat}:Path nx p l→b∈nx p→Path nx b (b :: l)
inductive Wk (nx:Nat→List Nat) (pos:Nat→Nat):Nat→Nat→List Nat→Prop
 | nil (k:Nat):Wk nx pos k 0 [0]
 | fwd {k p b:Nat} {l:List Nat}:Wk nx pos k p l→b∈nx p→pos p<pos b→Wk nx pos k b (b :: l)
 | ret {k p b:Nat} {l:List Nat}:Wk nx pos k p l→b∈nx p→Wk nx pos (k+1) b (b :: l)
inductive KF (nx:Nat→List Nat) (pos:Nat→Nat) (a:Nat):Nat→Prop
 | refl:KF nx pos a a
 | step {p b:Nat}:KF nx pos a p→b∈nx p→pos p<pos b→KF nx pos a b
def Dom (nx:Nat→List Nat) (a b:Nat):Prop:=∀l,Path nx b l→a∈l
def dG (nx:Nat→List Nat) (pos:Nat→Nat) (k a b:Nat):Prop:=∀l,Wk nx pos k b l→a∈l
inductive Ah (D:List Int):Nat→Nat→Prop
 | self (b:Nat):Ah D b b
 | up {b a x:Nat}:D.getD b (-1)=(a:Int)→Ah D a x→Ah D b x
theorem Wk.path {nx:Nat→List Nat} {pos:Nat→Nat} {k b:Nat} {l:List Nat} (h:Wk nx pos k b l):Path nx b l:=by
 induction h with
 | nil k=>exact .nil
 | fwd _ h1 _ ih=>exact .step ih h1
 | ret _ h1 ih=>exact .step ih h1
theorem Wk.more {nx:Nat→List Nat} {pos:Nat→Nat} {k b:Nat} {l:List Nat} (h:Wk nx pos k b l):∀ {m:Nat},k≤m→Wk nx pos m b l:=by
 induction h with
 | nil k=>intro m _;exact .nil m
 | fwd _ h1 h2 ih=>intro m hm;exact .fwd (ih hm) h1 h2
 | ret _ h1 ih=>
  intro m hm;obtain⟨j,rfl⟩:∃j,m=j+1:=⟨m - 1,by omega⟩;exact .ret (ih A0) h1
theorem Wk.head {nx:Nat→List Nat} {pos:Nat→Nat} {k b:Nat} {l:List Nat} (h:Wk nx pos k b l):b∈l:=by cases h<;>simp
theorem Path.head {nx:Nat→List Nat} {b:Nat} {l:List Nat} (h:Path nx b l):b∈l:=by cases h<;>simp
theorem Path.zero {nx:Nat→List Nat} {b:Nat} {l:List Nat} (h:Path nx b l):0∈l:=by
 induction h with
 | nil=>simp
 | step _ _ ih=>exact F9 _ ih
theorem Path.cut {nx:Nat→List Nat} {b x:Nat} {l:List Nat} (h:Path nx b l) (hx:x∈l):∃l',Path nx x l'∧(∀z∈l',z∈l)∧(l.Nodup→l'.Nodup):=by
 induction h with
 | nil=>
  obtain rfl:x=0:=by simpa using hx
  exact⟨[0],.nil,fun _ h=>h,fun h=>h⟩
 | @step p b l h1 h2 ih=>
  rcases Di.1 hx with rfl|hx
  ·exact⟨_,.step h1 h2,fun _ h=>h,fun h=>h⟩
  ·obtain⟨l',h3,h4,h5⟩:=ih hx
   exact⟨l',h3,fun z hz=>F9 _ (h4 z hz),fun hn=>h5 (List.nodup_cons.1 hn).2⟩
theorem Wk.cut {nx:Nat→List Nat} {pos:Nat→Nat} {k b x:Nat} {l:List Nat} (h:Wk nx pos k b l) (hx:x∈l):∃l',Wk nx pos k x l'∧∀z∈l',z∈l:=by
 induction h with
 | nil k=>
  obtain rfl:x=0:=by simpa using hx
  exact⟨[0],.nil k,fun _ h=>h⟩
 | @fwd k p b l h1 h2 h3 ih=>
  rcases Di.1 hx with rfl|hx
  ·exact⟨_,.fwd h1 h2 h3,fun _ h=>h⟩
  ·obtain⟨l',h4,h5⟩:=ih hx
   exact⟨l',h4,fun z hz=>F9 _ (h5 z hz)⟩
 | @ret k p b l h1 h2 ih=>
  rcases Di.1 hx with rfl|hx
  ·exact⟨_,.ret h1 h2,fun _ h=>h⟩
  ·obtain⟨l',h4,h5⟩:=ih hx
   exact⟨l',h4.more (Nat.le_succ _),fun z hz=>F9 _ (h5 z hz)⟩
theorem Path.simple {nx:Nat→List Nat} {b:Nat} {l:List Nat} (h:Path nx b l):∃l',Path nx b l'∧l'.Nodup∧∀z∈l',z∈l:=by
 induction h with
 | nil=>exact⟨[0],.nil,by simp,fun _ h=>h⟩
 | @step p b l h1 h2 ih=>
  obtain⟨l',h3,h4,h5⟩:=ih;by_cases hb:b∈l'
  ·obtain⟨l2,h6,h7,h8⟩:=h3.cut hb
   exact⟨l2,h6,h8 h4,fun z hz=>F9 _ (h5 z (h7 z hz))⟩
  ·exact⟨b :: l',.step h3 h2,List.nodup_cons.2 ⟨hb,h4⟩,fun z hz=>by
    rcases Di.1 hz with rfl|hz
    ·exact Jo
    ·exact F9 _ (h5 z hz)⟩
theorem Path.wk {nx:Nat→List Nat} (pos:Nat→Nat) {b:Nat} {l:List Nat} (h:Path nx b l):Wk nx pos l.length b l:=by
 induction h with
 | nil=>exact .nil _
 | step _ h1 ih=>exact .ret ih h1
theorem OS:∀ {n:Nat} {l:List Nat},l.Nodup→(∀x∈l,x<n)→l.length≤n
 | 0,l,_,h=>by
  cases l with
  | nil=>simp
  | cons a l=>exact absurd (h a AO) A0
 | n+1,l,hn,h=>by
  have h1:(l.filter (·≠n)).length≤n:=OS (hn.filter _) fun x hx=>by
   have:=Sz.1 hx;have h2:=h x this.1;have h3:x≠n:=by simpa using this.2
   omega
  have h2:(l.filter (· = n)).length≤1:=by
   have h3:∀y∈l.filter (· = n),y=n:=fun y hy=>by simpa using (Sz.1 hy).2
   have h4:=hn.filter (fun x=>decide (x=n));match hm:l.filter (· = n) with
   | []=>simp
   | [a]=>simp
   | a :: b :: m=>
    rw [hm] at h3 h4;have:=h3 a AO;have:=h3 b AO;simp at h4;omega
  have h3:=List.length_eq_countP_add_countP (l:=l) (fun x=>decide (x=n));rw [List.countP_eq_length_filter,List.countP_eq_length_filter] at h3;have h4:(l.filter (fun x=>decide ¬decide (x=n)=true)).length=(l.filter (·≠n)).length:=by congr 1;apply List.filter_congr;simp
  omega
structure Gr (n:Nat) (nx:Nat→List Nat) (ord:List Nat) (pos:Nat→Nat):Prop where
 n0:0<n
 z:ord[0]?=some 0
 lt:∀b∈ord,b<n
 at_:∀i b,ord[i]?=some b→pos b=i
 closed:∀p∈ord,∀b∈nx p,b∈ord
 tree:∀b∈ord,b≠0→∃p∈ord,b∈nx p∧pos p<pos b
section
variable {n:Nat} {nx:Nat→List Nat} {ord:List Nat} {pos:Nat→Nat} {D:List Int}
theorem Gr.zero (g:Gr n nx ord pos):0∈ord:=Bf g.z
theorem Gr.mem (g:Gr n nx ord pos) {b:Nat} {l:List Nat} (h:Path nx b l):b∈ord∧∀x∈l,x∈ord:=by
 induction h with
 | nil=>exact⟨g.zero,fun x hx=>by
   obtain rfl:x=0:=by simpa using hx
   exact g.zero⟩
 | @step p b l h1 h2 ih=>
  have:=g.closed p ih.1 _ h2;exact⟨this,fun x hx=>by
   rcases Di.1 hx with rfl|hx
   ·exact this
   ·exact ih.2 x hx⟩
theorem Gr.idx (g:Gr n nx ord pos) {b:Nat} (hb:b∈ord):ord[pos b]?=some b:=by
 obtain⟨i,hi⟩:=LH.1 hb;rw [g.at_ i b hi];exact hi
theorem Gr.inj (g:Gr n nx ord pos) {a b:Nat} (ha:a∈ord) (hb:b∈ord) (h:pos a=pos b):a=b:=by
 have h1:=g.idx ha;have h2:=g.idx hb;rw [h,h2] at h1;exact (Gl h1).symm
theorem Gr.Vl (g:Gr n nx ord pos):pos 0=0:=g.at_ 0 0 g.z
theorem Gr.reach (g:Gr n nx ord pos):∀(i:Nat) {b:Nat},b∈ord→pos b≤i→∃l,Path nx b l
 | i,b,hb,hi=>by
  by_cases h0:b=0
  ·subst h0;exact⟨_,.nil⟩
  ·obtain⟨p,h1,h2,h3⟩:=g.tree b hb h0
   match i with
   | 0=>omega
   | i+1=>
    obtain⟨l,hl⟩:=g.reach i h1 A0;exact⟨_,.step hl h2⟩
theorem Gr.path (g:Gr n nx ord pos) {b:Nat} (hb:b∈ord):∃l,Path nx b l:=g.reach _ hb (AH _)
theorem Gr.rZ (g:Gr n nx ord pos) {k a b:Nat} (hk:n≤k):dG nx pos k a b↔Dom nx a b:=by
 constructor
 ·intro h l hl
  obtain⟨l',h1,h2,h3⟩:=hl.simple;have h4:=OS h2 fun x hx=>g.lt x ((g.mem h1).2 x hx);exact h3 a (h l' ((h1.wk pos).more A0))
 ·exact fun h l hl=>h l hl.path
theorem KF.le {a b:Nat} (h:KF nx pos a b):pos a≤pos b:=by
 induction h with
 | refl=>exact AH _
 | step _ _ h2 ih=>omega
theorem KF.trans {a b c:Nat} (h:KF nx pos a b) (k:KF nx pos b c):KF nx pos a c:=by
 induction k with
 | refl=>exact h
 | step _ h1 h2 ih=>exact .step ih h1 h2
theorem KF.path {b y:Nat} {l:List Nat} (h:KF nx pos b y) (hl:Path nx b l):∃l',Path nx y l'∧∀z∈l',z∈l∨pos b≤pos z:=by
 induction h with
 | refl=>exact⟨l,hl,fun z hz=>.inl hz⟩
 | @step p y h1 h2 h3 ih=>
  obtain⟨l',h4,h5⟩:=ih;refine⟨_,.step h4 h2,fun z hz=>?_⟩;rcases Di.1 hz with rfl|hz
  ·have:=h1.le;exact .inr A0
  ·exact h5 z hz
theorem Dom.aiF {x b y:Nat} (h:Dom nx x y) (hs:KF nx pos b y) (hp:pos x<pos b):Dom nx x b:=fun l hl=>by
 obtain⟨l',h1,h2⟩:=hs.path hl;rcases h2 x (h l' h1) with h3|h3
 ·exact h3
 ·omega
def CL (D:List Int) (b:Nat):Prop:=b=0∨0≤D.getD b (-1)
structure TI (n:Nat) (nx:Nat→List Nat) (ord:List Nat) (pos:Nat→Nat) (D:List Int):Prop where
 len:D.length=n
 z:D.getD 0 (-1) = -1
 ge:∀b,-1≤D.getD b (-1)
 up:∀b a:Nat,D.getD b (-1)=(a:Int)→b∈ord∧a∈ord∧pos a<pos b∧CL D a∧KF nx pos a b
 over:∀b∈ord,CL D b→∀x,Dom nx x b→Ah D b x
theorem Ah.trans {a b c:Nat} (h:Ah D a b) (k:Ah D b c):Ah D a c:=by
 induction h with
 | self=>exact k
 | up h1 _ ih=>exact .up h1 (ih k)
theorem TI.Ob (t:TI n nx ord pos D) {b x:Nat} (h:Ah D b x):KF nx pos x b∧(CL D b→CL D x)∧(b∈ord→x∈ord)∧(b≠x→pos x<pos b):=by
 induction h with
 | self=>exact⟨.refl,id,id,fun h=>absurd rfl h⟩
 | @up b a x h1 h2 ih=>
  obtain⟨c1,c2,c3,c4,c5⟩:=t.up _ _ h1;exact⟨ih.1.trans c5,fun _=>ih.2.1 c4,fun _=>ih.2.2.1 c2,fun _=>by have:=ih.1.le;omega⟩
theorem TI.le (t:TI n nx ord pos D) {b x:Nat} (h:Ah D b x):pos x≤pos b:=(t.Ob h).1.le
theorem Ah.zero (t:TI n nx ord pos D) {x:Nat} (h:Ah D 0 x):x=0:=by
 cases h with
 | self=>rfl
 | up h1 _=>rw [t.z] at h1;omega
theorem Ah.step {b a x:Nat} (h:D.getD b (-1)=(a:Int)):Ah D b x↔x=b∨Ah D a x:=by
 constructor
 ·intro k
  cases k with
  | self=>exact .inl rfl
  | up h1 h2=>rw [h] at h1;obtain rfl:=Int.ofNat.inj h1;exact .inr h2
 ·rintro (rfl|k)
  ·exact .self _
  ·exact .up h k
theorem Ah.line {y b x:Nat} (h:Ah D y b) (k:Ah D y x):Ah D b x∨Ah D x b:=by
 induction h with
 | self=>exact .inl k
 | @up y a b h1 h2 ih=>
  rcases (Ah.step h1).1 k with rfl|k
  ·exact .inr (.up h1 h2)
  ·exact ih k
def Nca (nx:Nat→List Nat) (D:List Int) (b c:Nat):Prop:=∀x,Ah D c x↔∀p,b∈nx p→CL D p→Ah D p x
section
variable {D':List Int} {b c:Nat}
theorem cK (hb:b<D.length):(D.set b (c:Int)).getD b (-1)=c:=by simp [List.getD,hb]
theorem Sa {y:Nat} (h:y≠b):(D.set b (c:Int)).getD y (-1)=D.getD y (-1):=by simp [List.getD,fh (Ds h)]
theorem Ah.keep {y x:Nat} (h:Ah D y x) (hn:∀z,Ah D y z→Ah D z x→z≠x→z≠b):Ah (D.set b (c:Int)) y x:=by
 induction h with
 | self=>exact .self _
 | @up y a x h1 h2 ih=>
  by_cases hx:y=x
  ·subst hx;exact .self _
  ·have h3:=hn y (.self _) (.up h1 h2) hx
   exact .up ((Sa h3).trans h1) (ih fun z h4 h5 h6=>hn z (.up h1 h4) h5 h6)
theorem Ah.back {y x:Nat} (h:Ah (D.set b (c:Int)) y x):Ah D y x∨Ah D y b∧Ah (D.set b (c:Int)) b x:=by
 induction h with
 | self=>exact .inl (.self _)
 | @up y a x h1 h2 ih=>
  by_cases hy:y=b
  ·subst hy;exact .inr ⟨.self _,.up h1 h2⟩
  ·rw [Sa hy] at h1
   rcases ih with ih|⟨i1,i2⟩
   ·exact .inl (.up h1 ih)
   ·exact .inr ⟨.up h1 i1,i2⟩
end
theorem TI.keep (t:TI n nx ord pos D) {b c y x:Nat} (h:Ah D y x) (hp:pos b≤pos x):Ah (D.set b (c:Int)) y x:=
 h.keep fun z _ h2 h3=>by
  have:=(t.Ob h2).2.2.2 h3;rintro rfl;omega
theorem TI.low (t:TI n nx ord pos D) {b c y x:Nat} (h:Ah D y x) (hp:pos y<pos b):Ah (D.set b (c:Int)) y x:=
 h.keep fun z h1 _ _=>by
  have:=t.le h1;rintro rfl;omega
theorem gC {b c y:Nat} (h:CL D y):CL (D.set b (c:Int)) y:=by
 rcases h with h|h
 ·exact .inl h
 ·by_cases hy:y=b
  ·subst hy
   by_cases hb:y<D.length
   ·right;rw [cK hb];omega
   ·rw [List.set_eq_of_length_le A0];exact .inr h
  ·right;rw [Sa hy];exact h
structure R9 (nx:Nat→List Nat) (ord:List Nat) (pos:Nat→Nat) (D:List Int) (b c:Nat):Prop where
 hb:b∈ord
 h0:b≠0
 Ud:Nca nx D b c
 prev:∀p∈ord,pos p<pos b→CL D p
theorem R9.tree (g:Gr n nx ord pos) (t:TI n nx ord pos D) {b c:Nat} (s:R9 nx ord pos D b c):∃p∈ord,b∈nx p∧pos p<pos b∧Ah D p c:=by
 obtain⟨p,h1,h2,h3⟩:=g.tree b s.hb s.h0;exact⟨p,h1,h2,h3,(s.Ud c).1 (.self _) p h2 (s.prev p h1 h3)⟩
theorem TI.step (g:Gr n nx ord pos) (t:TI n nx ord pos D) {b c:Nat} (s:R9 nx ord pos D b c):TI n nx ord pos (D.set b (c:Int)):=by
 obtain⟨p,p1,p2,p3,p4⟩:=s.tree g t;have hbl:b<D.length:=by rw [t.len];exact g.lt b s.hb
 have Yw:=t.le p4;have hcb:pos c<pos b:=by omega
 have Ln:KF nx pos c b:=.step (t.Ob p4).1 p2 p3;have Yk:(D.set b (c:Int)).getD b (-1)=c:=cK hbl;have hcc:CL D c:=(t.Ob p4).2.1 (s.prev p p1 p3);have uR:∀x,Dom nx x b→Ah (D.set b (c:Int)) b x:=fun x hx=>by
  by_cases hxb:x=b
  ·subst hxb;exact .self _
  ·refine .up Yk (t.low ((s.Ud x).2 fun q q1 q2=>?_) hcb)
   by_cases hq:q∈ord
   ·refine t.over q hq q2 x fun l hl=>?_
    rcases Di.1 (hx _ (.step hl q1)) with h|h
    ·exact absurd h hxb
    ·exact h
   ·rcases q2 with rfl|q2
    ·exact absurd g.zero hq
    ·exact absurd (t.up q _ (P6 q2).symm).1 hq
 refine⟨by simp [t.len],?_,fun y=>?_,fun y a h=>?_,fun y hy hp x hx=>?_⟩
 ·rw [Sa (Ds s.h0)];exact t.z
 ·by_cases hy:y=b
  ·subst hy;rw [Yk];omega
  ·rw [Sa hy];exact t.ge y
 ·by_cases hy:y=b
  ·subst hy
   rw [Yk] at h;obtain rfl:=Int.ofNat.inj h;exact⟨s.hb,(t.Ob p4).2.2.1 p1,hcb,gC hcc,Ln⟩
  ·rw [Sa hy] at h
   obtain⟨h1,h2,h3,h4,h5⟩:=t.up y a h;exact⟨h1,h2,h3,gC h4,h5⟩
 ·by_cases hyb:y=b
  ·subst hyb;exact uR x hx
  ·have hp':CL D y:=by
    rcases hp with hp|hp
    ·exact .inl hp
    ·rw [Sa hyb] at hp;exact .inr hp
   have h1:=t.over y hy hp' x hx;by_cases dM:Ah D y b
   ·rcases dM.line h1 with h2|h2
    ·by_cases hxb:b=x
     ·subst hxb;exact t.keep h1 (AH _)
     ·exact (t.keep dM (AH _)).trans (uR x (hx.aiF (t.Ob dM).1 ((t.Ob h2).2.2.2 hxb)))
    ·exact t.keep h1 (t.le h2)
   ·exact h1.keep fun z h2 _ _=>by rintro rfl;exact dM h2
def UF (nx:Nat→List Nat) (ord:List Nat) (pos:Nat→Nat) (D:List Int) (k i:Nat):Prop:=
 ∀y∈ord,CL D y→∀x,Ah D y x→(pos y<i→dG nx pos k x y)∧(i≤pos y→∃j,k=j+1∧dG nx pos j x y)
theorem UF.step (g:Gr n nx ord pos) (t:TI n nx ord pos D) {b c k:Nat} (s:R9 nx ord pos D b c) (hk:0<k→∀p∈ord,CL D p) (u:UF nx ord pos D k (pos b)):UF nx ord pos (D.set b (c:Int)) k (pos b+1):=by
 obtain⟨p,p1,p2,p3,p4⟩:=s.tree g t;have hbl:b<D.length:=by rw [t.len];exact g.lt b s.hb
 have Yk:(D.set b (c:Int)).getD b (-1)=c:=cK hbl;have hcb:pos c<pos b:=by have:=t.le p4;omega
 have ofb:∀x,Ah (D.set b (c:Int)) b x→dG nx pos k x b:=fun x hx=>by
  rcases (Ah.step Yk).1 hx with rfl|hx
  ·exact fun l hl=>hl.head
  ·have hx:Ah D c x:=by
    rcases hx.back with h|⟨h,_⟩
    ·exact h
    ·have:=t.le h;omega
   have hx:=(s.Ud x).1 hx;intro l hl;cases hl with
   | nil=>exact absurd rfl s.h0
   | @fwd _ q _ l h1 h2 h3=>
    have hq:=(g.mem h1.path).1;have hp:=s.prev q hq h3;exact F9 _ ((u q hq hp x (hx q h2 hp)).1 h3 l h1)
   | @ret k q _ l h1 h2=>
    have hq:=(g.mem h1.path).1;have hp:=hk A0 q hq;by_cases h3:pos q<pos b
    ·exact F9 _ ((u q hq hp x (hx q h2 hp)).1 h3 l (h1.more (Nat.le_succ _)))
    ·obtain⟨j,hj,h4⟩:=(u q hq hp x (hx q h2 hp)).2 A0
     obtain rfl:k=j:=by omega
     exact F9 _ (h4 l h1)
 intro y hy hp x hx;by_cases hyb:y=b
 ·subst hyb
  exact⟨fun _=>ofb x hx,fun h=>by omega⟩
 ·have hp':CL D y:=by
   rcases hp with hp|hp
   ·exact .inl hp
   ·rw [Sa hyb] at hp;exact .inr hp
  have hne:pos y≠pos b:=fun h=>hyb (g.inj hy s.hb h);rcases hx.back with h|⟨h1,h2⟩
  ·have:=u y hy hp' x h
   exact⟨fun h=>this.1 A0,fun h=>this.2 A0⟩
  ·have h3:=u y hy hp' b h1
   have h4:=ofb x h2;refine⟨fun h l hl=>?_,fun h=>?_⟩
   ·obtain⟨l2,h5,h6⟩:=hl.cut (h3.1 A0 l hl)
    exact h6 x (h4 l2 h5)
   ·obtain⟨j,rfl,h5⟩:=h3.2 A0
    refine⟨j,rfl,fun l hl=>?_⟩;obtain⟨l2,h6,h7⟩:=hl.cut (h5 l hl);exact h7 x (h4 l2 (h6.more (Nat.le_succ _)))
def Exact (nx:Nat→List Nat) (ord:List Nat) (D:List Int):Prop:=∀y∈ord,∀x,Ah D y x↔Dom nx x y
theorem UF.exact (g:Gr n nx ord pos) (t:TI n nx ord pos D) {k i:Nat} (hn:n<k) (hall:∀p∈ord,CL D p) (u:UF nx ord pos D k i):Exact nx ord D:=fun y hy x=>by
 refine⟨fun h=>?_,fun h=>t.over y hy (hall y hy) x h⟩;have:=u y hy (hall y hy) x h;by_cases h1:pos y<i
 ·exact (g.rZ A0).1 (this.1 h1)
 ·obtain⟨j,rfl,h2⟩:=this.2 A0
  exact (g.rZ A0).1 h2
theorem Ah.antisymm (t:TI n nx ord pos D) {a b:Nat} (h:Ah D a b) (k:Ah D b a):a=b:=by
 by_cases hab:a=b
 ·exact hab
 ·have h1:=(t.Ob h).2.2.2 hab
  have h2:=(t.Ob k).2.2.2 (Ds hab);omega
theorem Exact.same (g:Gr n nx ord pos) (t:TI n nx ord pos D) (he:Exact nx ord D) (hall:∀p∈ord,CL D p) {b c:Nat} (s:R9 nx ord pos D b c):D.getD b (-1)=c:=by
 obtain⟨p,p1,p2,p3,p4⟩:=s.tree g t;rcases hall b s.hb with h0|h0
 ·exact absurd h0 s.h0
 obtain⟨a,ha⟩:∃a:Nat,D.getD b (-1)=(a:Int):=⟨_,(P6 h0).symm⟩;obtain⟨c1,c2,c3,c4,c5⟩:=t.up _ _ ha;have hca:Ah D c a:=(s.Ud a).2 fun q q1 q2=>by
  by_cases hq:q∈ord
  ·refine (he q hq a).2 fun l hl=>?_
   rcases Di.1 ((he b s.hb a).1 (.up ha (.self _)) _ (.step hl q1)) with h|h
   ·subst h;omega
   ·exact h
  ·rcases q2 with rfl|q2
   ·exact absurd g.zero hq
   ·exact absurd (t.up q _ (P6 q2).symm).1 hq
 have hbc:Ah D b c:=(he b s.hb c).2 fun l hl=>by
  cases hl with
  | nil=>exact absurd rfl s.h0
  | @step q _ l h1 h2=>
   have hq:=(g.mem h1).1;exact F9 _ ((he q hq c).1 ((s.Ud c).1 (.self _) q h2 (hall q hq)) l h1)
 have hcb:c≠b:=by rintro rfl;have:=t.le p4;omega
 have hac:Ah D a c:=by
  rcases (Ah.step ha).1 hbc with h|h
  ·exact absurd h hcb
  ·exact h
 rw [ha,hac.antisymm t hca]
theorem aqE (g:Gr n nx ord pos) (t:TI n nx ord pos D) (hall:∀p∈ord,CL D p) (hf:∀b∈ord,b≠0→∃c:Nat,D.getD b (-1)=(c:Int)∧Nca nx D b c):Exact nx ord D:=fun y hy x=>by
 refine⟨fun h l hl=>?_,fun h=>t.over y hy (hall y hy) x h⟩;induction hl generalizing x with
 | nil=>simp [h.zero t]
 | @step p b l h1 h2 ih=>
  by_cases h0:b=0
  ·subst h0;simp [h.zero t]
  ·obtain⟨c,hc,hn⟩:=hf b hy h0
   have hp:=(g.mem h1).1;rcases (Ah.step hc).1 h with rfl|h
   ·exact Jo
   ·exact F9 _ (ih hp x ((hn x).1 h p h2 (hall p hp)))
theorem UF.first (g:Gr n nx ord pos) (hD:∀b,D.getD b (-1) = -1):UF nx ord pos D 0 1:=fun y hy hp x hx=>by
 rcases hp with rfl|hp
 ·have:x=0:=by
   cases hx with
   | self=>rfl
   | up h1 _=>rw [hD] at h1;omega
  subst this;exact⟨fun _ l hl=>hl.head,fun h=>by rw [g.Vl] at h;omega⟩
 ·rw [hD] at hp;omega
theorem TI.first (hl:D.length=n) (hD:∀b,D.getD b (-1) = -1):TI n nx ord pos D:=by
 refine⟨hl,hD 0,fun b=>by rw [hD];omega,fun b a h=>by rw [hD] at h;omega,fun b _ hp x hx=>?_⟩;rcases hp with rfl|hp
 ·have:=hx _ .nil
  obtain rfl:x=0:=by simpa using this
  exact .self _
 ·rw [hD] at hp;omega
theorem UF.next {k:Nat} (g:Gr n nx ord pos) (u:UF nx ord pos D k ord.length):UF nx ord pos D (k+1) 1:=fun y hy hp x hx=>by
 have h1:pos y<ord.length:=(Bl.1 (g.idx hy)).1;have h2:=(u y hy hp x hx).1 h1;refine⟨fun h=>?_,fun _=>⟨k,rfl,h2⟩⟩;obtain rfl:y=0:=g.inj hy g.zero (by rw [g.Vl];omega);intro l hl;have h3:=h2 _ (.nil k);obtain rfl:x=0:=by simpa using h3
 exact hl.head
theorem Exact.unique {D E:List Int} (g:Gr n nx ord pos) (t:TI n nx ord pos D) (s:TI n nx ord pos E) (h:Exact nx ord D) (k:Exact nx ord E) (hd:∀p∈ord,CL D p) (he:∀p∈ord,CL E p):D=E:=by
 have hlen:D.length=E.length:=t.len.trans s.len.symm;have key:∀b,D.getD b (-1)=E.getD b (-1):=fun b=>by
  by_cases hb:b∈ord
  ·by_cases h0:b=0
   ·subst h0;rw [t.z,s.z]
   ·rcases hd b hb with h1|h1
    ·exact absurd h1 h0
    rcases he b hb with h2|h2
    ·exact absurd h2 h0
    obtain⟨a,ha⟩:∃a:Nat,D.getD b (-1)=(a:Int):=⟨_,(P6 h1).symm⟩;obtain⟨c,hc⟩:∃a:Nat,E.getD b (-1)=(a:Int):=⟨_,(P6 h2).symm⟩;have pa:=(t.up _ _ ha).2.2.1;have pc:=(s.up _ _ hc).2.2.1;have e1:Ah E b a:=(k b hb a).2 ((h b hb a).1 (.up ha (.self _)));have e2:Ah D b c:=(h b hb c).2 ((k b hb c).1 (.up hc (.self _)));have hab:a≠b:=by rintro rfl;omega
    have hcb:c≠b:=by rintro rfl;omega
    rcases (Ah.step ha).1 e2 with e3|e3
    ·exact absurd e3 hcb
    rcases (Ah.step hc).1 e1 with e4|e4
    ·exact absurd e4 hab
    have:=t.le e3;have:=s.le e4;have:a=c:=g.inj (t.up _ _ ha).2.1 (s.up _ _ hc).2.1 A0;rw [ha,hc,this]
  ·rcases Int.lt_or_le (D.getD b (-1)) 0 with h1|h1
   ·rcases Int.lt_or_le (E.getD b (-1)) 0 with h2|h2
    ·have:=t.ge b;have:=s.ge b;omega
    ·exact absurd (s.up b _ (P6 h2).symm).1 hb
   ·exact absurd (t.up b _ (P6 h1).symm).1 hb
 apply MJ hlen;intro i h1 h2;have:=key i;simpa [List.getD,Aj h1,Aj h2] using this
end
end
abbrev DS:=List Bool×List Nat
def Mg (nx:Nat→List Nat):Nat→Nat→DS→DS
 | 0,_,s=>s
 | f+1,b,s=>
  let s1:=(nx b).foldl (fun s t=>if s.1.getD t false=true then s else Mg nx f t s) (s.1.set b true,s.2)
  (s1.1,s1.2++[b])
def Hi (nx:Nat→List Nat) (f:Nat) (l:List Nat) (s:DS):DS:=l.foldl (fun s t=>if s.1.getD t false=true then s else Mg nx f t s) s
theorem rP (nx:Nat→List Nat) (f b:Nat) (s:DS):Mg nx (f+1) b s=((Hi nx f (nx b) (s.1.set b true,s.2)).1,(Hi nx f (nx b) (s.1.set b true,s.2)).2++[b]):=rfl
def unseen (s:List Bool):Nat:=s.countP (· = false)
structure JL (nx:Nat→List Nat) (ts:List Nat) (M:List Nat) (s s':DS):Prop where
 len:s'.1.length=s.1.length
 out:s'.2=s.2++M
 seen:∀x,s'.1[x]?=some true↔s.1[x]?=some true∨x∈M
 fresh:∀x∈M,s.1[x]?=some false
 nodup:M.Nodup
 closed:∀x∈M,∀t∈nx x,s'.1[t]?=some true
 tree:∀M1 x M2,M=M1++x :: M2→(∃p∈M2,x∈nx p)∨x∈ts
theorem aM {s:List Bool} {x:Nat} (h:x<s.length):s[x]?=some true∨s[x]?=some false:=by
 rw [Aj h];cases s[x]<;>simp
theorem fL {s:List Bool} {x:Nat}:s.getD x false=true↔s[x]?=some true:=by
 rw [List.getD];cases h:s[x]? with
 | none=>simp
 | some v=>cases v<;>simp
theorem JL.nil {nx:Nat→List Nat} {ts:List Nat} {s:DS}:JL nx ts [] s s:=⟨rfl,by simp,by simp,by simp,by simp,by simp,fun M1 x M2 h=>by cases M1<;>cases h⟩
theorem JL.trans {nx:Nat→List Nat} {ts M N:List Nat} {s s1 s2:DS} (h:JL nx ts M s s1) (k:JL nx ts N s1 s2):JL nx ts (M++N) s s2:=by
 refine⟨k.len.trans h.len,by rw [k.out,h.out,X5],fun x=>?_,fun x hx=>?_,?_,fun x hx t ht=>?_,fun M1 x M2 he=>?_⟩
 ·rw [k.seen,h.seen,CG,or_assoc]
 ·rcases CG.1 hx with hx|hx
  ·exact h.fresh x hx
  ·have h1:=k.fresh x hx
   have h2:x<s.1.length:=by rw [←h.len];exact (Bl.1 h1).1
   rcases aM h2 with h3|h3
   ·have h4:=(h.seen x).2 (.inl h3)
    rw [h1] at h4;cases h4
   ·exact h3
 ·refine cZ.2 ⟨h.nodup,k.nodup,fun a ha b hb=>?_⟩
  rintro rfl;have h1:=(h.seen a).2 (.inr ha);rw [k.fresh a hb] at h1;cases h1
 ·rcases CG.1 hx with hx|hx
  ·exact (k.seen t).2 (.inl (h.closed x hx t ht))
  ·exact k.closed x hx t ht
 ·rcases List.append_eq_append_iff.1 he with⟨a,ha,hb⟩|⟨a,ha,hb⟩
  ·exact k.tree a x M2 hb
  ·cases a with
   | nil=>exact k.tree [] x M2 (by simpa using hb.symm)
   | cons y a=>
    simp only [iX,ZU] at hb;obtain⟨rfl,rfl⟩:=hb;rcases h.tree M1 x a ha with⟨p,hp,h2⟩|h2
    ·exact .inl ⟨p,Ty _ hp,h2⟩
    ·exact .inr h2
theorem JL.more {nx:Nat→List Nat} {ts us M:List Nat} {s s1:DS} (h:JL nx ts M s s1) (hu:∀x∈ts,x∈us):JL nx us M s s1:=
 ⟨h.len,h.out,h.seen,h.fresh,h.nodup,h.closed,fun M1 x M2 he=>(h.tree M1 x M2 he).imp_right (hu x)⟩
theorem XT {s:List Bool} {b:Nat} (h:s[b]?=some false):unseen s=unseen (s.set b true)+1:=by
 obtain⟨hb,hv⟩:=Bl.1 h;unfold unseen;have e1:s=s.take b++s[b] :: s.drop (b+1):=by rw [List.getElem_cons_drop,ZM]
 have e2:s.set b true=s.take b++true :: s.drop (b+1):=List.set_eq_take_append_cons_drop .. |>.trans (by rw [AE hb])
 rw [e2];conv=>lhs;rw [e1]
 rw [gh,gh,TG,TG,hv];simp;omega
theorem JL.unseen {nx:Nat→List Nat} {ts M:List Nat} {s s1:DS} (h:JL nx ts M s s1):unseen s1.1≤unseen s.1:=by
 have key:∀(a b:List Bool),a.length=b.length→(∀x:Nat,b[x]?=some true→a[x]?=some true)→Go.Proofs.YtlmgkipmfgijiaaGreatDoor.unseen a≤Go.Proofs.YtlmgkipmfgijiaaGreatDoor.unseen b:=by
  intro a;induction a with
  | nil=>intro b _ _;exact Ck _
  | cons x a ih=>
   intro b hl hh;cases b with
   | nil=>cases hl
   | cons y b=>
    have h1:=ih b aH fun z hz=>by have:=hh (z+1) (by simpa using hz);simpa using this
    have h2:=hh 0;unfold Go.Proofs.YtlmgkipmfgijiaaGreatDoor.unseen at h1 ⊢;rw [TG,TG];cases x<;>cases y<;>simp at h1 h2 ⊢ <;> omega
 exact key _ _ h.len fun x hx=>(h.seen x).2 (.inl hx)
theorem oX {n:Nat} {nx:Nat→List Nat} {f:Nat} (ih:∀(b:Nat) (s:DS),s.1.length=n→unseen s.1≤f→s.1[b]?=some false→∃M,JL nx [b] (M++[b]) s (Mg nx f b s)):∀(ts:List Nat) (s0:DS),(∀t∈ts,t<n)→s0.1.length=n→unseen s0.1≤f→∃M,JL nx ts M s0 (Hi nx f ts s0)∧∀t∈ts,(Hi nx f ts s0).1[t]?=some true:=by
 intro ts;induction ts with
 | nil=>intro s0 _ _ _;exact⟨[],.nil,by simp⟩
 | cons t ts ih2=>
  intro s0 htn hl0 hu0;have htt:=htn t AO;by_cases hs:s0.1.getD t false=true
  ·obtain⟨M,h1,h2⟩:=ih2 s0 (fun x hx=>htn x (F9 _ hx)) hl0 hu0
   have e:Hi nx f (t :: ts) s0=Hi nx f ts s0:=by unfold Hi;rw [Me,AE hs]
   rw [e];refine⟨M,h1.more fun x hx=>F9 _ hx,fun x hx=>?_⟩;rcases Di.1 hx with rfl|hx
   ·exact (h1.seen x).2 (.inl (fL.1 hs))
   ·exact h2 x hx
  ·have hs1:s0.1[t]?=some false:=by
    rcases aM (show t<s0.1.length by omega) with h|h
    ·exact absurd (fL.2 h) hs
    ·exact h
   obtain⟨M,h1⟩:=ih t s0 hl0 hu0 hs1;obtain⟨N,h2,h3⟩:=ih2 (Mg nx f t s0) (fun x hx=>htn x (F9 _ hx)) (h1.len.trans hl0) (EM h1.unseen hu0);have e:Hi nx f (t :: ts) s0=Hi nx f ts (Mg nx f t s0):=by unfold Hi;rw [Me,A9 hs]
   rw [e];refine⟨(M++[t])++N,(h1.more AO).trans (h2.more fun x hx=>F9 _ hx),fun x hx=>?_⟩;rcases Di.1 hx with rfl|hx
   ·exact (h2.seen x).2 (.inl ((h1.seen x).2 (.inr AO)))
   ·exact h3 x hx
theorem tW {n:Nat} {nx:Nat→List Nat} (hlt:∀b,b<n→∀t∈nx b,t<n):∀(f b:Nat) (s:DS),s.1.length=n→unseen s.1≤f→s.1[b]?=some false→∃M,JL nx [b] (M++[b]) s (Mg nx f b s):=by
 intro f;induction f with
 | zero=>
  intro b s _ hu hb;have:=XT hb;omega
 | succ f ih=>
  intro b s hl hu hb;have Cc:b<n:=by rw [←hl];exact (Bl.1 hb).1
  have cX:=XT hb;obtain⟨M,h1,h2⟩:=oX ih (nx b) (s.1.set b true,s.2) (hlt b Cc) aH (show Go.Proofs.YtlmgkipmfgijiaaGreatDoor.unseen (s.1.set b true)≤f by omega);rw [rP];have Qx:∀x:Nat,(s.1.set b true)[x]?=some true↔s.1[x]?=some true∨x=b:=fun x=>by
   by_cases hx:x=b
   ·subst hx;simp [(Bl.1 hb).1]
   ·rw [fh (Ds hx)];simp [hx]
  refine⟨M,⟨h1.len.trans AO,by rw [h1.out,X5],fun x=>?_,fun x hx=>?_,?_,fun x hx t ht=>?_,fun M1 x M2 he=>?_⟩⟩
  ·have:=h1.seen x
   simp only at this ⊢;rw [this,Qx,CG,sF,or_assoc,or_comm (a:=x=b)]
  ·rcases CG.1 hx with hx|hx
   ·have h3:=h1.fresh x hx
    by_cases hxb:x=b
    ·subst hxb;exact hb
    ·simp only at h3;rwa [fh (Ds hxb)] at h3
   ·obtain rfl:x=b:=by simpa using hx
    exact hb
  ·refine cZ.2 ⟨h1.nodup,by simp,fun a ha c hc=>?_⟩
   obtain rfl:c=b:=by simpa using hc
   rintro rfl;have:=h1.fresh a ha;rw [((Qx a).2 (.inr rfl))] at this;cases this
  ·rcases CG.1 hx with hx|hx
   ·exact h1.closed x hx t ht
   ·obtain rfl:x=b:=by simpa using hx
    exact h2 t ht
  ·rcases List.append_eq_append_iff.1 he with⟨a,ha,hc⟩|⟨a,ha,hc⟩
   ·cases a with
    | nil=>
     simp only [List.nil_append,ZU] at hc;exact .inr (by simp [hc.1])
    | cons y a=>simp at hc
   ·cases a with
    | nil=>
     simp only [List.nil_append,ZU] at hc;exact .inr (by simp [hc.1])
    | cons y a=>
     simp only [iX,ZU] at hc;obtain⟨rfl,rfl⟩:=hc;rcases h1.tree M1 x a ha with⟨p,hp,h3⟩|h3
     ·exact .inl ⟨p,Ty _ hp,h3⟩
     ·exact .inl ⟨b,by simp,h3⟩
theorem ani {n:Nat} {nx:Nat→List Nat} (hlt:∀b,b<n→∀t∈nx b,t<n) (f:Nat) (ts:List Nat) (s:DS) (ht:∀t∈ts,t<n) (hl:s.1.length=n) (hu:unseen s.1≤f):∃M,JL nx ts M s (Hi nx f ts s)∧∀t∈ts,(Hi nx f ts s).1[t]?=some true:=
 oX (tW hlt f) ts s ht hl hu
structure DI (n:Nat) (s:DS):Prop where
 len:s.1.length=n
 nodup:s.2.Nodup
 mem:∀x∈s.2,s.1[x]?=some true
theorem DI.le {n:Nat} {s:DS} (h:DI n s):s.2.length≤n:=OS h.nodup fun x hx=>by
 have:=(Bl.1 (h.mem x hx)).1
 rwa [h.len] at this
theorem DI.step {n:Nat} {nx:Nat→List Nat} {ts M:List Nat} {s s':DS} (h:DI n s) (k:JL nx ts M s s'):DI n s':=by
 refine⟨k.len.trans h.len,?_,fun x hx=>?_⟩
 ·rw [k.out]
  refine cZ.2 ⟨h.nodup,k.nodup,fun a ha b hb=>?_⟩;rintro rfl;have h1:=h.mem a ha;rw [k.fresh a hb] at h1;cases h1
 ·rw [k.out] at hx
  rw [k.seen];exact (CG.1 hx).imp (h.mem x) id
theorem DI.set {n:Nat} {s:DS} (h:DI n s) (b:Nat):DI n (s.1.set b true,s.2):=⟨by simp [h.len],h.nodup,fun x hx=>by
 have h1:=h.mem x hx;by_cases e:b=x
 ·subst e;simp [(Bl.1 h1).1]
 ·simp only;rw [fh e];exact h1⟩
theorem abz {nx:Nat→List Nat} {f j t:Nat} {ts:List Nat} {s:DS} (h:ts[j]?=some t):Hi nx f (ts.take (j+1)) s=if (Hi nx f (ts.take j) s).1.getD t false=true then Hi nx f (ts.take j) s else Mg nx f t (Hi nx f (ts.take j) s):=by
 unfold Hi;rw [G4,h];simp [PR]
def CR (n:Nat) (nx:Nat→List Nat):List Nat:=(Mg nx n 0 (List.replicate n false,[])).2.reverse
def Dq (n:Nat) (nx:Nat→List Nat) (b:Nat):Nat:=(CR n nx).idxOf b
theorem jq (n:Nat):unseen (List.replicate n false)=n:=by unfold unseen;rw [List.countP_replicate];simp
theorem Q3 {n:Nat} {nx:Nat→List Nat} (hn:0<n) (hlt:∀b,b<n→∀t∈nx b,t<n):Gr n nx (CR n nx) (Dq n nx)∧(CR n nx).Nodup:=by
 obtain⟨M,h⟩:=tW hlt n 0 (List.replicate n false,[]) AO (by rw [jq];exact AH _) (by simp [hn]);have ho:CR n nx=0 :: M.reverse:=by unfold CR;rw [h.out];simp
 have hnd:(CR n nx).Nodup:=by rw [ho,← List.reverse_concat];unfold List.Nodup;rw [List.pairwise_reverse];exact h.nodup.imp Ds
 have hmem:∀x,x∈CR n nx↔x∈M++[0]:=fun x=>by rw [ho];simp [or_comm]
 have hs:∀x,(Mg nx n 0 (List.replicate n false,[])).1[x]?=some true↔x∈M++[0]:=fun x=>by
  rw [h.seen];constructor
  ·rintro (h1|h1)
   ·rw [dB] at h1
    split at h1<;>simp at h1
   ·exact h1
  ·exact .inr
 have hat:∀i b,(CR n nx)[i]?=some b→Dq n nx b=i:=fun i b hb=>by
  obtain⟨h1,rfl⟩:=Bl.1 hb;exact hnd.idxOf_getElem i h1
 refine⟨⟨hn,by rw [ho];rfl,fun b hb=>?_,hat,fun p hp b hb=>?_,fun b hb h0=>?_⟩,hnd⟩
 ·have:=h.fresh b ((hmem b).1 hb)
  have:=(Bl.1 this).1;simpa using this
 ·exact (hmem b).2 ((hs b).1 (h.closed p ((hmem p).1 hp) b hb))
 ·have hb':=(hmem b).1 hb
  obtain⟨M1,M2,he⟩:=List.append_of_mem hb';rcases h.tree M1 b M2 he with⟨p,hp,h1⟩|h1
  ·have hpm:p∈CR n nx:=(hmem p).2 (by rw [he];simp [hp])
   refine⟨p,hpm,h1,?_⟩;have ho2:CR n nx=M2.reverse++b :: M1.reverse:=by
    have:CR n nx=(M++[0]).reverse:=by rw [ho];simp
    rw [this,he];simp
   have hpb:p∈M2.reverse:=by simpa using hp
   unfold Dq;rw [ho2,List.idxOf_append,AE hpb];have Cc:b∉M2.reverse:=fun hm=>by
    rw [ho2] at hnd;exact (cZ.1 hnd).2.2 b hm b AO rfl
   rw [List.idxOf_append,A9 Cc,List.idxOf_cons_self];have:=List.idxOf_lt_length_iff.2 hpb;omega
  ·exact absurd (by simpa using h1) h0
section
def Ar (G:List AV) (b:Nat):List Nat:=(G.getD b ⟨0,0,[]⟩).nx.map Int.toNat
def Bg (l:List Nat):List Int:=l.map fun (x:Nat)=>(x:Int)
def Dg (s:List Bool):List Value:=s.map fun x=>.bool x
structure GB (G:List AV) (n:Nat):Prop where
 len:G.length=n
 le:n≤5000
 two:∀(b:Nat) (x:AV),G[b]?=some x→x.nx.length≤5000
 nx:∀(b:Nat) (x:AV),G[b]?=some x→∀s∈x.nx,0≤s∧s<(n:Int)
theorem GB.lt {G:List AV} {n:Nat} (h:GB G n):∀b,b<n→∀t∈Ar G b,t<n:=fun b hb t ht=>by
 have hb':b<G.length:=by rw [h.len];exact hb
 have hx:G[b]?=some G[b]:=Aj hb';unfold Ar at ht;rw [List.getD,hx] at ht;obtain⟨s,hs,rfl⟩:=Bx.1 ht;have:=h.nx b _ hx s hs;omega
theorem fF {G:List AV} {b:Nat} {x:AV} (hx:G[b]?=some x):Ar G b=x.nx.map Int.toNat:=by unfold Ar;rw [List.getD,hx];rfl
structure N5 (w wr:World) (sq sb gq fq lq n:Nat) (bv pv:Value) (s:DS):Prop where
 A7:Below w.heap.size w wr
 aB:wr.heap[sq]?=some (.cells #[.slice (some ⟨sb,0,none⟩) n n] 55 (0,0))
 Qh:wr.heap[gq]?=some (.cells #[bv,pv] 31 (0,0))
 QE:wr.heap[fq]?=some (.cells #[.func (.func 66) #[] #[.pointer (some ⟨sq,0,none⟩),.pointer (some ⟨gq,0,none⟩),.pointer (some ⟨fq,0,none⟩),.pointer (some ⟨lq,0,none⟩)]] 152 (0,0))
 klq:∃v,wr.heap[lq]?=some (.cells #[v] 38 (0,0))∧wr.ownsRow w.heap.size 3 1 v s.2.length (Av (Bg s.2))
 row:wr.ownsRow w.heap.size 4 1 (.slice (some ⟨sb,0,none⟩) n n) n (Dg s.1)
 hi:w.heap.size≤sq∧w.heap.size≤gq∧w.heap.size≤fq∧w.heap.size≤lq
section
variable {w wr:World} {sq sb gq fq lq n:Nat} {bv pv:Value} {s:DS}
theorem N5.cell (h:N5 w wr sq sb gq fq lq n bv pv s) (hl:s.1.length=n) {b:Nat} (hb:b<n):wr.cell? ⟨sb,b,none⟩=some (.bool (s.1.getD b false))∧wr.frozen? ⟨sb,b,none⟩=false:=by
 refine⟨?_,h.row.frozenAt _⟩;rw [h.row.cellAt _ A0,Dg,Cr,List.getD,Aj (by omega:b<s.1.length)];rfl
theorem N5.set (h:N5 w wr sq sb gq fq lq n bv pv s) (b:Nat):N5 w (wr.setCell ⟨sb,b,none⟩ (.bool true)) sq sb gq fq lq n bv pv (s.1.set b true,s.2):=by
 have hne:∀(q:Nat) (cs:Array Value) (t:TypeId) (fr:Nat×Nat),wr.heap[q]?=some (.cells cs t fr)→t≠4→q≠sb:=fun q cs t fr hq ht e=>Kn hq h.row ht Mj;have Ln:=h.row.lt sb rfl;have keep:∀(q:Nat) (cs:Array Value) (t:TypeId) (fr:Nat×Nat),wr.heap[q]?=some (.cells cs t fr)→t≠4→(wr.setCell ⟨sb,b,none⟩ (.bool true)).heap[q]?=some (.cells cs t fr):=fun q cs t fr hq ht=>by
  rw [BL _ _ _ _ (hne q cs t fr hq ht)];exact hq
 obtain⟨v,h1,h2⟩:=h.klq;refine⟨h.A7.setCell (p:=⟨sb,b,none⟩) Ln.1 _,keep _ _ _ _ h.aB AK,keep _ _ _ _ h.Qh AK,keep _ _ _ _ h.QE AK,⟨v,keep _ _ _ _ h1 AK,?_⟩,?_,h.hi⟩
 ·refine h2.kept (Hh wr sb b (.bool true)) ?_
  cases hv:v.ownBlock with
  | none=>exact .inl rfl
  | some q=>exact .inr fun e=>FE h2 h.row AK q hv Mj
 ·have:=(h.row.stored b (.bool true)).1
  simpa [Dg,fe] using this
theorem N5.app {v v':Value} {w2 W':World} {b:Nat} (h:N5 w wr sq sb gq fq lq n bv pv s) (h1:wr.heap[lq]?=some (.cells #[v] 38 (0,0))) (h2:wr.ownsRow w.heap.size 3 1 v s.2.length (Av (Bg s.2))) (hb:Below wr.heap.size wr w2) (hg:w2.grownBy W' v.ownBlock)
  (hown:W'.ownsRow w.heap.size 3 1 v' (s.2.length+1) (Av (Bg s.2)++[.int .i64 (b:Int)])):N5 w (W'.setCell ⟨lq,0,none⟩ v') sq sb gq fq lq n bv pv (s.1,s.2++[b]):=by
 have keep:∀(q:Nat) (cs:Array Value) (t:TypeId) (fr:Nat×Nat),wr.heap[q]?=some (.cells cs t fr)→t≠3→W'.heap[q]?=some (.cells cs t fr):=fun q cs t fr hq ht=>by
  have hl:=(Be.1 hq).1;have:=hb.size;rw [hg.block q A0 (Kn hq h2 ht),hb.block q hl];exact hq
 have k1:=keep _ _ _ _ h1 AK;have other:∀(q:Nat) (cs:Array Value) (t:TypeId) (fr:Nat×Nat),W'.heap[q]?=some (.cells cs t fr)→t≠38→(W'.setCell ⟨lq,0,none⟩ v').heap[q]?=some (.cells cs t fr):=fun q cs t fr hq ht=>by
  rw [BL _ _ _ _ (by rintro rfl;rw [k1] at hq;cases hq;exact ht rfl)];exact hq
 have G:=grown_of hb hg;have JI:=G.size;have Ce:∀k,v.ownBlock=some k→w.heap.size≤k:=fun k hk=>(h2.lt k hk).1;have row':W'.ownsRow w.heap.size 4 1 (.slice (some ⟨sb,0,none⟩) n n) n (Dg s.1):=h.row.kept G (.inr (fun e=>FE h.row h2 AK sb rfl e.symm));have S:=Hh W' lq 0 v';refine⟨(h.A7.grown G h.A7.size Ce).grown S (by have:=h.A7.size;omega) (fun k hk=>by cases hk;exact h.hi.2.2.2),other _ _ _ _ (keep _ _ _ _ h.aB AK) AK,other _ _ _ _ (keep _ _ _ _ h.Qh AK) AK,other _ _ _ _ (keep _ _ _ _ h.QE AK) AK,⟨v',one_setCell k1,?_⟩,row'.kept S (.inr (fun e=>Kn k1 row' AK e.symm)),h.hi⟩;have e:Av (Bg (s.2++[b]))=Av (Bg s.2)++[.int .i64 (b:Int)]:=by simp [Av,Bg]
 rw [show (s.2++[b]).length=s.2.length+1 by simp,e];exact hown.kept S (.inr (fun e=>Kn k1 hown AK e.symm))
end
theorem ahs (bv pv:Value) (G:List AV) (n:Nat) (w:World) (sq sb gq fq lq:Nat) (HG:Dc w bv G) (HB:GB G n):∀(f b:Nat) (s:DS) (wr:World),N5 w wr sq sb gq fq lq n bv pv s→DI n s→unseen s.1≤f→s.1[b]?=some false→
  Calls Tryz.prog 66 #[.int .i64 (b:Int),.pointer (some ⟨sq,0,none⟩),.pointer (some ⟨gq,0,none⟩),.pointer (some ⟨fq,0,none⟩),.pointer (some ⟨lq,0,none⟩)] wr fun e w'=>e=.returned (.tuple #[])∧N5 w w' sq sb gq fq lq n bv pv (Mg (Ar G) f b s):=by
 obtain⟨A,cap,rfl,hc1,hc2⟩:=HG.slice;have he:∀(args:Array Value) (w:World),(callFunc 66 args).run Tryz.prog w=.ok (.enter 66 args) w:=fun _ _=>by kernel_rfl
 intro f;induction f with
 | zero=>
  intro b s wr _ _ hu hb;have:=XT hb;omega
 | succ f ih=>
  intro b s wr hD hI hu hb;have cX:=XT hb;have Cc:b<n:=by rw [←hI.len];exact (Bl.1 hb).1
  obtain⟨x,NV,gb,go,hx,rfl,hgb,c0,c1,c2,hN⟩:=HG.at_ hD.A7 (j:=b) (by rw [HB.len];exact Cc);obtain⟨NA,C6,rfl,hn1,hn2⟩:=hN.slice;obtain⟨m1,m2⟩:=hD.cell hI.len Cc;have⟨Mm,HIS,HU,HI,HX,IH,Mb⟩:=Yi (hD.set b) (hI.set b) (show unseen (s.1.set b true)≤f by omega) hN hx ih HB;have hnl:x.nx.length≤5000:=HB.two b x hx;have x1:wr.cell? ⟨sq,0,none⟩=some (.slice (some ⟨sb,0,none⟩) n n):=by simp [World.cell?,hD.aB]
  have x2:(b:Int)<(n:Int):=by omega
  have x3:gq<wr.heap.size:=(Be.1 hD.Qh).1;have x4:(wr.setCell ⟨sb,b,none⟩ (.bool true)).cell? ⟨gq,0,none⟩=some (.slice (some ⟨gb,go,none⟩) G.length cap):=by simp [World.cell?,Mm.out.Qh]
  have bg:(b:Int)<(G.length:Int):=by rw [HB.len];omega
  have Ln:=(hD.row.lt sb rfl);have hne:gb≠sb:=by omega
  have x5:(wr.setCell ⟨sb,b,none⟩ (.bool true)).cell? ⟨gb,go+b*3+2,none⟩=some (.slice NA x.nx.length C6):=by
   rw [Df (BL _ _ _ _ hne)];exact c2
  clear hx hN ih HG HB hD hI hu hb cX hc1 c0 c1 c2 hn1;go_enter Tryz.func66,Tryz.ntmps66;go_upto_region 1 with fail;obtain⟨U,hU⟩:=AA (wr.setCell ⟨sb,b,none⟩ (.bool true));rw [hU] at Mm x4 x5 ⊢;clear hU m1 m2 x1 x3;have Xw:Ar G b=x.nx.map Int.toNat:=fF HX.out;have Cw:=A3 Xw;obtain⟨iI,E5,E7,DT,Dw⟩:=D5 NQ;clear Xw;go_upto_region 2 with fail;go_loopw [18] (fun a18 wr=>∃j:Nat,j≤x.nx.length∧a18=.int .i64 (j:Int)∧N5 w wr sq sb gq fq lq n (.slice (some ⟨gb,go,none⟩) G.length cap) pv (Hi (Ar G) f ((Ar G b).take j) (s.1.set b true,s.2))) (fun a18 _=>x.nx.length - (intOf a18).toNat);case atStart=>exact⟨0,Ck _,rfl,Mm.out⟩
  case round=>
   obtain⟨j,hj,rfl,hD⟩:=hrel;clear Mm x4 x5;have Da:∀t∈(Ar G b).take j,t<n:=fun t ht=>Mb.out.lt b Cc t (sL ht);obtain⟨M,hL,-⟩:=ani Mb.out.lt f ((Ar G b).take j) (s.1.set b true,s.2) Da HIS.out.len HU.out;have hI:=HIS.out.step hL;have hU:=EM hL.unseen HU.out;obtain⟨sj,hsj⟩:∃q,Hi (Ar G) f ((Ar G b).take j) (s.1.set b true,s.2)=q:=⟨_,rfl⟩;rw [hsj] at hD hI hU;have⟨HSJ,HDJ,HIJ,HUJ⟩:=Bz hsj hD hI hU;have bO:=hD.A7.size;have y1:wr.cell? ⟨sq,0,none⟩=some (.slice (some ⟨sb,0,none⟩) n n):=by simp [World.cell?,hD.aB]
   have y2:wr.cell? ⟨fq,0,none⟩=some (.func (.func 66) #[] #[.pointer (some ⟨sq,0,none⟩),.pointer (some ⟨gq,0,none⟩),.pointer (some ⟨fq,0,none⟩),.pointer (some ⟨lq,0,none⟩)]):=by simp [World.cell?,hD.QE]
   clear Da hL hI hU hsj M;by_cases hlt:j<x.nx.length
   ·obtain⟨sv,nb,FN,hs,rfl,hnb,x1⟩:=HI.out.at_ hD.A7 hlt
    obtain⟨t,rfl⟩:∃t:Nat,sv=(t:Int):=⟨sv.toNat,by have:=Mb.out.nx b x HX.out sv (Bf hs);omega⟩;have htn:t<n:=by have:=Mb.out.nx b x HX.out _ (Bf hs);omega
    have HT:=A3 (show (Ar G b)[j]?=some t by rw [Cw.out,Cr,hs];rfl);have dl:decide ((j:Int)<(x.nx.length:Int))=true:=by simpa using hlt
    have hti:(t:Int)<(n:Int):=by omega
    obtain⟨z1,z2⟩:=hD.cell HIJ.out.len htn;have Da:=abz (nx:=Ar G) (f:=f) (s:=(s.1.set b true,s.2)) HT.out;rw [HSJ.out] at Da;clear hs hD;by_cases QJ:sj.1.getD t false=true
    ·rw [QJ] at z1
     rw [AE QJ] at Da;have CU:=A3 Da;clear Da QJ;go_wp2_with fail;go_roundw;case rel=>exact⟨j+1,by omega,by go_num,by rw [CU.out];exact HDJ.out⟩
     case measure=>exact Aa
    ·have hsf:sj.1.getD t false=false:=by simpa using QJ
     rw [hsf] at z1;rw [A9 QJ] at Da;have CU:=A3 Da;have HUN:=A3 (show sj.1[t]?=some false by
      rcases aM (show t<sj.1.length by rw [HIJ.out.len];exact htn) with h|h
      ·exact absurd (fL.2 h) QJ
      ·exact h)
     clear Da QJ hsf;go_wp2_with (go_at_call 66;refine (IH.out t sj wr HDJ.out HIJ.out HUJ.out HUN.out).mono ?_;rintro e W7 ⟨rfl,hD7⟩);go_roundw;case rel=>exact⟨j+1,by omega,by go_num,by rw [CU.out];exact hD7⟩
     case measure=>exact Aa
   ·obtain rfl:j=x.nx.length:=by omega
    have dl:decide ((x.nx.length:Int)<(x.nx.length:Int))=false:=by simp
    obtain⟨v,hv1,hv2⟩:=hD.klq;have hdl:=HIJ.out.le;have hn5:=Mb.out.le;obtain⟨vA,CD,MC⟩:∃vA CD,v=.slice vA sj.2.length CD:=by
     rcases hv2.2 with⟨h,h'⟩|⟨g,cap',cur,h,_⟩
     ·exact⟨_,_,by rw [h,h']⟩
     ·exact⟨_,_,h⟩
    subst MC;have⟨HV1,HV2⟩:=AL hv1 hv2;have y3:wr.cell? ⟨lq,0,none⟩=some (.slice vA sj.2.length CD):=by simp [World.cell?,hv1]
    have gF:lq<wr.heap.size:=(Be.1 hv1).1;have HNL:=A3 (Kn hv1 hv2 AK);have y4:wr.frozen? ⟨lq,0,none⟩=false:=by simp [World.frozen?,hv1]
    clear hv1 hv2 hD y1 y2;go_wp2_with (at_builtin;refine Kf _ rfl (.tmp 31) (.tmp 33) 38 rfl w.heap.size 3 iI (.int .i64 0) 1 8 Ey E5 E7 DT Dw rfl AK (.slice vA sj.2.length CD) _ _ rfl (HV2.out.alloc _) ⟨wr.heap.size,0,none⟩ 1 1 [.int .i64 (b:Int)] rfl rfl (DV _ _ _) BS Bc A0 Hz ?_;intro v' W' hown' hgrow _ Ce;obtain⟨g',cap',rfl⟩:=GI hown';have hc1:=hgrow.cell (a:=⟨lq,0,none⟩) (v:=.slice vA sj.2.length CD) GK HNL.out;have hf1:W'.frozen? ⟨lq,0,none⟩=false:=(Pb (hgrow.block lq Cl HNL.out)).trans GK);have hB:=HDJ.out.app (b:=b) HV1.out HV2.out ((AP wr.heap.size wr).alloc (AH _) (.cells #[.int .i64 (b:Int)] 3)) hgrow hown';refine bodyPost_end (au rfl _ _ _) rfl ⟨rfl,?_⟩
    ·rw [rP]
     have e:(Ar G b).take x.nx.length=Ar G b:=Gq (by rw [Cw.out,ED];exact AH _);have e2:=HSJ.out;rw [e] at e2;rw [e2];exact hB
end
def swp (xs:List Int) (i:Nat):List Int:=(List.range xs.length).map fun k=>if k<i∨xs.length≤k+i then xs.getD (xs.length - 1 - k) 0 else xs.getD k 0
theorem Sw (xs:List Int) (i:Nat):(swp xs i).length=xs.length:=by simp [swp]
theorem Vo {xs:List Int} {i k:Nat} (hk:k<xs.length):(swp xs i)[k]?=some (if k<i∨xs.length≤k+i then xs.getD (xs.length - 1 - k) 0 else xs.getD k 0):=by
 unfold swp;rw [Cr,Ev hk];rfl
theorem adr (xs:List Int):swp xs 0=xs:=by
 apply JX;intro k;by_cases hk:k<xs.length
 ·rw [Vo hk,A9 A0];simp [List.getD,Aj hk]
 ·rw [E0 (by rw [Sw];omega),E0 A0]
theorem yV {xs:List Int} {i:Nat} (h:xs.length≤2*i+1):swp xs i=xs.reverse:=by
 apply JX;intro k;by_cases hk:k<xs.length
 ·rw [Vo hk,List.getElem?_reverse hk]
  have h1:xs.length - 1 - k<xs.length:=by omega
  by_cases h2:k<i∨xs.length≤k+i
  ·rw [AE h2];simp [List.getD,Aj h1]
  ·rw [A9 h2,show xs.length - 1 - k=k by omega];simp [List.getD,Aj hk]
 ·rw [E0 (by rw [Sw];omega),E0 Cl]
theorem apg {xs:List Int} {i j:Nat} (h:i+j+1=xs.length) (hij:i<j):((swp xs i).set i (xs.getD j 0)).set j (xs.getD i 0)=swp xs (i+1):=by
 apply JX;intro k;by_cases hk:k<xs.length
 ·rw [Vo hk,IY,IY]
  simp only [NP,Sw];by_cases h1:j=k
  ·subst h1
   rw [AE rfl,AE hk,AE A0,show xs.length - 1 - j=i by omega]
  ·rw [A9 h1]
   by_cases h2:i=k
   ·subst h2
    rw [AE rfl,AE hk,AE A0,show xs.length - 1 - i=j by omega]
   ·rw [A9 h2,Vo hk]
    by_cases h3:k<i∨xs.length≤k+i
    ·rw [AE h3,AE A0]
    ·rw [A9 h3,A9 A0]
 ·rw [E0 (by simp [Sw];omega),E0 (by rw [Sw];omega)]
theorem UB (l:List Int) (k:Nat) (x:Int):(Av l).set k (.int .i64 x)=Av (l.set k x):=by simp [Av,fe]
theorem gl {w:World} {B g m cap:Nat} {l:List Int} (h:w.ownsRow B 3 1 (.slice (some ⟨g,0,none⟩) m cap) m (Av l)) (hl:l.length=m) {k:Nat} (hk:k<m):w.cell? ⟨g,k,none⟩=some (.int .i64 (l.getD k 0)):=by
 rw [h.cellAt _ A0,Av,Cr,List.getD,Aj (by omega:k<l.length)];rfl
theorem amI (B g m cap:Nat) (xs:List Int) (w:World) (hm:xs.length=m) (hm5:m≤1000000) (hr:w.ownsRow B 3 1 (.slice (some ⟨g,0,none⟩) m cap) m (Av xs)) :
  Calls Tryz.prog 67 #[.slice (some ⟨g,0,none⟩) m cap] w fun e w'=>e=.returned (.tuple #[])∧w'.ownsRow B 3 1 (.slice (some ⟨g,0,none⟩) m cap) m (Av xs.reverse)∧w'.heap.size=w.heap.size∧w.grownBy w' (some g):=by
 have HR:=A3 hr;clear hr;have HM:=A3 hm;clear hm;obtain⟨rv,MK⟩:∃r,xs.reverse=r:=⟨_,rfl⟩;rw [MK];have HRV:=A3 MK;clear MK;have w1:IntKind.i64.wrap ((m:Int) - 1)=(m:Int) - 1:=GN _ A0;go_enter Tryz.func67,Tryz.ntmps67;go_upto_region 1 with fail;clear w1;go_loopw [2,3] (fun a2 a3 wr=>∃i:Nat,i≤m∧a2=.int .i64 (i:Int)∧a3=.int .i64 ((m:Int) - 1 - (i:Int))∧wr.ownsRow B 3 1 (.slice (some ⟨g,0,none⟩) m cap) m (Av (swp xs i))∧wr.heap.size=w.heap.size∧w.grownBy wr (some g)) (fun a2 _ _=>m - (intOf a2).toNat);case atStart=>exact⟨0,Ck _,rfl,by simp,by rw [adr];exact HR.out,rfl,⟨rfl,rfl,rfl,AH _,fun _ _ _=>rfl⟩⟩
 case round=>
  obtain⟨i,him,rfl,rfl,hrw,hsz,hg⟩:=hrel;have⟨Wy,HG⟩:=AL hrw hg;clear hg;by_cases hlt:(i:Int)<(m:Int) - 1 - (i:Int)
  ·obtain⟨j,hj⟩:∃j:Nat,(m:Int) - 1 - (i:Int)=(j:Int):=⟨m - 1 - i,by omega⟩
   have HJ:=A3 (show i+j+1=xs.length by rw [HM.out];omega);rw [hj] at hlt ⊢;have hij:i<j:=by omega
   have hjm:j<m:=by omega
   have dl:decide ((i:Int)<(j:Int))=true:=AR hlt;have c1:=gl hrw (by rw [Sw,HM.out]) (show i<m by omega);have c2:=gl hrw (by rw [Sw,HM.out]) hjm;have e1:(swp xs i).getD i 0=xs.getD i 0:=by rw [List.getD,Vo kH,A9 kH];rfl
   have e2:(swp xs i).getD j 0=xs.getD j 0:=by rw [List.getD,Vo kH,A9 kH];rfl
   rw [e1] at c1;rw [e2] at c2;have f1:=hrw.frozenAt i;have f2:=hrw.frozenAt j;have i1:(i:Int)<(m:Int):=by omega
   have i2:(j:Int)<(m:Int):=by omega
   have w3:IntKind.i64.wrap ((i:Int)+1)=(i:Int)+1:=GN _ A0;have w4:IntKind.i64.wrap ((j:Int) - 1)=(j:Int) - 1:=GN _ A0;have HST:=A3 (apg HJ.out hij);have hne:j≠i:=by omega
   obtain⟨xi,U0⟩:∃v,xs.getD i 0=v:=⟨_,rfl⟩;obtain⟨xj,hxj⟩:∃v,xs.getD j 0=v:=⟨_,rfl⟩;rw [U0] at c1 HST;rw [hxj] at c2 HST;clear hrw e1 e2 hj U0 hxj;go_upto_region 3 with fail;go_region
   have r1:=((Wy.out.stored i (.int .i64 xj)).1.stored j (.int .i64 xi)).1;rw [UB,UB,HST.out] at r1;have g1:wr.grownBy ((wr.setCell ⟨g,i,none⟩ (.int .i64 xj)).setCell ⟨g,j,none⟩ (.int .i64 xi)).drew (some g):=⟨rfl,rfl,rfl,by simp,fun k hk hne=>by
    have hkg:k≠g:=fun e=>hne Rq;show ((wr.setCell ⟨g,i,none⟩ (.int .i64 xj)).setCell ⟨g,j,none⟩ (.int .i64 xi)).heap[k]?=_
    rw [BL _ _ _ _ hkg,BL _ _ _ _ hkg]⟩
   have s1:((wr.setCell ⟨g,i,none⟩ (.int .i64 xj)).setCell ⟨g,j,none⟩ (.int .i64 xi)).drew.heap.size=w.heap.size:=by rw [←hsz];simp
   have R1:=A3 (CH r1 (AP _ _).drew);obtain⟨X,hX⟩:=AA (((wr.setCell ⟨g,i,none⟩ (.int .i64 xj)).setCell ⟨g,j,none⟩ (.int .i64 xi)).drew);rw [hX] at R1 g1 s1 ⊢;have G1:=A3 (show w.grownBy X (some g) from⟨g1.os.trans HG.out.os,g1.tape.trans HG.out.tape,g1.output.trans HG.out.output,by omega,fun k hk hne=>(g1.block k A0 hne).trans (HG.out.block k hk hne)⟩);have e3:(j:Int) - 1=(m:Int) - 1 - ((i+1:Nat):Int):=by have:=HJ.out;have:=HM.out;omega
   clear hX g1 r1 c1 c2 f1 f2;go_wp2_with fail;go_roundw;case rel=>exact⟨i+1,by omega,by go_num,by simp,R1.out,s1,G1.out⟩
   case measure=>exact Aa
  ·have dl:decide ((i:Int)<(m:Int) - 1 - (i:Int))=false:=Aq hlt
   go_wp2_with fail;refine bodyPost_end (au rfl _ _ _) rfl ⟨rfl,?_,hsz,HG.out⟩;rw [←HRV.out,← yV (i:=i) (by rw [HM.out];omega)];exact Wy.out
theorem De.each {n:Nat}:∀ {l:List AV} {a z:Int},De n a l z→∀x∈l,∃e,SG n e x
 | [],_,_,_,x,hx=>by cases hx
 | y :: l,a,z,h,x,hx=>by
  rcases Di.1 hx with rfl|hx
  ·exact⟨a,h.1⟩
  ·exact De.each h.2 x hx
theorem GB.of {G:List AV} {P:List (List Int)} (h:Ea G P) (hn:G.length≤5000):GB G G.length:=by
 obtain⟨z,hz⟩:=h.ok;exact⟨rfl,hn,fun b x hx=>by obtain⟨e,he⟩:=hz.each x (Bf hx);have:=he.two;omega,fun b x hx=>by obtain⟨e,he⟩:=hz.each x (Bf hx);exact he.nx⟩
theorem oH (bv pv:Value) (G:List AV) (P:List (List Int)) (w:World) (HG:Dc w bv G) (HP:CO w pv P) (HV:Ea G P) (hn:G.length≤5000) :
  Calls Tryz.prog 36 #[.agg #[bv,pv]] w fun e w'=>(∃g cap,e=.returned (.slice (some ⟨g,0,none⟩) (CR G.length (Ar G)).length cap)∧Ints w' (.slice (some ⟨g,0,none⟩) (CR G.length (Ar G)).length cap) (Bg (CR G.length (Ar G)))∧w.heap.size≤g)∧Below w.heap.size w w':=by
 have HB:=A3 (GB.of HV hn);obtain⟨O,hO⟩:=AA (CR G.length (Ar G));rw [hO];have HO:=A3 hO;clear hO;have hne:0<G.length:=Ic.2 HV.ne;obtain⟨A,cap,rfl,hc1,hc2⟩:=HG.slice;obtain⟨PA,B7,rfl,hp1,hp2⟩:=HP.slice;obtain⟨V0,Bv⟩:=AA (w.alloc (.cells #[.slice A G.length cap,.slice PA P.length B7] 31));obtain⟨gq,PX⟩:∃q,w.heap.size=q:=⟨_,rfl⟩;have b0:Below w.heap.size w V0:=Bv▸(AP _ _).alloc (AH _) _;have k0:V0.heap[gq]?=some (.cells #[.slice A G.length cap,.slice PA P.length B7] 31 (0,0)):=by rw [←Bv,← PX];exact Ai _ _
 have y0:V0.cell? ⟨gq,0,none⟩=some (.slice A G.length cap):=by simp [World.cell?,k0]
 have y1:V0.cell? ⟨gq,1,none⟩=some (.slice PA P.length B7):=by simp [World.cell?,k0]
 have s0:gq<V0.heap.size:=(Be.1 k0).1;have Fw:=A3 (show Calls Tryz.prog 35 #[.agg #[.slice A G.length cap,.slice PA P.length B7]] V0 fun e w'=>e=.returned (.bool true)∧Below V0.heap.size V0 w' from
  (Yd _ _ G P V0 (HG.below b0) (HP.below b0) hn (fun x hx=>by obtain⟨i,hi⟩:=LH.1 hx;exact HB.out.two i x hi)).mono fun e w' h=>by
   obtain⟨⟨r,rfl,hr⟩,hb⟩:=h;rw [hr.2 HV]
   exact⟨rfl,hb⟩)
 have⟨K0,B0,Oy⟩:=B8 k0 b0 HG;clear HG HP HV b0 k0 hc1 hc2 hp1 hp2;go_enter Tryz.func36,Tryz.ntmps36;go_upto_region 4 with (go_at_call 35;refine Fw.out.mono ?_;rintro e W1 ⟨rfl,hb1⟩);obtain⟨lq,gF⟩:∃q,W1.heap.size=q:=⟨_,rfl⟩;obtain⟨V2,hV2⟩:∃V,W1.alloc (.cells #[.slice none 0 0] 38)=V:=⟨_,rfl⟩;rw [hV2,gF];have b2:Below w.heap.size w V2:=hV2▸(B0.out.trans (hb1.mono B0.out.size)).alloc (by have:=B0.out.size;have:=hb1.size;omega) _;have kg2:V2.heap[gq]?=some (.cells #[.slice A G.length cap,.slice PA P.length B7] 31 (0,0)):=by rw [←hV2,Bb _ _ (by have:=hb1.size;omega)];exact (hb1.block gq s0).trans K0.out
 have kl2:V2.heap[lq]?=some (.cells #[.slice none 0 0] 38 (0,0)):=by rw [←gF,← hV2];exact Ai _ _
 have sl2:lq<V2.heap.size:=(Be.1 kl2).1;have sg2:gq<V2.heap.size:=(Be.1 kg2).1;have lo2:w.heap.size≤lq:=by have:=B0.out.size;have:=hb1.size;omega
 have v0:V2.cell? ⟨gq,0,none⟩=some (.slice A G.length cap):=by simp [World.cell?,kg2]
 obtain⟨i2,hi2,hs0,hs1,hs2⟩:=D5 WY;obtain⟨U1,lm,CB,gr1⟩:=O7 (P:=Tryz.prog) V2 w.heap.size 55 4 i2 (.bool false) 1 U8 hi2 hs0 hs1 .i64 .i64 G.length Y8 Bc b2.size;rw [Mk,show (Value.bool false).cells=#[Value.bool false] from rfl,Ni] at CB;have⟨OW,Ek,KG2,KL2,B2⟩:=Fi CB gr1 kg2 kl2 b2;obtain⟨sb,Ln⟩:∃q,V2.heap.size=q:=⟨_,rfl⟩;rw [Ln] at lm OW sl2 sg2;clear CB gr1 hV2 gF hb1 b2 kg2 kl2 Bv y0 y1 Fw i2 hi2 hs0 hs1 hs2;go_upto_region 5 with fail;obtain⟨sq,Qd⟩:∃q,U1.heap.size=q:=⟨_,rfl⟩;obtain⟨V4,FH⟩:∃V,U1.alloc (.cells #[.slice (some ⟨sb,0,none⟩) G.length G.length] 55)=V:=⟨_,rfl⟩;rw [FH,Qd];obtain⟨fq,Uf⟩:∃q,V4.heap.size=q:=⟨_,rfl⟩;obtain⟨V5,Gv⟩:∃V,V4.alloc (.cells #[.func (.func 66) #[] #[.pointer (some ⟨sq,0,none⟩),.pointer (some ⟨gq,0,none⟩),.pointer (some ⟨fq,0,none⟩),.pointer (some ⟨lq,0,none⟩)]] 152)=V:=⟨_,rfl⟩;have he:∀(args:Array Value) (w:World),(callFunc 66 args).run Tryz.prog w=.ok (.enter 66 args) w:=fun _ _=>by kernel_rfl
 clear lm v0;go_upto_region 7 with fail;have sU:sb<U1.heap.size:=(OW.out.lt sb rfl).2;have g1:=Ek.out.size;have e4:∀(q:Nat) (x:Option Obj),q<U1.heap.size→U1.heap[q]?=x→V5.heap[q]?=x:=fun q x hq hx=>by
  rw [←Gv,Bb _ _ (by rw [←FH,El];omega),← FH,Bb _ _ hq];exact hx
 have eU:∀(q:Nat) (x:Option Obj),q<V2.heap.size→V2.heap[q]?=x→V5.heap[q]?=x:=fun q x hq hx=>e4 q x A0 ((Ek.out.block q hq AO).trans hx);have Eo:N5 w V5 sq sb gq fq lq G.length (.slice A G.length cap) (.slice PA P.length B7) (List.replicate G.length false,[]):=by
  refine⟨?_,?_,eU _ _ A0 KG2.out,?_,⟨_,eU _ _ A0 KL2.out,JV _ _ _ _⟩,?_,by omega,by omega,?_,lo2⟩
  ·rw [←Gv,← FH]
   exact ((B2.out.grown Ek.out B2.out.size (fun k hk=>by cases hk)).alloc (by have:=B2.out.size;omega) _).alloc (by have:=B2.out.size;simp;omega) _
  ·rw [←Gv,Bb _ _ (by rw [←FH,El];omega),← FH,← Qd];exact Ai _ _
  ·rw [←Gv,← Uf];exact Ai _ _
  ·rw [←Gv,← FH]
   have:=(OW.out.alloc (.cells #[.slice (some ⟨sb,0,none⟩) G.length G.length] 55)).alloc (.cells #[.func (.func 66) #[] #[.pointer (some ⟨sq,0,none⟩),.pointer (some ⟨gq,0,none⟩),.pointer (some ⟨fq,0,none⟩),.pointer (some ⟨lq,0,none⟩)]] 152);simpa [Dg] using this
  ·rw [←Uf,← FH,El];have:=B2.out.size;omega
 have⟨HD0,HI0⟩:=AL Eo (show DI G.length (List.replicate G.length false,[]) from⟨by simp,by simp,by simp⟩);have Tr:=A3 (ahs (.slice A G.length cap) (.slice PA P.length B7) G G.length w sq sb gq fq lq Oy.out HB.out G.length 0 _ V5 Eo HI0.out (by rw [jq];exact AH _) (by simp [hne]));have q1:V5.cell? ⟨fq,0,none⟩=some (.func (.func 66) #[] #[.pointer (some ⟨sq,0,none⟩),.pointer (some ⟨gq,0,none⟩),.pointer (some ⟨fq,0,none⟩),.pointer (some ⟨lq,0,none⟩)]):=by simp [World.cell?,Eo.QE]
 clear Eo e4 eU Gv Uf FH Qd Ln g1 sU OW Ek KG2 KL2 B2 HD0;go_upto_region 8 with (go_at_call 66;refine Tr.out.mono ?_;rintro e W6 ⟨rfl,hD6⟩);obtain⟨v,hl6,hr6⟩:=hD6.klq;obtain⟨gr,OV⟩:=Q3 hne HB.out.lt;obtain⟨L,hL⟩:=AA ((Mg (Ar G) G.length 0 (List.replicate G.length false,[])).2);have QF:CR G.length (Ar G)=L.reverse:=by unfold CR;rw [hL]
 have hLn:L.length≤G.length:=by
  have:=OS OV gr.lt
  rwa [QF,nN] at this
 have hL0:0<L.length:=by
  have:=gr.z;rw [QF] at this;have:=(Bl.1 this).1
  rwa [nN] at this
 rw [hL] at hr6;obtain⟨g,B9,MC⟩:∃g B9,v=.slice (some ⟨g,0,none⟩) L.length B9:=by
  rcases hr6.2 with⟨h,h'⟩|⟨g,cap',cur,h,_⟩
  ·omega
  ·exact⟨_,_,h⟩
 subst MC;have c6:W6.cell? ⟨lq,0,none⟩=some (.slice (some ⟨g,0,none⟩) L.length B9):=by simp [World.cell?,hl6]
 have HB6:=A3 hD6.A7;have s6:lq<W6.heap.size:=(Be.1 hl6).1;have⟨apn,Ke,HL6,HGE,Ul⟩:=Fi (amI w.heap.size g L.length B9 (Bg L) W6 (by simp [Bg]) A0 hr6) (Kn hl6 hr6 AK) hl6 (hr6.lt g rfl) QF;rw [HO.out] at Ul;clear hD6 hl6 hr6 hL QF gr OV q1 Tr;go_upto_region 9 with (go_at_call 67;refine apn.out.mono ?_;rintro e W7 ⟨rfl,hr7,hs7,hg7⟩);have k7:W7.heap[lq]?=some (.cells #[.slice (some ⟨g,0,none⟩) L.length B9] 38 (0,0)):=(hg7.block lq s6 Ke.out).trans HL6.out;have c7:W7.cell? ⟨lq,0,none⟩=some (.slice (some ⟨g,0,none⟩) L.length B9):=by simp [World.cell?,k7]
 have⟨HR7,HG7⟩:=AL hr7 hg7;clear hr7 k7 c6 hg7;go_wp2_with fail;go_ret;have e1:O.length=L.length:=by rw [Ul.out,nN]
 refine⟨⟨g,B9,by rw [e1];rfl,?_,HGE.out.1⟩,HB6.out.grown HG7.out HB6.out.size (fun k hk=>by cases hk;exact HGE.out.1)⟩;have e2:(Bg L).reverse=Bg O:=by rw [Ul.out];simp [Bg]
 have h3:=HR7.out;rw [e2,show L.length=(Bg O).length by simp [Bg,e1]] at h3;rw [show O.length=(Bg O).length by simp [Bg]];exact MF h3
section
section
variable {n:Nat} {nx:Nat→List Nat} {ord:List Nat} {pos:Nat→Nat} {D:List Int}
theorem uq (g:Gr n nx ord pos) (t:TI n nx ord pos D) {a b:Nat} (ha:a∈ord) (pa:CL D a) (h:pos b<pos a) :
  ∃a':Nat,D.getD a (-1)=(a':Int)∧a'∈ord∧CL D a'∧pos a'<pos a∧∀x,Ah D b x→(Ah D a x↔Ah D a' x):=by
 rcases pa with rfl|pa
 ·rw [g.Vl] at h;omega
 ·obtain⟨a',e⟩:∃a':Nat,D.getD a (-1)=(a':Int):=⟨_,(P6 pa).symm⟩
  obtain⟨c1,c2,c3,c4,c5⟩:=t.up _ _ e;refine⟨a',e,c2,c4,c3,fun x hx=>?_⟩;rw [Ah.step e];refine⟨fun k=>?_,.inr⟩;rcases k with rfl|k
  ·have:=t.le hx;omega
  ·exact k
structure Cm (ord:List Nat) (D:List Int) (a0 b0 a b:Nat):Prop where
 ha:a∈ord
 pa:CL D a
 hb:b∈ord
 pb:CL D b
 eq:∀x,(Ah D a0 x∧Ah D b0 x)↔(Ah D a x∧Ah D b x)
theorem Cm.left (g:Gr n nx ord pos) (t:TI n nx ord pos D) {a0 b0 a b:Nat} (c:Cm ord D a0 b0 a b) (h:pos b<pos a):∃a':Nat,D.getD a (-1)=(a':Int)∧pos a'<pos a∧Cm ord D a0 b0 a' b:=by
 obtain⟨a',e,h1,h2,h3,h4⟩:=uq g t c.ha c.pa h;refine⟨a',e,h3,h1,h2,c.hb,c.pb,fun x=>?_⟩;rw [c.eq];exact⟨fun ⟨p,q⟩=>⟨(h4 x q).1 p,q⟩,fun ⟨p,q⟩=>⟨(h4 x q).2 p,q⟩⟩
theorem Cm.right (g:Gr n nx ord pos) (t:TI n nx ord pos D) {a0 b0 a b:Nat} (c:Cm ord D a0 b0 a b) (hne:a≠b) (h:¬pos b<pos a):∃b':Nat,D.getD b (-1)=(b':Int)∧pos b'<pos b∧Cm ord D a0 b0 a b':=by
 have h':pos a<pos b:=by
  have:pos a≠pos b:=fun e=>hne (g.inj c.ha c.hb e);omega
 obtain⟨b',e,h1,h2,h3,h4⟩:=uq g t c.hb c.pb h';refine⟨b',e,h3,c.ha,c.pa,h1,h2,fun x=>?_⟩;rw [c.eq];exact⟨fun ⟨p,q⟩=>⟨p,(h4 x p).1 q⟩,fun ⟨p,q⟩=>⟨p,(h4 x p).2 q⟩⟩
theorem Cm.done {a0 b0 c:Nat} (h:Cm ord D a0 b0 c c) (x:Nat):Ah D c x↔Ah D a0 x∧Ah D b0 x:=by
 rw [h.eq];exact⟨fun k=>⟨k,k⟩,fun k=>k.1⟩
def Np (ord:List Nat) (D:List Int) (js:List Nat) (next:Int):Prop:=
 (next = -1∧∀p∈js,¬CL D p)∨∃c:Nat,next=(c:Int)∧c∈ord∧CL D c∧(∃p∈js,CL D p)∧∀x,Ah D c x↔∀p∈js,CL D p→Ah D p x
theorem Np.nil:Np ord D [] (-1):=.inl ⟨rfl,by simp⟩
theorem Np.skip {js:List Nat} {next:Int} {p:Nat} (h:Np ord D js next) (hp:¬CL D p):Np ord D (js++[p]) next:=by
 rcases h with⟨h1,h2⟩|⟨c,h1,h2,h3,⟨q,hq,h4⟩,h5⟩
 ·refine .inl ⟨h1,fun q hq=>?_⟩
  rcases CG.1 hq with hq|hq
  ·exact h2 q hq
  ·obtain rfl:q=p:=by simpa using hq
   exact hp
 ·refine .inr ⟨c,h1,h2,h3,⟨q,Ty _ hq,h4⟩,fun x=>?_⟩
  rw [h5];constructor
  ·intro k r hr pr
   rcases CG.1 hr with hr|hr
   ·exact k r hr pr
   ·obtain rfl:r=p:=by simpa using hr
    exact absurd pr hp
  ·exact fun k r hr pr=>k r (Ty _ hr) pr
theorem Np.first {js:List Nat} {next:Int} {p:Nat} (h:Np ord D js next) (hn:next<0) (hp:CL D p) (ho:p∈ord):Np ord D (js++[p]) (p:Int):=by
 rcases h with⟨h1,h2⟩|⟨c,h1,_⟩
 ·refine .inr ⟨p,rfl,ho,hp,⟨p,by simp,hp⟩,fun x=>⟨fun k r hr pr=>?_,fun k=>k p AO hp⟩⟩
  rcases CG.1 hr with hr|hr
  ·exact absurd pr (h2 r hr)
  ·obtain rfl:r=p:=by simpa using hr
   exact k
 ·omega
theorem Np.join {js:List Nat} {next:Int} {p d:Nat} (h:Np ord D js next) (hn:0≤next) (hp:CL D p) (hd:d∈ord) (pd:CL D d) (hx:∀x,Ah D d x↔Ah D next.toNat x∧Ah D p x):Np ord D (js++[p]) (d:Int):=by
 rcases h with⟨h1,_⟩|⟨c,rfl,h2,h3,⟨q,hq,h4⟩,h5⟩
 ·omega
 ·refine .inr ⟨d,rfl,hd,pd,⟨p,by simp,hp⟩,fun x=>?_⟩
  rw [hx,Dk,h5];constructor
  ·rintro⟨k1,k2⟩ r hr pr
   rcases CG.1 hr with hr|hr
   ·exact k1 r hr pr
   ·obtain rfl:r=p:=by simpa using hr
    exact k2
  ·exact fun k=>⟨fun r hr pr=>k r (Ty _ hr) pr,k p AO hp⟩
theorem Np.cur {js:List Nat} {next:Int} (h:Np ord D js next) (hn:0≤next):∃c:Nat,next=(c:Int)∧c∈ord∧CL D c:=by
 rcases h with⟨h1,_⟩|⟨c,h1,h2,h3,_⟩
 ·omega
 ·exact⟨c,h1,h2,h3⟩
theorem Np.stp (g:Gr n nx ord pos) {js:List Nat} {next:Int} {b:Nat} (h:Np ord D js next) (Ss:∀p∈ord,b∈nx p→p∈js) (UY:∀p∈js,CL D p→b∈nx p) (Kj:∀p,CL D p→p∈ord) (hb:b∈ord) (h0:b≠0) (vQ:∀p∈ord,pos p<pos b→CL D p) :
  ∃c:Nat,next=(c:Int)∧R9 nx ord pos D b c:=by
 obtain⟨p,h1,h2,h3⟩:=g.tree b hb h0;rcases h with⟨_,h4⟩|⟨c,rfl,_,_,_,h5⟩
 ·exact absurd (vQ p h1 h3) (h4 p (Ss p h1 h2))
 ·exact⟨c,rfl,hb,h0,fun x=>(h5 x).trans ⟨fun k q hq pq=>k q (Ss q (Kj q pq) hq) pq,fun k q hq pq=>k q (UY q hq pq) pq⟩,vQ⟩
theorem TI.vX (g:Gr n nx ord pos) (t:TI n nx ord pos D) {p:Nat} (h:CL D p):p∈ord:=by
 rcases h with rfl|h
 ·exact g.zero
 ·exact (t.up p _ (P6 h).symm).1
structure G2 (n:Nat) (nx:Nat→List Nat) (ord:List Nat) (pos:Nat→Nat) (k i:Nat) (D:List Int) (ch:Bool):Prop where
 ti:TI n nx ord pos D
 uf:UF nx ord pos D k i
 prev:∀p∈ord,pos p<i→CL D p
 all:0<k→∀p∈ord,CL D p
 fix:ch=false→∀b∈ord,pos b<i→b≠0→∃c:Nat,D.getD b (-1)=(c:Int)∧Nca nx D b c
 stop:n<k→ch=false
theorem G2.init (g:Gr n nx ord pos):G2 n nx ord pos 0 1 (List.replicate n (-1)) false:=by
 have hD:∀b,(List.replicate n (-1:Int)).getD b (-1) = -1:=fun b=>by
  rw [List.getD,dB];split<;>rfl
 have z:∀p∈ord,pos p<1→p=0:=fun p hp h=>g.inj hp g.zero (by rw [g.Vl];omega);exact⟨.first AO hD,.first g hD,fun p hp h=>.inl (z p hp h),fun h=>by omega,fun _ b hb h h0=>absurd (z b hb h) h0,fun h=>rfl⟩
theorem abg {b c:Nat} (hb:b<D.length) (h:D.getD b (-1)=(c:Int)):D.set b (c:Int)=D:=by
 have:D[b]=(c:Int):=by simpa [List.getD,Aj hb] using h
 rw [←this];exact List.set_getElem_self hb
theorem G2.same (g:Gr n nx ord pos) {k b c:Nat} {ch:Bool} (s:G2 n nx ord pos k (pos b) D ch) (h:R9 nx ord pos D b c) (he:D.getD b (-1)=(c:Int)):G2 n nx ord pos k (pos b+1) D ch:=by
 have hbl:b<D.length:=by rw [s.ti.len];exact g.lt b h.hb
 have h1:=s.uf.step g s.ti h s.all;rw [abg hbl he] at h1;refine⟨s.ti,h1,fun p hp hi=>?_,s.all,fun hc p hp hi h0=>?_,s.stop⟩
 ·by_cases e:pos p=pos b
  ·obtain rfl:=g.inj hp h.hb e
   exact .inr (by rw [he];omega)
  ·exact s.prev p hp A0
 ·by_cases e:pos p=pos b
  ·obtain rfl:=g.inj hp h.hb e
   exact⟨c,he,h.Ud⟩
  ·exact s.fix hc p hp A0 h0
theorem G2.change (g:Gr n nx ord pos) {k b c:Nat} {ch:Bool} (s:G2 n nx ord pos k (pos b) D ch) (h:R9 nx ord pos D b c) (he:D.getD b (-1)≠(c:Int)):G2 n nx ord pos k (pos b+1) (D.set b (c:Int)) true:=by
 have hbl:b<D.length:=by rw [s.ti.len];exact g.lt b h.hb
 refine⟨s.ti.step g h,s.uf.step g s.ti h s.all,fun p hp hi=>?_,fun hk p hp=>gC (s.all hk p hp),fun hc=>(by cases hc),fun hk=>?_⟩
 ·by_cases e:pos p=pos b
  ·obtain rfl:=g.inj hp h.hb e
   exact .inr (by rw [cK hbl];omega)
  ·exact gC (s.prev p hp A0)
 ·have ha:=s.all A0
  exact absurd ((s.uf.exact g s.ti hk ha).same g s.ti ha h) he
theorem G2.next (g:Gr n nx ord pos) {k:Nat} (s:G2 n nx ord pos k ord.length D true):k≤n∧G2 n nx ord pos (k+1) 1 D false:=by
 have hall:∀p∈ord,CL D p:=fun p hp=>s.prev p hp (Bl.1 (g.idx hp)).1;have z:∀p∈ord,pos p<1→p=0:=fun p hp h=>g.inj hp g.zero (by rw [g.Vl];omega);refine⟨?_,s.ti,s.uf.next g,fun p hp _=>hall p hp,fun _=>hall,fun _ b hb h h0=>absurd (z b hb h) h0,fun _=>rfl⟩;by_cases h:n<k
 ·have:=s.stop h;cases this
 ·omega
structure IM (n:Nat) (nx:Nat→List Nat) (ord:List Nat) (pos:Nat→Nat) (D:List Int):Prop where
 ti:TI n nx ord pos D
 all:∀p∈ord,CL D p
 ex:Exact nx ord D
theorem G2.done (g:Gr n nx ord pos) {k:Nat} (s:G2 n nx ord pos k ord.length D false):IM n nx ord pos D:=by
 have hlt:∀p∈ord,pos p<ord.length:=fun p hp=>(Bl.1 (g.idx hp)).1;have hall:∀p∈ord,CL D p:=fun p hp=>s.prev p hp (hlt p hp);exact⟨s.ti,hall,aqE g s.ti hall fun b hb h0=>s.fix rfl b hb (hlt b hb) h0⟩
end
end
section
def Gj (n:Nat) (ord:List Nat) (pos:Nat→Nat) (i:Nat):List Int:=(List.range n).map fun b=>if b∈ord.take i then (pos b:Int) else -1
theorem uU (n:Nat) (ord:List Nat) (pos:Nat→Nat) (i:Nat):(Gj n ord pos i).length=n:=by simp [Gj]
theorem vJ (n:Nat) (ord:List Nat) (pos:Nat→Nat):Gj n ord pos 0=List.replicate n (-1):=by
 apply MJ
 ·simp [Gj]
 ·intro i h1 h2;simp [Gj]
theorem aoq {n:Nat} {ord:List Nat} {pos:Nat→Nat} {i b:Nat} (hb:b<n):(Gj n ord pos i).getD b (-1)=if b∈ord.take i then (pos b:Int) else -1:=by
 rw [List.getD,Gj,Cr,Ev hb];rfl
theorem wJ {n:Nat} {nx:Nat→List Nat} {ord:List Nat} {pos:Nat→Nat} (g:Gr n nx ord pos) {i b:Nat} (hb:ord[i]?=some b):(Gj n ord pos i).set b (i:Int)=Gj n ord pos (i+1):=by
 apply MJ
 ·simp [Gj]
 ·intro j h1 h2
  obtain⟨hi,rfl⟩:=Bl.1 hb;rw [Wh];simp only [Gj,UW,WZ];by_cases e:ord[i]=j
  ·have hp:=g.at_ i _ hb
   rw [AE e,AE (by rw [←e];exact List.mem_take_iff_getElem.2 ⟨i,by omega,rfl⟩),← e,hp]
  ·rw [A9 e]
   have:j∈ord.take (i+1)↔j∈ord.take i:=by
    rw [zC hi,CG];simp [Ds e]
   simp only [this]
theorem fW {n:Nat} {nx:Nat→List Nat} {ord:List Nat} {pos:Nat→Nat} (g:Gr n nx ord pos) {b:Nat} (hb:b<n):(Gj n ord pos ord.length).getD b (-1)=if b∈ord then (pos b:Int) else -1:=by
 rw [aoq hb,Hx]
inductive S8 (pv:Nat→List Nat) (R:Nat→Prop) (h:Nat) (Eu:List Nat):Nat→Prop
 | hd:S8 pv R h Eu h
 | lt {l:Nat}:l∈Eu→R l→S8 pv R h Eu l
 | up {b p:Nat}:S8 pv R h Eu b→b≠h→p∈pv b→R p→S8 pv R h Eu p
structure Om (pv:Nat→List Nat) (R:Nat→Prop) (b:Nat) (S S':Nat→Prop):Prop where
 grow:∀x,S x→S' x
 has:R b→S' b
 Mv:∀x,S' x→S x∨R x
 closed:∀x,S' x→¬S x→∀p∈pv x,R p→S' p
 least:∀Q:Nat→Prop,Q b→(∀x,Q x→S' x→¬S x→∀p∈pv x,Q p)→∀x,S' x→S x∨Q x
structure PG (pv:Nat→List Nat) (R:Nat→Prop) (bs:List Nat) (S S':Nat→Prop):Prop where
 grow:∀x,S x→S' x
 has:∀b∈bs,R b→S' b
 Mv:∀x,S' x→S x∨R x
 closed:∀x,S' x→¬S x→∀p∈pv x,R p→S' p
 least:∀Q:Nat→Prop,(∀b∈bs,Q b)→(∀x,Q x→S' x→¬S x→∀p∈pv x,Q p)→∀x,S' x→S x∨Q x
section
variable {pv:Nat→List Nat} {R:Nat→Prop} {S S' Qs:Nat→Prop} {b:Nat} {bs:List Nat}
theorem Om.skip (h:S b∨¬R b):Om pv R b S S:=
 ⟨fun _ h=>h,fun hr=>h.elim id fun hn=>absurd hr hn,fun _ h=>.inl h,fun x h hn=>absurd h hn,fun Q _ _ x h=>.inl h⟩
theorem PG.nil:PG pv R [] S S:=
 ⟨fun _ h=>h,by simp,fun _ h=>.inl h,fun x h hn=>absurd h hn,fun Q _ _ x h=>.inl h⟩
theorem PG.snoc (h:PG pv R bs S S') (k:Om pv R b S' Qs):PG pv R (bs++[b]) S Qs:=by
 refine⟨fun x hx=>k.grow x (h.grow x hx),fun x hx hr=>?_,fun x hx=>?_,fun x hx hn p hp hr=>?_,fun Q hQ hc x hx=>?_⟩
 ·rcases CG.1 hx with hx|hx
  ·exact k.grow x (h.has x hx hr)
  ·obtain rfl:x=b:=by simpa using hx
   exact k.has hr
 ·rcases k.Mv x hx with h1|h1
  ·exact h.Mv x h1
  ·exact .inr h1
 ·by_cases h1:S' x
  ·exact k.grow p (h.closed x h1 hn p hp hr)
  ·exact k.closed x hx h1 p hp hr
 ·have e1:=h.least Q (fun c hc=>hQ c (Ty _ hc)) fun y hy h1 h2=>hc y hy (k.grow y h1) h2
  rcases k.least Q (hQ b AO) (fun y hy h1 h2=>hc y hy h1 fun h3=>h2 (h.grow y h3)) x hx with h1|h1
  ·exact e1 x h1
  ·exact .inr h1
theorem Om.of (hr:R b) (hn:¬S b) (h:PG pv R (pv b) (fun x=>S x∨x=b) S'):Om pv R b S S':=by
 refine⟨fun x hx=>h.grow x (.inl hx),fun _=>h.grow b (.inr rfl),fun x hx=>?_,fun x hx BJ p hp Uq=>?_,fun Q hQ hc x hx=>?_⟩
 ·rcases h.Mv x hx with (h1|rfl)|h1
  ·exact .inl h1
  ·exact .inr hr
  ·exact .inr h1
 ·by_cases hxb:x=b
  ·subst hxb;exact h.has p hp Uq
  ·exact h.closed x hx (fun h1=>h1.elim BJ hxb) p hp Uq
 ·rcases h.least Q (fun p hp=>hc b hQ (h.grow b (.inr rfl)) hn p hp) (fun y hy h1 h2=>hc y hy h1 fun h3=>h2 (.inl h3)) x hx with (h1|rfl)|h1
  ·exact .inl h1
  ·exact .inr hQ
  ·exact .inr h1
theorem PG.body {h:Nat} {Eu:List Nat} (hr:R h) (v:PG pv R Eu (fun x=>x=h) S') (x:Nat):S' x↔S8 pv R h Eu x:=by
 constructor
 ·intro hx
  have hR:R x:=by
   rcases v.Mv x hx with rfl|h1
   ·exact hr
   ·exact h1
  rcases v.least (fun y=>R y→S8 pv R h Eu y) (fun b hb h1=>.lt hb h1) (fun y hy h1 h2 p hp h3=>.up (hy (by
   rcases v.Mv y h1 with rfl|h4
   ·exact hr
   ·exact h4)) h2 hp h3) x hx with rfl|h1
  ·exact .hd
  ·exact h1 hR
 ·intro hx
  induction hx with
  | hd=>exact v.grow h rfl
  | lt hl h1=>exact v.has _ hl h1
  | up _ h1 h2 h3 ih=>exact v.closed _ ih h1 _ h2 h3
end
end
theorem aoA {n:Nat} {nx:Nat→List Nat} {ord:List Nat} {pos:Nat→Nat} {D:List Int} (gr:Gr n nx ord pos) (ti:TI n nx ord pos D) (hn5:n≤5000) (pq pb iq ib a0 b0:Nat) (w:World)
  (cp:w.cell? ⟨pq,0,none⟩=some (.slice (some ⟨pb,0,none⟩) n n)) (ci:w.cell? ⟨iq,0,none⟩=some (.slice (some ⟨ib,0,none⟩) n n)) (hp:∀k∈ord,w.cell? ⟨pb,k,none⟩=some (.int .i64 (pos k:Int))) (hd:∀k,k<n→w.cell? ⟨ib,k,none⟩=some (.int .i64 (D.getD k (-1)))) (sp:pq<w.heap.size) (Zd:pb<w.heap.size) (si:iq<w.heap.size) (sib:ib<w.heap.size) (ha:a0∈ord) (pa:CL D a0) (hb:b0∈ord) (pb0:CL D b0) :
  Calls Tryz.prog 68 #[.int .i64 (a0:Int),.int .i64 (b0:Int),.pointer (some ⟨pq,0,none⟩),.pointer (some ⟨iq,0,none⟩)] w fun e w'=>∃c:Nat,e=.returned (.int .i64 (c:Int))∧c∈ord∧CL D c∧(∀x,Ah D c x↔Ah D a0 x∧Ah D b0 x)∧Below w.heap.size w w':=by
 have⟨GR,TI,HP,HD,HC0⟩:=Fi gr ti hp hd (show Cm ord D a0 b0 a0 b0 from⟨ha,pa,hb,pb0,fun _=>Iff.rfl⟩);clear gr ti hp hd ha pa hb pb0;go_enter Tryz.func68,Tryz.ntmps68;go_upto_region 1 with fail;go_loopw [0,1] (fun s0 s1 wr=>∃a b:Nat,s0=.int .i64 (a:Int)∧s1=.int .i64 (b:Int)∧Cm ord D a0 b0 a b∧Below w.heap.size w wr) (fun s0 s1 _=>pos (intOf s0).toNat+pos (intOf s1).toNat);case atStart=>exact⟨a0,b0,rfl,rfl,HC0.out,AP _ _⟩
 case round=>
  obtain⟨a,b,rfl,rfl,hc,hb⟩:=hrel;have⟨HC,HB⟩:=AL hc hb;have hsz:=hb.size;by_cases hab:a=b
  ·subst hab
   have d1:((a:Int) != (a:Int))=false:=by simp
   have QA:=A3 hc.done;clear hc hb;go_wp2_with fail;go_ret;exact⟨a,rfl,HC.out.ha,HC.out.pa,QA.out,HB.out⟩
  ·have d1:((a:Int) != (b:Int))=true:=by simp;omega
   have hal:=GR.out.lt a hc.ha;have hbl:=GR.out.lt b hc.hb;have p1:wr.cell? ⟨pb,a,none⟩=some (.int .i64 (pos a:Int)):=(hb.cell (p:=⟨pb,a,none⟩) Zd).trans (HP.out a hc.ha);have p2:wr.cell? ⟨pb,b,none⟩=some (.int .i64 (pos b:Int)):=(hb.cell (p:=⟨pb,b,none⟩) Zd).trans (HP.out b hc.hb);have p3:wr.cell? ⟨pq,0,none⟩=some (.slice (some ⟨pb,0,none⟩) n n):=(hb.cell (p:=⟨pq,0,none⟩) sp).trans cp;have p4:wr.cell? ⟨iq,0,none⟩=some (.slice (some ⟨ib,0,none⟩) n n):=(hb.cell (p:=⟨iq,0,none⟩) si).trans ci;have s1:pb<wr.heap.size:=by omega
   have s2:pq<wr.heap.size:=by omega
   have s3:iq<wr.heap.size:=by omega
   have s4:ib<wr.heap.size:=by omega
   have i1:(a:Int)<(n:Int):=by omega
   have i2:(b:Int)<(n:Int):=by omega
   by_cases hgt:pos b<pos a
   ·have d2:decide ((pos b:Int)<(pos a:Int))=true:=AR A0
    have d3:decide (pos b<pos a)=true:=AR hgt;obtain⟨a',e1,e2,e3⟩:=hc.left GR.out TI.out hgt;have p5:wr.cell? ⟨ib,a,none⟩=some (.int .i64 (a':Int)):=by rw [←e1];exact (hb.cell (p:=⟨ib,a,none⟩) sib).trans (HD.out a hal)
    have HC':=A3 e3;obtain⟨qa,MA⟩:∃q,pos a=q:=⟨_,rfl⟩;obtain⟨qb,Jv⟩:∃q,pos b=q:=⟨_,rfl⟩;have HE:=A3 (Dt e2 (Dt MA Jv));rw [MA] at p1 d2 d3;rw [Jv] at p2 d2 d3;clear hc hb e1 e2 e3 hgt hab MA Jv HC0 cp ci;go_upto_region 2 with fail;refine Cg A6 A6 ?_;repeat (go_big_quiet_step (fail))
    refine Ba ?_;rintro _ ⟨y,rfl⟩;have q4:=y.cell iq 0 s3;have q5:=y.cell ib a s4;rw [p4] at q4;rw [p5] at q5;clear p1 p2 p3 p4 p5;go_wp2_with fail;go_roundw;case rel=>exact⟨a',b,rfl,rfl,HC'.out,HB.out.trans (y.h.mono hsz)⟩
    case measure=>have:=HE.out;simp [intOf];omega
   ·have d2:decide ((pos b:Int)<(pos a:Int))=false:=Aq A0
    have d3:decide (pos b<pos a)=false:=Aq hgt;obtain⟨b',e1,e2,e3⟩:=hc.right GR.out TI.out hab hgt;have p5:wr.cell? ⟨ib,b,none⟩=some (.int .i64 (b':Int)):=by rw [←e1];exact (hb.cell (p:=⟨ib,b,none⟩) sib).trans (HD.out b hbl)
    have HC':=A3 e3;obtain⟨qa,MA⟩:∃q,pos a=q:=⟨_,rfl⟩;obtain⟨qb,Jv⟩:∃q,pos b=q:=⟨_,rfl⟩;have HE:=A3 (Dt e2 (Dt MA Jv));rw [MA] at p1 d2 d3;rw [Jv] at p2 d2 d3;clear hc hb e1 e2 e3 hgt hab MA Jv HC0 cp ci;go_upto_region 2 with fail;refine Cg A6 A6 ?_;repeat (go_big_quiet_step (fail))
    refine Ba ?_;rintro _ ⟨y,rfl⟩;have q4:=y.cell iq 0 s3;have q5:=y.cell ib b s4;rw [p4] at q4;rw [p5] at q5;clear p1 p2 p3 p4 p5;go_wp2_with fail;go_roundw;case rel=>exact⟨a,b',rfl,rfl,HC'.out,HB.out.trans (y.h.mono hsz)⟩
    case measure=>have:=HE.out;simp [intOf];omega
section
theorem Mh {w:World} {B g m cap:Nat} {l:List Int} (h:w.ownsRow B 3 1 (.slice (some ⟨g,0,none⟩) m cap) m (Av l)) (hl:l.length=m) {k:Nat} (hk:k<m):w.cell? ⟨g,k,none⟩=some (.int .i64 (l.getD k (-1))):=by
 rw [h.cellAt _ A0,Av,Cr,List.getD,Aj (by omega:k<l.length)];rfl
structure I3 (V wr:World) (iq ib pq pb n:Nat) (D P:List Int):Prop where
 A7:Below V.heap.size V wr
 Rn:wr.heap[iq]?=some (.cells #[.slice (some ⟨ib,0,none⟩) n n] 38 (0,0))
 Lj:wr.heap[pq]?=some (.cells #[.slice (some ⟨pb,0,none⟩) n n] 38 (0,0))
 ri:wr.ownsRow V.heap.size 3 1 (.slice (some ⟨ib,0,none⟩) n n) n (Av D)
 rp:wr.ownsRow V.heap.size 3 1 (.slice (some ⟨pb,0,none⟩) n n) n (Av P)
 ne:ib≠pb
 ld:D.length=n
 lp:P.length=n
section
variable {V wr wr':World} {iq ib pq pb n:Nat} {D P:List Int}
theorem I3.below (h:I3 V wr iq ib pq pb n D P) (hb:Below wr.heap.size wr wr'):I3 V wr' iq ib pq pb n D P:=
 ⟨h.A7.trans (hb.mono h.A7.size),(hb.block iq (Be.1 h.Rn).1).trans h.Rn,(hb.block pq (Be.1 h.Lj).1).trans h.Lj,CH h.ri hb,CH h.rp hb,h.ne,h.ld,h.lp⟩
theorem I3.cells (h:I3 V wr iq ib pq pb n D P):wr.cell? ⟨iq,0,none⟩=some (.slice (some ⟨ib,0,none⟩) n n)∧wr.cell? ⟨pq,0,none⟩=some (.slice (some ⟨pb,0,none⟩) n n)∧iq<wr.heap.size∧pq<wr.heap.size∧ib<wr.heap.size∧pb<wr.heap.size:=
 ⟨by simp [World.cell?,h.Rn],by simp [World.cell?,h.Lj],(Be.1 h.Rn).1,(Be.1 h.Lj).1,(h.ri.lt ib rfl).2,(h.rp.lt pb rfl).2⟩
theorem I3.ug (h:I3 V wr iq ib pq pb n D P) (k:Nat) (x:Int):I3 V (wr.setCell ⟨ib,k,none⟩ (.int .i64 x)) iq ib pq pb n (D.set k x) P:=by
 have e1:iq≠ib:=Kn h.Rn h.ri AK∘fun e=>by rw [e];rfl
 have e2:pq≠ib:=Kn h.Lj h.ri AK∘fun e=>by rw [e];rfl
 have r:=(h.ri.stored k (.int .i64 x)).1;rw [UB] at r;exact⟨h.A7.setCell (p:=⟨ib,k,none⟩) (h.ri.lt ib rfl).1 _,by rw [BL _ _ _ _ e1];exact h.Rn,by rw [BL _ _ _ _ e2];exact h.Lj,r,h.rp.kept (Hh wr ib k _) (.inr fun e=>h.ne (by injection e with e;exact e.symm)),h.ne,by simp [h.ld],h.lp⟩
theorem I3.rj (h:I3 V wr iq ib pq pb n D P) (k:Nat) (x:Int):I3 V (wr.setCell ⟨pb,k,none⟩ (.int .i64 x)) iq ib pq pb n D (P.set k x):=by
 have e1:iq≠pb:=Kn h.Rn h.rp AK∘fun e=>by rw [e];rfl
 have e2:pq≠pb:=Kn h.Lj h.rp AK∘fun e=>by rw [e];rfl
 have r:=(h.rp.stored k (.int .i64 x)).1;rw [UB] at r;exact⟨h.A7.setCell (p:=⟨pb,k,none⟩) (h.rp.lt pb rfl).1 _,by rw [BL _ _ _ _ e1];exact h.Rn,by rw [BL _ _ _ _ e2];exact h.Lj,h.ri.kept (Hh wr pb k _) (.inr fun e=>h.ne (by injection e with e)),r,h.ne,h.ld,by simp [h.lp]⟩
end
def H9 (n k:Nat):List Int:=(List.range n).map fun i=>if i<k then -1 else 0
theorem jy (n:Nat):H9 n 0=List.replicate n 0:=by
 apply MJ
 ·simp [H9]
 ·intro i h1 h2;simp [H9]
theorem uG (n:Nat):H9 n n=List.replicate n (-1):=by
 apply MJ
 ·simp [H9]
 ·intro i h1 h2
  have:i<n:=by simpa [H9] using h1
  simp [H9,this]
theorem qU (n k:Nat):(H9 n k).set k (-1)=H9 n (k+1):=by
 apply MJ
 ·simp [H9]
 ·intro i h1 h2
  rw [Wh];simp only [H9,UW,WZ];by_cases e:k=i
  ·rw [AE e,AE A0]
  ·rw [A9 e]
   by_cases h3:i<k
   ·rw [AE h3,AE A0]
   ·rw [A9 h3,A9 A0]
theorem sK {nx:List Int} {p k:Nat} {x:Int}:x∈K8 nx p k↔x=(k:Int)∧(p:Int)∈nx:=by
 unfold K8;rw [Bx];constructor
 ·rintro⟨a,ha,rfl⟩
  have:=Sz.1 ha;exact⟨rfl,by have h2:=GQ this.2;rw [←h2];exact this.1⟩
 ·rintro⟨rfl,h⟩
  exact⟨p,Sz.2 ⟨h,by simp⟩,rfl⟩
theorem lD {G:List AV} {k p:Nat} {x:Int}:x∈Pn G k p↔∃b,b<k∧x=(b:Int)∧(p:Int)∈(G.getD b ⟨0,0,[]⟩).nx:=by
 unfold Pn;rw [cj];constructor
 ·rintro⟨b,hb,h⟩
  obtain⟨h1,h2⟩:=sK.1 h;exact⟨b,J9.1 hb,h1,h2⟩
 ·rintro⟨b,hb,h1,h2⟩
  exact⟨b,J9.2 hb,sK.2 ⟨h1,h2⟩⟩
def Dj (P:List (List Int)) (b:Nat):List Nat:=(P.getD b []).map Int.toNat
theorem qF {G:List AV} {P:List (List Int)} (hV:Ea G P) {b p:Nat} (hb:b<G.length):(p∈Dj P b↔p<G.length∧b∈Ar G p)∧(∀x∈P.getD b [],0≤x∧x<(G.length:Int)):=by
 have hP:P.getD b []=Pn G G.length b:=by
  rw [←hV.prev,List.getD,Cr,Ev hb];simp [IP,K8]
 have hnn:∀q,q<G.length→∀x∈(G.getD q ⟨0,0,[]⟩).nx,0≤x:=fun q hq x hx=>by
  obtain⟨z,hz⟩:=hV.ok;have hx2:G[q]?=some G[q]:=Aj hq;rw [List.getD,hx2] at hx;obtain⟨e,he⟩:=hz.each _ (Bf hx2);exact (he.nx x hx).1
 unfold Dj Ar;rw [hP];refine⟨⟨fun h=>?_,fun ⟨h1,h2⟩=>?_⟩,fun x hx=>?_⟩
 ·obtain⟨x,hx,rfl⟩:=Bx.1 h
  obtain⟨q,hq,rfl,h2⟩:=lD.1 hx;rw [Dk];exact⟨hq,Bx.2 ⟨_,h2,Dk b⟩⟩
 ·obtain⟨x,hx,rfl⟩:=Bx.1 h2
  have:=hnn p h1 x hx;exact Bx.2 ⟨(p:Int),lD.2 ⟨p,h1,rfl,by rw [P6 this];exact hx⟩,Dk p⟩
 ·obtain⟨q,hq,rfl,_⟩:=lD.1 hx
  omega
theorem xJ (g m c:Nat) (w:World):(binOp .eql 38 (.slice (some ⟨g,0,none⟩) m c) (.slice none 0 0)).run Tryz.prog w=.ok (.bool false) w:=by kernel_rfl
theorem Zn {w:World} {g m cap k:Nat} {l:List Int} (h:Ints w (.slice (some ⟨g,0,none⟩) m cap) l) (hk:k<l.length):l.length=m∧g<w.heap.size∧w.cell? ⟨g,k,none⟩=some (.int .i64 (l.getD k 0)):=by
 obtain⟨A,cap',hv,_,_,h4⟩:=h;cases hv;obtain⟨b,off,e,hlt,hc⟩:=h4 A0;cases e;have:=hc k hk;rw [EU] at this;exact⟨rfl,hlt,this⟩
theorem jL {l:List Nat} {i b:Nat} (h:l[i]?=some b):(Bg l).getD i 0=(b:Int):=by simp [Bg,List.getD,h]
def Ff (G:List AV) (D:List Int):Prop:=IM G.length (Ar G) (CR G.length (Ar G)) (Dq G.length (Ar G)) D
theorem wL (bv pv:Value) (G:List AV) (P:List (List Int)) (w:World) (HG:Dc w bv G) (HP:CO w pv P) (HV:Ea G P) (hn:G.length≤5000) :
  Calls Tryz.prog 37 #[.agg #[bv,pv]] w fun e w'=>(∃v D,e=.returned v∧Ints w' v D∧Ff G D)∧Below w.heap.size w w':=by
 have HB:=A3 (GB.of HV hn);have hne:0<G.length:=Ic.2 HV.ne;obtain⟨gr,OV⟩:=Q3 hne HB.out.lt;have⟨Nb,ET⟩:=AL HV HV.len;obtain⟨A,cap,rfl,hc1,hc2⟩:=HG.slice;obtain⟨PA,B7,rfl,hp1,hp2⟩:=HP.slice;obtain⟨V0,Bv⟩:=AA (w.alloc (.cells #[.slice A G.length cap,.slice PA P.length B7] 31));obtain⟨gq,PX⟩:∃q,w.heap.size=q:=⟨_,rfl⟩;have b0:Below w.heap.size w V0:=Bv▸(AP _ _).alloc (AH _) _;have k0:V0.heap[gq]?=some (.cells #[.slice A G.length cap,.slice PA P.length B7] 31 (0,0)):=by rw [←Bv,← PX];exact Ai _ _
 have y0:V0.cell? ⟨gq,0,none⟩=some (.slice A G.length cap):=by simp [World.cell?,k0]
 have y1:V0.cell? ⟨gq,1,none⟩=some (.slice PA P.length B7):=by simp [World.cell?,k0]
 have s0:gq<V0.heap.size:=(Be.1 k0).1;have HO:=A3 (oH _ _ G P V0 (HG.below b0) (HP.below b0) HV hn);obtain⟨ord,ho⟩:∃o,CR G.length (Ar G)=o:=⟨_,rfl⟩;obtain⟨pos,Kj⟩:∃o,Dq G.length (Ar G)=o:=⟨_,rfl⟩;have HT:=A3 (show ∀D,IM G.length (Ar G) ord pos D→Ff G D from fun D h=>by unfold Ff;rw [ho,Kj];exact h);rw [ho,Kj] at gr;rw [ho] at HO OV;have⟨EB,B0,TD,K0⟩:=Bz gr b0 (HP.below b0) k0;have hol:ord.length≤G.length:=OS OV gr.lt;have ho0:0<ord.length:=(Bl.1 gr.z).1;clear HG HP HV b0 k0 hc1 hc2 hp1 gr ho Kj OV;obtain⟨m,hm⟩:=AA ord.length;rw [hm] at HO hol ho0;have HM:=A3 hm;clear hm;have hnil:=xJ;go_enter Tryz.func37,Tryz.ntmps37;go_upto_region 4 with (go_at_call 36;refine HO.out.mono ?_;rintro e V ⟨⟨og,Ot,rfl,Sb,-⟩,Ky⟩);have SD:=A3 Sb;have hcm:m≤Ot:=by
  obtain⟨A',cap',e1,e2,_⟩:=Sb;cases e1;exact e2
 have b1:Below w.heap.size w V:=B0.out.trans (Ky.mono B0.out.size);have v0:V.cell? ⟨gq,0,none⟩=some (.slice A G.length cap):=(Ky.cell (p:=⟨gq,0,none⟩) s0).trans y0;have v1:V.cell? ⟨gq,1,none⟩=some (.slice PA P.length B7):=(Ky.cell (p:=⟨gq,1,none⟩) s0).trans y1;have sg:gq<V.heap.size:=by have:=Ky.size;omega
 have⟨Wu,B1⟩:=AL (TD.out.below Ky) b1;clear Sb Ky y0 y1 b1 HO s0 Bv K0;obtain⟨iI,E5,E7,DT,Dw⟩:=D5 NQ;obtain⟨U1,lm,nE,gr1⟩:=O7 (P:=Tryz.prog) V V.heap.size 38 3 iI (.int .i64 0) 1 Ey E5 E7 DT .i64 .i64 G.length dH Bc (AH _);rw [Mk,show (Value.int .i64 0).cells=#[Value.int .i64 0] from rfl,Ni] at nE;obtain⟨ib,hib⟩:∃q,V.heap.size=q:=⟨_,rfl⟩;have LN:=A3 nE;rw [hib] at lm;have⟨HIB,Ek⟩:=AL hib gr1;clear nE gr1 hib hnil;go_upto_region 5 with fail;obtain⟨iq,hiq⟩:∃q,U1.heap.size=q:=⟨_,rfl⟩;obtain⟨V2,hV2⟩:∃V,U1.alloc (.cells #[.slice (some ⟨ib,0,none⟩) G.length G.length] 38)=V:=⟨_,rfl⟩;rw [hV2,hiq];have g1:=Ek.out.size;have bF:Below V.heap.size V V2:=hV2▸((AP _ _).grown Ek.out (AH _) (fun k hk=>by cases hk)).alloc A0 _;have nt:V2.heap[iq]?=some (.cells #[.slice (some ⟨ib,0,none⟩) G.length G.length] 38 (0,0)):=by rw [←hiq,← hV2];exact Ai _ _
 have ri2:=hV2▸LN.out.alloc (.cells #[.slice (some ⟨ib,0,none⟩) G.length G.length] 38);have u0:V2.cell? ⟨gq,0,none⟩=some (.slice A G.length cap):=(bF.cell (p:=⟨gq,0,none⟩) sg).trans v0;obtain⟨U3,lm3,CB,gr3⟩:=O7 (P:=Tryz.prog) V2 V.heap.size 38 3 iI (.int .i64 0) 1 Ey E5 E7 DT .i64 .i64 G.length dH Bc bF.size;rw [Mk,show (Value.int .i64 0).cells=#[Value.int .i64 0] from rfl,Ni] at CB;obtain⟨pb,hpb⟩:∃q,V2.heap.size=q:=⟨_,rfl⟩;have JH:=A3 CB;rw [hpb] at lm3;have⟨HPB,M4,RI2,BV2,gX⟩:=Fi hpb gr3 ri2 bF nt;clear CB gr3 ri2 bF nt lm hV2 hiq v0 LN Ek g1 hpb;go_upto_region 6 with fail;obtain⟨pq,hpq⟩:∃q,U3.heap.size=q:=⟨_,rfl⟩;obtain⟨V4,FH⟩:∃V,U3.alloc (.cells #[.slice (some ⟨pb,0,none⟩) G.length G.length] 38)=V:=⟨_,rfl⟩;rw [FH,hpq];have g3:=M4.out.size;have r0:Av (List.replicate G.length 0)=List.replicate G.length (Value.int .i64 0):=by simp [Av]
 have bQ:I3 V V4 iq ib pq pb G.length (H9 G.length 0) (H9 G.length 0):=by
  have siq:iq<V2.heap.size:=(Be.1 gX.out).1;have sib:ib<V2.heap.size:=by
   have:=(RI2.out.lt _ rfl).2;rw [HIB.out] at this;exact this
  obtain rfl:=HIB.out;obtain rfl:=HPB.out;refine⟨FH▸(BV2.out.grown M4.out BV2.out.size (fun k hk=>by cases hk)).alloc (by have:=BV2.out.size;omega) _,?_,by rw [←hpq,← FH];exact Ai _ _,?_,?_,by omega,by simp [H9],by simp [H9]⟩
  ·rw [←FH,Bb _ _ A0]
   exact (M4.out.block iq siq AO).trans gX.out
  ·rw [jy,r0,← FH]
   exact (RI2.out.kept M4.out (.inr (by simp [Value.ownBlock]))).alloc _
  ·rw [jy,r0,← FH]
   exact JH.out.alloc _
 have OX:=A3 bQ;have c0:=bQ.cells.1;have c1:=bQ.cells.2.2.1;clear lm3 FH hpq bQ JH M4 RI2 BV2 gX u0 g3 r0 E5 E7 DT Dw iI;go_upto_region 7 with fail;go_loopw [30] (fun a30 wr=>∃k:Nat,k≤G.length∧a30=.int .i64 (k:Int)∧I3 V wr iq ib pq pb G.length (H9 G.length k) (H9 G.length k)) (fun a30 _=>G.length - (intOf a30).toNat);case atStart=>exact⟨0,Ck _,rfl,OX.out⟩
 case round=>
  obtain⟨k,hk,rfl,hT⟩:=hrel;obtain⟨t1,t2,t3,t4,t5,t6⟩:=hT.cells;by_cases hlt:k<G.length
  ·have dl:decide ((k:Int)<(G.length:Int))=true:=AR A0
   have i1:(k:Int)<(G.length:Int):=by omega
   have x1:=Mh hT.ri hT.ld hlt;have x2:=hT.ri.frozenAt k;have h1:=hT.ug k (-1);have z1:=h1.cells;have y1:=Mh h1.rp h1.lp hlt;have y2:=h1.rp.frozenAt k;have h2:=h1.rj k (-1);rw [qU] at h2;have H2:=A3 h2;have z2:=z1.2.1;have z3:=z1.2.2.2.1;clear hT OX c0 c1 h1 h2 z1;obtain⟨X,hX⟩:=AA (wr.setCell ⟨ib,k,none⟩ (.int .i64 (-1)));rw [hX] at y1 y2 z2 z3 H2;go_upto_region 10 with fail;clear x1 x2 t1 t2 t3 t4 t5 t6 hX;go_wp2_with fail;go_roundw;case rel=>exact⟨k+1,by omega,by go_num,H2.out⟩
   case measure=>exact Aa
  ·obtain rfl:k=G.length:=by omega
   have dl:decide ((G.length:Int)<(G.length:Int))=false:=by simp
   rw [uG] at hT;have Tp:=A3 (show I3 V wr iq ib pq pb G.length (List.replicate G.length (-1)) (Gj G.length ord pos 0) by rw [vJ];exact hT);clear hT OX c0 c1 t1 t2 t3 t4 t5 t6;go_upto_region 13 with fail;go_loopw [42] (fun a42 wr=>∃i:Nat,i≤m∧a42=.int .i64 (i:Int)∧I3 V wr iq ib pq pb G.length (List.replicate G.length (-1)) (Gj G.length ord pos i)) (fun a42 _=>m - (intOf a42).toNat);case atStart=>exact⟨0,Ck _,rfl,Tp.out⟩
   case round=>
    obtain⟨i,hi,rfl,hT⟩:=hrel;obtain⟨t1,t2,t3,t4,t5,t6⟩:=hT.cells;by_cases hlt:i<m
    ·have dl:decide ((i:Int)<(m:Int))=true:=AR A0
     obtain⟨b,hb⟩:∃b,ord[i]?=some b:=⟨_,Aj VG⟩;have Cc:=EB.out.lt b (Bf hb);have oc:wr.cell? ⟨og,i,none⟩=some (.int .i64 (b:Int)):=by
      obtain⟨_,h1,h2⟩:=Zn SD.out (k:=i) (by rw [Bg,ED,HM.out];exact hlt);rw [jL hb] at h2;exact (hT.A7.cell (p:=⟨og,i,none⟩) h1).trans h2
     have i1:(b:Int)<(G.length:Int):=by omega
     have x1:=Mh hT.rp hT.lp Cc;have x2:=hT.rp.frozenAt b;have h1:=hT.rj b (i:Int);rw [wJ EB.out hb] at h1;have H1:=A3 h1;clear hT Tp h1 hb;go_wp2_with fail;go_roundw;case rel=>exact⟨i+1,by omega,by go_num,H1.out⟩
     case measure=>exact Aa
    ·obtain rfl:m=i:=by omega
     have dl:decide ((m:Int)<(m:Int))=false:=by simp
     rw [←HM.out] at hT;have HT2:=A3 hT;clear hT Tp t1 t2 t3 t4 t5 t6;go_upto_region 19 with fail;go_loopg [10] (G.length+2) (fun gk a10 wr=>∃(k:Nat) (D:List Int),I3 V wr iq ib pq pb G.length D (Gj G.length ord pos ord.length)∧((a10=.bool true∧gk+k=G.length+2∧k≤G.length+1∧G2 G.length (Ar G) ord pos k 1 D false)∨(a10=.bool false∧gk=0∧IM G.length (Ar G) ord pos D)));case atStart=>exact⟨0,_,HT2.out,.inl ⟨rfl,rfl,by omega,G2.init EB.out⟩⟩
     case round=>
      obtain⟨k,D,hT,h⟩:=hrel;obtain⟨t1,t2,t3,t4,t5,t6⟩:=hT.cells;rcases h with⟨rfl,PN,hk,hP⟩|⟨rfl,-,hI⟩
      ·have VK:=A3 hT
       have bM:=A3 hP;have hm1:(1:Int)≤(m:Int):=by omega
       clear hT hP HT2 t1 t2 t3 t4 t5 t6;by_cases hoc:Ot=1
       ·subst hoc
        go_upto_region 22 with fail;go_loopw [10,57] (fun a10 a57 wr=>∃(i:Nat) (D:List Int) (ch:Bool),i≤m - 1∧a57=.int .i64 (i:Int)∧a10=.bool ch∧I3 V wr iq ib pq pb G.length D (Gj G.length ord pos ord.length)∧G2 G.length (Ar G) ord pos k (i+1) D ch) (fun _ a57 _=>m - 1 - (intOf a57).toNat);case atStart=>exact⟨0,D,false,Ck _,rfl,rfl,VK.out,bM.out⟩
        case round=>
         clear VK bM D;obtain⟨i,D,ch,hi,rfl,rfl,hT,hP⟩:=hrel;obtain⟨t1,t2,t3,t4,t5,t6⟩:=hT.cells;obtain rfl:i=m - 1:=by omega
         have dl:decide (((m - 1:Nat):Int)<(m:Int) - 1)=false:=Aq A0;have⟨Mx,XX⟩:=AL hT (show G2 G.length (Ar G) ord pos k ord.length D ch by have:=hP;rwa [show m - 1+1=ord.length by rw [HM.out];omega] at this);clear hT hP t1 t2 t3 t4 t5 t6;rcases ch with _|_
         ·have QA:=A3 (XX.out.done EB.out)
          go_wp2_with fail
          go_roundg 0
          case measure=>omega
          case rel=>exact⟨k,D,Mx.out,.inr ⟨rfl,rfl,QA.out⟩⟩
         ·obtain⟨hkn,BJ⟩:=XX.out.next EB.out
          have Cw:=A3 BJ;clear BJ;go_wp2_with fail
          go_roundg (G.length+2 - (k+1))
          case measure=>omega
          case rel=>exact⟨k+1,D,Mx.out,.inl ⟨rfl,by omega,by omega,Cw.out⟩⟩
       go_upto_region 22 with fail;go_loopw [10,57] (fun a10 a57 wr=>∃(i:Nat) (D:List Int) (ch:Bool),i≤m - 1∧a57=.int .i64 (i:Int)∧a10=.bool ch∧I3 V wr iq ib pq pb G.length D (Gj G.length ord pos ord.length)∧G2 G.length (Ar G) ord pos k (i+1) D ch) (fun _ a57 _=>m - 1 - (intOf a57).toNat);case atStart=>exact⟨0,D,false,Ck _,rfl,rfl,VK.out,bM.out⟩
       case round=>
        clear VK bM D;obtain⟨i,D,ch,hi,rfl,rfl,hT,hP⟩:=hrel;obtain⟨t1,t2,t3,t4,t5,t6⟩:=hT.cells;have hsz:=hT.A7.size;by_cases hlt:i<m - 1
        ·have dl:decide ((i:Int)<(m:Int) - 1)=true:=AR A0
         have di1:(i:Int)+1<(m:Int):=by omega
         obtain⟨b,hb⟩:∃b,ord[i+1]?=some b:=⟨_,Aj (by rw [HM.out];omega)⟩;have GU:=Bf hb;have Cc:=EB.out.lt b GU;have hpb:=EB.out.at_ _ _ hb;have hb0:b≠0:=by rintro rfl;rw [EB.out.Vl] at hpb;omega
         have oc:wr.cell? ⟨og,1+i,none⟩=some (.int .i64 (b:Int)):=by
          obtain⟨_,h1,h2⟩:=Zn SD.out (k:=i+1) (by rw [Bg,ED,HM.out];omega);rw [jL hb] at h2;rw [Uh 1 i];exact (hT.A7.cell (p:=⟨og,i+1,none⟩) h1).trans h2
         have sog:og<wr.heap.size:=by
          obtain⟨_,h1,h2⟩:=Zn SD.out (k:=i+1) (by rw [Bg,ED,HM.out];omega);omega
         have g1:wr.cell? ⟨gq,1,none⟩=some (.slice PA P.length B7):=(hT.A7.cell (p:=⟨gq,1,none⟩) sg).trans v1;have sgw:gq<wr.heap.size:=by omega
         obtain⟨pl,hpl⟩:∃l,P.getD b []=l:=⟨_,rfl⟩;obtain⟨pk,po,ZK,spk,lv,pc1,hlv⟩:∃pk po,PA=some ⟨pk,po,none⟩∧pk<V.heap.size∧∃lv,V.cell? ⟨pk,po+b,none⟩=some lv∧Ints V lv pl:=by
          obtain⟨_,_,e1,_,_,e4⟩:=Wu.out;cases e1;have YU:b<P.length:=by rw [ET.out];exact Cc
          obtain⟨pk,po,e5,e6,e7⟩:=e4 A0;obtain⟨lv,e8,e9⟩:=e7 b _ (Aj YU);refine⟨pk,po,e5,e6,lv,e8,?_⟩;rw [←hpl,List.getD,Aj YU];exact e9
         subst ZK;obtain⟨LA,SR,hle,hl1,hl2⟩:=hlv.slice;subst hle;have pc2:wr.cell? ⟨pk,po+b,none⟩=some (.slice LA pl.length SR):=(hT.A7.cell (p:=⟨pk,po+b,none⟩) spk).trans pc1;have dP:pk<wr.heap.size:=by omega
         have ibP:(b:Int)<(P.length:Int):=by rw [ET.out];omega
         have⟨MS,Xk,UK,HT4,Q0,FW⟩:=I2 hlv (fun p=>qF (p:=p) Nb.out Cc) hpl hT hP (Dt GU (Dt hpb hb0));clear hT hP hb GU hpb hb0 hlv pc1 hpl;go_upto_region 26 with fail;clear oc g1 pc2 t1 t2 dl;go_loopw [13,67] (fun a13 a67 wr=>∃(j:Nat) (next:Int),j≤pl.length∧a67=.int .i64 (j:Int)∧a13=.int .i64 next∧Np ord D ((Dj P b).take j) next∧I3 V wr iq ib pq pb G.length D (Gj G.length ord pos ord.length)) (fun _ a67 _=>pl.length - (intOf a67).toNat);case atStart=>exact⟨0,-1,Ck _,rfl,rfl,Np.nil,HT4.out⟩
         case round=>
          clear HT4 t3 t4 t5 t6 hsz sog sgw dP;obtain⟨j,next,hj,rfl,rfl,hN,hT⟩:=hrel;obtain⟨t1,t2,t3,t4,t5,t6⟩:=hT.cells;have⟨HN,Mx⟩:=AL hN hT;by_cases hlt2:j<pl.length
          ·obtain⟨pv0,lb,lo,hs,Sj,Y9,lc⟩:=MS.out.at_ hT.A7 hlt2
           subst Sj;have hpv:=(Xk.out 0).2 pv0 (by rw [UK.out];exact Bf hs);obtain⟨p,rfl⟩:∃p:Nat,pv0=(p:Int):=⟨pv0.toNat,by omega⟩;have Gz:p<G.length:=by omega
           have Da:(Dj P b).take (j+1)=(Dj P b).take j++[p]:=by
            have:(Dj P b)[j]?=some p:=by unfold Dj;rw [UK.out,Cr,hs];rfl
            rw [G4,this];rfl
           have dl2:decide ((j:Int)<(pl.length:Int))=true:=AR A0;have xd:=Mh hT.ri hT.ld Gz;obtain⟨dp,hdp⟩:∃d,D.getD p (-1)=d:=⟨_,rfl⟩;rw [hdp] at xd;have ip1:(p:Int)<(G.length:Int):=by omega
           by_cases MM:CL D p
           ·have Kj:=Q0.out.ti.vX EB.out MM
            have WW:p=0∨(¬p=0∧0≤dp):=by
             unfold CL at MM;rw [hdp] at MM;omega
            by_cases hnn:next<0
            ·have HR:=A3 (show Np ord D ((Dj P b).take (j+1)) (p:Int) by rw [Da];exact hN.first hnn MM Kj)
             have dn:decide (next<0)=true:=AR hnn;clear hN hT MM Kj Da hdp hs hpv;rcases WW with h0|⟨h0,h1⟩
             ·have dz:((p:Int) != 0)=false:=by simp;omega
              clear h0;go_wp2_with fail;go_roundw;case rel=>exact⟨j+1,(p:Int),by omega,by go_num,rfl,HR.out,Mx.out⟩
              case measure=>exact Aa
             ·have dz:((p:Int) != 0)=true:=by simp;omega
              have dd:decide (dp<0)=false:=Aq A0;clear h0;go_wp2_with fail;go_roundw;case rel=>exact⟨j+1,(p:Int),by omega,by go_num,rfl,HR.out,Mx.out⟩
              case measure=>exact Aa
            ·obtain⟨c,rfl,VC,Yw⟩:=hN.cur A0
             have dn:decide ((c:Int)<0)=false:=Aq hnn;have wY:=A3 (aoA EB.out Q0.out.ti hn pq pb iq ib c p wr t2 t1 (fun k hk=>by
              have h1:=Mh hT.rp hT.lp (EB.out.lt k hk);rw [fW EB.out (EB.out.lt k hk),AE hk] at h1
              exact h1) (fun k hk=>Mh hT.ri hT.ld hk) t4 t6 t3 t5 VC Yw Kj MM)
             have HJ:=A3 (show ∀d:Nat,d∈ord→CL D d→(∀x,Ah D d x↔Ah D c x∧Ah D p x)→Np ord D ((Dj P b).take (j+1)) (d:Int) from fun d h1 h2 h3=>by rw [Da];exact hN.join A0 MM h1 h2 (by rw [Dk];exact h3));clear hN hT MM Kj Da hdp hs hpv VC Yw hnn;rcases WW with h0|⟨h0,h1⟩
             ·have dz:((p:Int) != 0)=false:=by simp;omega
              clear h0;go_wp2_with (go_at_call 68;refine wY.out.mono ?_;rintro e W9 ⟨d,rfl,hd1,hd2,hd3,hb9⟩);go_roundw;case rel=>exact⟨j+1,(d:Int),by omega,by go_num,rfl,HJ.out d hd1 hd2 hd3,Mx.out.below hb9⟩
              case measure=>exact Aa
             ·have dz:((p:Int) != 0)=true:=by simp;omega
              have dd:decide (dp<0)=false:=Aq A0;clear h0;go_wp2_with (go_at_call 68;refine wY.out.mono ?_;rintro e W9 ⟨d,rfl,hd1,hd2,hd3,hb9⟩);go_roundw;case rel=>exact⟨j+1,(d:Int),by omega,by go_num,rfl,HJ.out d hd1 hd2 hd3,Mx.out.below hb9⟩
              case measure=>exact Aa
           ·have hno:¬p=0∧dp<0:=by
             unfold CL at MM;rw [hdp] at MM;omega
            have HR:=A3 (show Np ord D ((Dj P b).take (j+1)) next by rw [Da];exact hN.skip MM);have dz:((p:Int) != 0)=true:=by simp;omega
            have dd:decide (dp<0)=true:=AR hno.2;clear hN hT MM Da hdp hs hpv hno;go_wp2_with fail;go_roundw;case rel=>exact⟨j+1,next,by omega,by go_num,rfl,HR.out,Mx.out⟩
            case measure=>exact Aa
          ·obtain rfl:j=pl.length:=by omega
           have dl2:decide ((pl.length:Int)<(pl.length:Int))=false:=by simp
           have hall:(Dj P b).take pl.length=Dj P b:=Gq (by unfold Dj;rw [UK.out,ED];exact AH _);rw [hall] at hN;obtain⟨GU,hpb,hb0⟩:=FW.out;obtain⟨c,rfl,hst⟩:=hN.stp EB.out (fun q hq hbq=>((Xk.out q).1).2 ⟨EB.out.lt q hq,hbq⟩) (fun q hq _=>((Xk.out q).1.1 hq).2) (fun q hq=>Q0.out.ti.vX EB.out hq) GU hb0 (fun q hq hlt=>Q0.out.prev q hq A0);have xd:=Mh hT.ri hT.ld Cc;have xf:=hT.ri.frozenAt b;have ib1:(b:Int)<(G.length:Int):=by omega
           obtain⟨db,hdb⟩:∃d,D.getD b (-1)=d:=⟨_,rfl⟩;have ey:G2 G.length (Ar G) ord pos k (pos b) D ch:=by rw [hpb];exact Q0.out
           by_cases hsame:db=(c:Int)
           ·have HR:=A3 (show G2 G.length (Ar G) ord pos k (i+1+1) D ch by rw [←hpb];exact ey.same EB.out hst (hdb.trans hsame))
            rw [hdb,hsame] at xd;have dq:((c:Int) != (c:Int))=false:=by simp
            clear hN hT hst ey hdb hsame GU hpb hb0 hall;go_wp2_with fail;go_roundw;case rel=>exact⟨i+1,D,ch,by omega,by go_num,rfl,Mx.out,HR.out⟩
            case measure=>exact Aa
           ·have HR:=A3 (show G2 G.length (Ar G) ord pos k (i+1+1) (D.set b (c:Int)) true by rw [←hpb];exact ey.change EB.out hst (by rw [hdb];exact hsame))
            have Wo:=A3 (hT.ug b (c:Int));rw [hdb] at xd;have dq:((c:Int) != db)=true:=by simp;omega
            clear hN hT hst ey hdb hsame GU hpb hb0 hall;go_wp2_with fail;go_roundw;case rel=>exact⟨i+1,D.set b (c:Int),true,by omega,by go_num,rfl,Wo.out,HR.out⟩
            case measure=>exact Aa
        ·obtain rfl:i=m - 1:=by omega
         have dl:decide (((m - 1:Nat):Int)<(m:Int) - 1)=false:=Aq A0;have⟨Mx,XX⟩:=AL hT (show G2 G.length (Ar G) ord pos k ord.length D ch by have:=hP;rwa [show m - 1+1=ord.length by rw [HM.out];omega] at this);clear hT hP t1 t2 t3 t4 t5 t6;rcases ch with _|_
         ·have QA:=A3 (XX.out.done EB.out)
          go_wp2_with fail
          go_roundg 0
          case measure=>omega
          case rel=>exact⟨k,D,Mx.out,.inr ⟨rfl,rfl,QA.out⟩⟩
         ·obtain⟨hkn,BJ⟩:=XX.out.next EB.out
          have Cw:=A3 BJ;clear BJ;go_wp2_with fail
          go_roundg (G.length+2 - (k+1))
          case measure=>omega
          case rel=>exact⟨k+1,D,Mx.out,.inl ⟨rfl,by omega,by omega,Cw.out⟩⟩
      ·have Wo:=A3 hT
       have Fh:=A3 (HT.out D hI);clear hT hI HT2;go_wp2_with fail;go_ret;exact⟨⟨_,D,rfl,by have:=Wo.out.ri;rw [←Wo.out.ld] at this ⊢;exact MF this,Fh.out⟩,B1.out.trans (Wo.out.A7.mono B1.out.size)⟩
end
theorem zj {n:Nat} {nx:Nat→List Nat} {ord:List Nat} {pos:Nat→Nat} {D:List Int} (gr:Gr n nx ord pos) (it:IM n nx ord pos D) (hol:ord.length≤n) (hn5:n≤5000) (v:Value) (a b:Nat) (w:World) (HI:Ints w v D) (ha:a<n) (hb:b∈ord) :
  Calls Tryz.prog 39 #[v,.int .i64 (a:Int),.int .i64 (b:Int)] w fun e w'=>(∃r:Bool,e=.returned (.bool r)∧(r=true↔Ah D b a))∧Below w.heap.size w w':=by
 obtain⟨A,cap,rfl,hc1,hc2⟩:=HI.slice;have PY:=it.ti.len;rw [PY] at HI hc1 ⊢;have HLD:=A3 PY;obtain⟨q,off,rfl,hq,hc⟩:∃q off,A=some ⟨q,off,none⟩∧q<w.heap.size∧∀k,k<n→w.cell? ⟨q,off+k,none⟩=some (.int .i64 (D.getD k (-1))):=by
  obtain⟨_,_,e1,_,_,e4⟩:=HI;cases e1;obtain⟨q,off,e5,e6,e7⟩:=e4 (by have:=gr.n0;omega);refine⟨q,off,e5,e6,fun k hk=>?_⟩;rw [e7 k (by rw [PY];exact hk)];simp [List.getD,Aj (show k<D.length by rw [PY];exact hk)]
 have⟨GR,IT,HC,HBO⟩:=Bz gr it hc hb;have hpb:pos b<n:=by have:=(Bl.1 (gr.idx hb)).1;omega
 have d1:decide ((n:Int)≤(a:Int))=false:=Aq A0;have d2:decide (n≤a)=false:=Aq A0;clear gr it hc hb HI PY;go_enter Tryz.func39,Tryz.ntmps39;go_upto_region 4 with fail;clear d1 d2;go_loopw [2,17] (fun a2 a17 wr=>∃k:Nat,k≤n∧a17=.int .i64 (k:Int)∧Below w.heap.size w wr∧((a2=.int .i64 (-1)∧¬Ah D b a)∨∃x:Nat,a2=.int .i64 (x:Int)∧x∈ord∧pos x+k≤pos b∧(Ah D b a↔Ah D x a))) (fun _ a17 _=>n - (intOf a17).toNat);case atStart=>exact⟨0,Ck _,rfl,AP _ _,.inr ⟨b,rfl,HBO.out,AH _,Iff.rfl⟩⟩
 case round=>
  obtain⟨k,hk,rfl,CV,h⟩:=hrel;have HB:=A3 CV;have hsz:=CV.size;by_cases hlt:k<n
  ·have dl:decide ((k:Int)<(n:Int))=true:=AR A0
   rcases h with⟨rfl,hno⟩|⟨x,rfl,hx,hp,hiff⟩
   ·clear CV
    have DU:=A3 hno;clear hno;go_wp2_with fail;go_ret;exact⟨⟨false,rfl,by simp [DU.out]⟩,HB.out⟩
   ·have hxn:=GR.out.lt x hx
    have d3:decide ((n:Int)≤(x:Int))=false:=Aq A0;have d4:decide (n≤x)=false:=Aq A0;have i1:(x:Int)<(n:Int):=by omega
    have⟨Dp,HX⟩:=AL hiff hx;by_cases UO:a=x
    ·have e1:((a:Int)==(x:Int))=true:=by simp [UO]
     have HR:=A3 (show Ah D b a from hiff.2 (by rw [UO];exact .self _));clear CV hiff hx UO hp;go_wp2_with fail;go_ret;exact⟨⟨true,rfl,by simp [HR.out]⟩,HB.out⟩
    ·have e1:((a:Int)==(x:Int))=false:=by simp;omega
     have c1:wr.cell? ⟨q,off+x,none⟩=some (.int .i64 (D.getD x (-1))):=(CV.cell (p:=⟨q,off+x,none⟩) hq).trans (HC.out x hxn);obtain⟨d,hd⟩:=AA (D.getD x (-1));rw [hd] at c1;have HN:=A3 (show (d = -1∧¬Ah D b a)∨∃y:Nat,d=(y:Int)∧y∈ord∧pos y+(k+1)≤pos b∧(Ah D b a↔Ah D y a) by
      by_cases h0:0≤d
      ·obtain⟨y,rfl⟩:∃y:Nat,d=(y:Int):=⟨d.toNat,by omega⟩
       obtain⟨u1,u2,u3,u4,u5⟩:=IT.out.ti.up x y hd;refine .inr ⟨y,rfl,u2,by omega,?_⟩;rw [hiff,Ah.step hd];exact⟨fun h=>h.resolve_left UO,.inr⟩
      ·have:=IT.out.ti.ge x
       refine .inl ⟨by omega,fun h=>?_⟩;cases hiff.1 h with
       | self=>exact UO rfl
       | up h1 _=>omega)
     clear CV hiff hx UO hp hd;go_wp2_with fail;go_roundw;case rel=>
      refine⟨k+1,by omega,by go_num,HB.out,?_⟩;rcases HN.out with⟨e,h⟩|⟨y,e,h⟩
      ·exact .inl ⟨by rw [e],h⟩
      ·exact .inr ⟨y,by rw [e],h⟩
     case measure=>exact Aa
  ·obtain rfl:n=k:=by omega
   have dl:decide ((n:Int)<(n:Int))=false:=by simp
   have HR:=A3 (show ¬Ah D b a by
    rcases h with⟨_,hno⟩|⟨x,_,_,hp,_⟩
    ·exact hno
    ·omega)
   clear h CV;go_wp2_with fail;go_ret;exact⟨⟨false,rfl,by simp [HR.out]⟩,HB.out⟩
def xY (e:Ending):Prop:=∃r:Bool,e=.returned (.bool r)
def apr (e:Ending):Prop:=∃r:Int,e=.returned (.int .i64 r)
theorem apm (u v:Value) (l1 l2:List Int) (w:World) (H1:Ints w u l1) (H2:Ints w v l2) :
  Calls Tryz.prog 74 #[u,v] w fun e w'=>xY e∧Below w.heap.size w w':=by
 obtain⟨A,cap,rfl,hc1,hc2⟩:=H1.slice;obtain⟨B,Fp,rfl,hd1,hd2⟩:=H2.slice;have⟨HA,HB⟩:=AL H1 H2;clear H1 H2;obtain⟨n1,hn1⟩:∃n,l1.length=n:=⟨_,rfl⟩;obtain⟨n2,hn2⟩:∃n,l2.length=n:=⟨_,rfl⟩;rw [hn1] at hc1 ⊢;rw [hn2] at hd1 ⊢;have⟨Uv,Ks⟩:=AL hn1 hn2;clear hn1 hn2;go_enter Tryz.func74,Tryz.ntmps74;go_upto_region 3 with fail;go_loopw [5,10] (fun a5 a10 wr=>∃k i:Nat,k≤n2∧i≤n1∧a10=.int .i64 (k:Int)∧a5=.int .i64 (i:Int)∧Below w.heap.size w wr) (fun _ a10 _=>n2 - (intOf a10).toNat);case atStart=>exact⟨0,0,Ck _,Ck _,rfl,rfl,AP _ _⟩
 case round=>
  obtain⟨k,i0,hk,hi0,rfl,rfl,hb⟩:=hrel;have HW:=A3 hb;by_cases hlt:k<n2
  ·have dl:decide ((k:Int)<(n2:Int))=true:=AR A0
   obtain⟨x,bq,bo,hx,e,sq,c1⟩:=(Ks.out▸HB.out:Ints w (.slice B l2.length Fp) l2).at_ hb (j:=k) (by rw [Ks.out];exact hlt);subst e;have sw:bq<wr.heap.size:=by have:=hb.size;omega
   clear hb hx;go_upto_region 5 with fail;clear c1 sw;go_loopw [5] (fun a5 wr=>∃i:Nat,i≤n1∧a5=.int .i64 (i:Int)∧Below w.heap.size w wr) (fun a5 _=>n1 - (intOf a5).toNat);case atStart=>exact⟨i0,hi0,rfl,HW.out⟩
   case round=>
    clear HW hi0;obtain⟨i,hi,rfl,hb⟩:=hrel;have HW:=A3 hb;by_cases hlt2:i<n1
    ·have dl2:decide ((i:Int)<(n1:Int))=true:=AR A0
     have dl3:((i:Int)==(n1:Int))=false:=Ls.2 A0;obtain⟨y,aq,ao,hy,e,sq,c1⟩:=(Uv.out▸HA.out:Ints w (.slice A l1.length cap) l1).at_ hb (j:=i) (by rw [Uv.out];exact hlt2);subst e;have sw:aq<wr.heap.size:=by have:=hb.size;omega
     clear hb hy;by_cases hyx:y<x
     ·have d4:decide (y<x)=true:=AR hyx
      go_wp2_with fail;go_roundw;case rel=>exact⟨i+1,by omega,by go_num,HW.out⟩
      case measure=>exact Aa
     ·have d4:decide (y<x)=false:=Aq hyx
      by_cases hne:y=x
      ·have d5:(y != x)=false:=by simp [hne]
       go_wp2_with fail;go_roundw;case rel=>exact⟨k+1,i,by omega,hi,by go_num,rfl,HW.out⟩
       case measure=>exact Aa
      ·have d5:(y != x)=true:=by simp [hne]
       go_wp2_with fail;go_ret;exact⟨⟨false,rfl⟩,HW.out⟩
    ·obtain rfl:n1=i:=by omega
     have dl2:decide ((n1:Int)<(n1:Int))=false:=by simp
     have dl3:((n1:Int)==(n1:Int))=true:=by simp
     clear hb;go_wp2_with fail;go_ret;exact⟨⟨false,rfl⟩,HW.out⟩
  ·obtain rfl:n2=k:=by omega
   have dl:decide ((n2:Int)<(n2:Int))=false:=by simp
   clear hb;go_wp2_with fail;go_ret;exact⟨⟨true,rfl⟩,HW.out⟩
end Go.Proofs.YtlmgkipmfgijiaaGreatDoor
