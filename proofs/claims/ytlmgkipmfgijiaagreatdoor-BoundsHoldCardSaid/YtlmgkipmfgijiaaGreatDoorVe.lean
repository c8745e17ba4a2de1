/-
  What is proved here: parts mPlain, mOrd, mVisit, mRev, mOrder, mNca, pPlain, mCom, mTree, pDom, pIncl.
-/
import Derived.Test.YtlmgkipmfgijiaaGreatDoorVa
import Derived.Test.YtlmgkipmfgijiaaGreatDoorVd
import Derived.Laws.EntriesVeiled
namespace Go.Proofs.YtlmgkipmfgijiaaGreatDoor
set_option linter.unusedVariables false
set_option linter.unusedSimpArgs false
set_option maxRecDepth 100000
set_option maxHeartbeats 8000000
open Go.RowKit
section
inductive Path (nx:Nat→List Nat):Nat→List Nat→Prop
 | nil:Path nx 0 [0]
 | step {p b:Nat} {l:List Nat}:Path nx p l→b∈nx p→Path nx b (b :: l)
inductive Wk (nx:Nat→List Nat) (pos:Nat→Nat):Nat→Nat→List Nat→Prop
 | nil (k:Nat):Wk nx pos k 0 [0]
 | fwd {k p b:Nat} {l:List Nat}:Wk nx pos k p l→b∈nx p→pos p<pos b→Wk nx pos k b (b :: l)
 | ret {k p b:Nat} {l:List Nat}:Wk nx pos k p l→b∈nx p→Wk nx pos (k+1) b (b :: l)
inductive KJ (nx:Nat→List Nat) (pos:Nat→Nat) (a:Nat):Nat→Prop
 | refl:KJ nx pos a a
 | step {p b:Nat}:KJ nx pos a p→b∈nx p→pos p<pos b→KJ nx pos a b
def Dom (nx:Nat→List Nat) (a b:Nat):Prop:=∀l,Path nx b l→a∈l
def Zq (nx:Nat→List Nat) (pos:Nat→Nat) (k a b:Nat):Prop:=∀l,Wk nx pos k b l→a∈l
inductive Ae (D:List Int):Nat→Nat→Prop
 | self (b:Nat):Ae D b b
 | up {b a x:Nat}:D.getD b (-1)=(a:Int)→Ae D a x→Ae D b x
theorem Wk.path {nx:Nat→List Nat} {pos:Nat→Nat} {k b:Nat} {l:List Nat} (h:Wk nx pos k b l):Path nx b l:=by
 induction h with
 | nil k=>exact .nil
 | fwd _ h1 _ ih=>exact .step ih h1
 | ret _ h1 ih=>exact .step ih h1
theorem Wk.more {nx:Nat→List Nat} {pos:Nat→Nat} {k b:Nat} {l:List Nat} (h:Wk nx pos k b l):∀ {m:Nat},k≤m→Wk nx pos m b l:=by
 induction h with
 | nil k=>intro m _;exact .nil m
 | fwd _ h1 h2 ih=>intro m hm;exact .fwd (ih hm) h1 h2
 | ret _ h1 ih=>
  intro m hm;obtain⟨j,rfl⟩:∃j,m=j+1:=⟨m - 1,by omega⟩;exact .ret (ih A0) h1
theorem Wk.head {nx:Nat→List Nat} {pos:Nat→Nat} {k b:Nat} {l:List Nat} (h:Wk nx pos k b l):b∈l:=by cases h<;>simp
theorem Path.head {nx:Nat→List Nat} {b:Nat} {l:List Nat} (h:Path nx b l):b∈l:=by cases h<;>simp
theorem Path.zero {nx:Nat→List Nat} {b:Nat} {l:List Nat} (h:Path nx b l):0∈l:=by
 induction h with
 | nil=>simp
 | step _ _ ih=>exact Fu _ ih
theorem Path.cut {nx:Nat→List Nat} {b x:Nat} {l:List Nat} (h:Path nx b l) (hx:x∈l):∃l',Path nx x l'∧(∀z∈l',z∈l)∧(l.Nodup→l'.Nodup):=by
 induction h with
 | nil=>
  obtain rfl:x=0:=by simpa using hx
  exact⟨[0],.nil,fun _ h=>h,fun h=>h⟩
 | @step p b l h1 h2 ih=>
  rcases Da.1 hx with rfl|hx
  ·exact⟨_,.step h1 h2,fun _ h=>h,fun h=>h⟩
  ·obtain⟨l',h3,h4,h5⟩:=ih hx
   exact⟨l',h3,fun z hz=>Fu _ (h4 z hz),fun hn=>h5 (List.nodup_cons.1 hn).2⟩
theorem Wk.cut {nx:Nat→List Nat} {pos:Nat→Nat} {k b x:Nat} {l:List Nat} (h:Wk nx pos k b l) (hx:x∈l):∃l',Wk nx pos k x l'∧∀z∈l',z∈l:=by
 induction h with
 | nil k=>
  obtain rfl:x=0:=by simpa using hx
  exact⟨[0],.nil k,fun _ h=>h⟩
 | @fwd k p b l h1 h2 h3 ih=>
  rcases Da.1 hx with rfl|hx
  ·exact⟨_,.fwd h1 h2 h3,fun _ h=>h⟩
  ·obtain⟨l',h4,h5⟩:=ih hx
   exact⟨l',h4,fun z hz=>Fu _ (h5 z hz)⟩
 | @ret k p b l h1 h2 ih=>
  rcases Da.1 hx with rfl|hx
  ·exact⟨_,.ret h1 h2,fun _ h=>h⟩
  ·obtain⟨l',h4,h5⟩:=ih hx
   exact⟨l',h4.more (Nat.le_succ _),fun z hz=>Fu _ (h5 z hz)⟩
theorem Path.simple {nx:Nat→List Nat} {b:Nat} {l:List Nat} (h:Path nx b l):∃l',Path nx b l'∧l'.Nodup∧∀z∈l',z∈l:=by
 induction h with
 | nil=>exact⟨[0],.nil,by simp,fun _ h=>h⟩
 | @step p b l h1 h2 ih=>
  obtain⟨l',h3,h4,h5⟩:=ih;by_cases hb:b∈l'
  ·obtain⟨l2,h6,h7,h8⟩:=h3.cut hb
   exact⟨l2,h6,h8 h4,fun z hz=>Fu _ (h5 z (h7 z hz))⟩
  ·exact⟨b :: l',.step h3 h2,List.nodup_cons.2 ⟨hb,h4⟩,fun z hz=>by
    rcases Da.1 hz with rfl|hz
    ·exact Lf
    ·exact Fu _ (h5 z hz)⟩
theorem Path.wk {nx:Nat→List Nat} (pos:Nat→Nat) {b:Nat} {l:List Nat} (h:Path nx b l):Wk nx pos l.length b l:=by
 induction h with
 | nil=>exact .nil _
 | step _ h1 ih=>exact .ret ih h1
theorem Pz:∀ {n:Nat} {l:List Nat},l.Nodup→(∀x∈l,x<n)→l.length≤n
 | 0,l,_,h=>by
  cases l with
  | nil=>simp
  | cons a l=>exact absurd (h a AR) A0
 | n+1,l,hn,h=>by
  have h1:(l.filter (·≠n)).length≤n:=Pz (hn.filter _) fun x hx=>by
   have:=Mj.1 hx;have h2:=h x this.1;have h3:x≠n:=by simpa using this.2
   omega
  have h2:(l.filter (· = n)).length≤1:=by
   have h3:∀y∈l.filter (· = n),y=n:=fun y hy=>by simpa using (Mj.1 hy).2
   have h4:=hn.filter (fun x=>decide (x=n));match hm:l.filter (· = n) with
   | []=>simp
   | [a]=>simp
   | a :: b :: m=>
    rw [hm] at h3 h4;have:=h3 a AR;have:=h3 b AR;simp at h4;omega
  have h3:=List.length_eq_countP_add_countP (l:=l) (fun x=>decide (x=n));rw [List.countP_eq_length_filter,List.countP_eq_length_filter] at h3;have h4:(l.filter (fun x=>decide ¬decide (x=n)=true)).length=(l.filter (·≠n)).length:=by congr 1;apply List.filter_congr;simp
  omega
structure Gr (n:Nat) (nx:Nat→List Nat) (ord:List Nat) (pos:Nat→Nat):Prop where
 n0:0<n
 z:ord[0]?=some 0
 lt:∀b∈ord,b<n
 at_:∀i b,ord[i]?=some b→pos b=i
 closed:∀p∈ord,∀b∈nx p,b∈ord
 tree:∀b∈ord,b≠0→∃p∈ord,b∈nx p∧pos p<pos b
section
variable {n:Nat} {nx:Nat→List Nat} {ord:List Nat} {pos:Nat→Nat} {D:List Int}
theorem Gr.zero (g:Gr n nx ord pos):0∈ord:=Bj g.z
theorem Gr.mem (g:Gr n nx ord pos) {b:Nat} {l:List Nat} (h:Path nx b l):b∈ord∧∀x∈l,x∈ord:=by
 induction h with
 | nil=>exact⟨g.zero,fun x hx=>by
   obtain rfl:x=0:=by simpa using hx
   exact g.zero⟩
 | @step p b l h1 h2 ih=>
  have:=g.closed p ih.1 _ h2;exact⟨this,fun x hx=>by
   rcases Da.1 hx with rfl|hx
   ·exact this
   ·exact ih.2 x hx⟩
theorem Gr.idx (g:Gr n nx ord pos) {b:Nat} (hb:b∈ord):ord[pos b]?=some b:=by
 obtain⟨i,hi⟩:=LH.1 hb;rw [g.at_ i b hi];exact hi
theorem Gr.inj (g:Gr n nx ord pos) {a b:Nat} (ha:a∈ord) (hb:b∈ord) (h:pos a=pos b):a=b:=by
 have h1:=g.idx ha;have h2:=g.idx hb;rw [h,h2] at h1;exact (FZ h1).symm
theorem Gr.WM (g:Gr n nx ord pos):pos 0=0:=g.at_ 0 0 g.z
theorem Gr.reach (g:Gr n nx ord pos):∀(i:Nat) {b:Nat},b∈ord→pos b≤i→∃l,Path nx b l
 | i,b,hb,hi=>by
  by_cases h0:b=0
  ·subst h0;exact⟨_,.nil⟩
  ·obtain⟨p,h1,h2,h3⟩:=g.tree b hb h0
   match i with
   | 0=>omega
   | i+1=>
    obtain⟨l,hl⟩:=g.reach i h1 A0;exact⟨_,.step hl h2⟩
theorem Gr.path (g:Gr n nx ord pos) {b:Nat} (hb:b∈ord):∃l,Path nx b l:=g.reach _ hb (AH _)
theorem Gr.nN (g:Gr n nx ord pos) {k a b:Nat} (hk:n≤k):Zq nx pos k a b↔Dom nx a b:=by
 constructor
 ·intro h l hl
  obtain⟨l',h1,h2,h3⟩:=hl.simple;have h4:=Pz h2 fun x hx=>g.lt x ((g.mem h1).2 x hx);exact h3 a (h l' ((h1.wk pos).more A0))
 ·exact fun h l hl=>h l hl.path
theorem KJ.le {a b:Nat} (h:KJ nx pos a b):pos a≤pos b:=by
 induction h with
 | refl=>exact AH _
 | step _ _ h2 ih=>omega
theorem KJ.trans {a b c:Nat} (h:KJ nx pos a b) (k:KJ nx pos b c):KJ nx pos a c:=by
 induction k with
 | refl=>exact h
 | step _ h1 h2 ih=>exact .step ih h1 h2
theorem KJ.path {b y:Nat} {l:List Nat} (h:KJ nx pos b y) (hl:Path nx b l):∃l',Path nx y l'∧∀z∈l',z∈l∨pos b≤pos z:=by
 induction h with
 | refl=>exact⟨l,hl,fun z hz=>.inl hz⟩
 | @step p y h1 h2 h3 ih=>
  obtain⟨l',h4,h5⟩:=ih;refine⟨_,.step h4 h2,fun z hz=>?_⟩;rcases Da.1 hz with rfl|hz
  ·have:=h1.le;exact .inr A0
  ·exact h5 z hz
theorem Dom.aaf {x b y:Nat} (h:Dom nx x y) (hs:KJ nx pos b y) (hp:pos x<pos b):Dom nx x b:=fun l hl=>by
 obtain⟨l',h1,h2⟩:=hs.path hl;rcases h2 x (h l' h1) with h3|h3
 ·exact h3
 ·omega
def Ce (D:List Int) (b:Nat):Prop:=b=0∨0≤D.getD b (-1)
structure TI (n:Nat) (nx:Nat→List Nat) (ord:List Nat) (pos:Nat→Nat) (D:List Int):Prop where
 len:D.length=n
 z:D.getD 0 (-1) = -1
 ge:∀b,-1≤D.getD b (-1)
 up:∀b a:Nat,D.getD b (-1)=(a:Int)→b∈ord∧a∈ord∧pos a<pos b∧Ce D a∧KJ nx pos a b
 over:∀b∈ord,Ce D b→∀x,Dom nx x b→Ae D b x
theorem Ae.trans {a b c:Nat} (h:Ae D a b) (k:Ae D b c):Ae D a c:=by
 induction h with
 | self=>exact k
 | up h1 _ ih=>exact .up h1 (ih k)
theorem TI.OZ (t:TI n nx ord pos D) {b x:Nat} (h:Ae D b x):KJ nx pos x b∧(Ce D b→Ce D x)∧(b∈ord→x∈ord)∧(b≠x→pos x<pos b):=by
 induction h with
 | self=>exact⟨.refl,id,id,fun h=>absurd rfl h⟩
 | @up b a x h1 h2 ih=>
  obtain⟨c1,c2,c3,c4,c5⟩:=t.up _ _ h1;exact⟨ih.1.trans c5,fun _=>ih.2.1 c4,fun _=>ih.2.2.1 c2,fun _=>by have:=ih.1.le;omega⟩
theorem TI.le (t:TI n nx ord pos D) {b x:Nat} (h:Ae D b x):pos x≤pos b:=(t.OZ h).1.le
theorem Ae.zero (t:TI n nx ord pos D) {x:Nat} (h:Ae D 0 x):x=0:=by
 cases h with
 | self=>rfl
 | up h1 _=>rw [t.z] at h1;omega
theorem Ae.step {b a x:Nat} (h:D.getD b (-1)=(a:Int)):Ae D b x↔x=b∨Ae D a x:=by
 constructor
 ·intro k
  cases k with
  | self=>exact .inl rfl
  | up h1 h2=>rw [h] at h1;obtain rfl:=Int.ofNat.inj h1;exact .inr h2
 ·rintro (rfl|k)
  ·exact .self _
  ·exact .up h k
theorem Ae.line {y b x:Nat} (h:Ae D y b) (k:Ae D y x):Ae D b x∨Ae D x b:=by
 induction h with
 | self=>exact .inl k
 | @up y a b h1 h2 ih=>
  rcases (Ae.step h1).1 k with rfl|k
  ·exact .inr (.up h1 h2)
  ·exact ih k
def Nca (nx:Nat→List Nat) (D:List Int) (b c:Nat):Prop:=∀x,Ae D c x↔∀p,b∈nx p→Ce D p→Ae D p x
section
variable {D':List Int} {b c:Nat}
theorem aM (hb:b<D.length):(D.set b (c:Int)).getD b (-1)=c:=by simp [List.getD,hb]
theorem RT {y:Nat} (h:y≠b):(D.set b (c:Int)).getD y (-1)=D.getD y (-1):=by simp [List.getD,Xi (ED h)]
theorem Ae.keep {y x:Nat} (h:Ae D y x) (hn:∀z,Ae D y z→Ae D z x→z≠x→z≠b):Ae (D.set b (c:Int)) y x:=by
 induction h with
 | self=>exact .self _
 | @up y a x h1 h2 ih=>
  by_cases hx:y=x
  ·subst hx;exact .self _
  ·have h3:=hn y (.self _) (.up h1 h2) hx
   exact .up ((RT h3).trans h1) (ih fun z h4 h5 h6=>hn z (.up h1 h4) h5 h6)
theorem Ae.back {y x:Nat} (h:Ae (D.set b (c:Int)) y x):Ae D y x∨Ae D y b∧Ae (D.set b (c:Int)) b x:=by
 induction h with
 | self=>exact .inl (.self _)
 | @up y a x h1 h2 ih=>
  by_cases hy:y=b
  ·subst hy;exact .inr ⟨.self _,.up h1 h2⟩
  ·rw [RT hy] at h1
   rcases ih with ih|⟨i1,i2⟩
   ·exact .inl (.up h1 ih)
   ·exact .inr ⟨.up h1 i1,i2⟩
end
theorem TI.keep (t:TI n nx ord pos D) {b c y x:Nat} (h:Ae D y x) (hp:pos b≤pos x):Ae (D.set b (c:Int)) y x:=
 h.keep fun z _ h2 h3=>by
  have:=(t.OZ h2).2.2.2 h3;rintro rfl;omega
theorem TI.low (t:TI n nx ord pos D) {b c y x:Nat} (h:Ae D y x) (hp:pos y<pos b):Ae (D.set b (c:Int)) y x:=
 h.keep fun z h1 _ _=>by
  have:=t.le h1;rintro rfl;omega
theorem ax {b c y:Nat} (h:Ce D y):Ce (D.set b (c:Int)) y:=by
 rcases h with h|h
 ·exact .inl h
 ·by_cases hy:y=b
  ·subst hy
   by_cases hb:y<D.length
   ·right;rw [aM hb];omega
   ·rw [List.set_eq_of_length_le A0];exact .inr h
  ·right;rw [RT hy];exact h
structure Sh (nx:Nat→List Nat) (ord:List Nat) (pos:Nat→Nat) (D:List Int) (b c:Nat):Prop where
 hb:b∈ord
 h0:b≠0
 Uy:Nca nx D b c
 prev:∀p∈ord,pos p<pos b→Ce D p
theorem Sh.tree (g:Gr n nx ord pos) (t:TI n nx ord pos D) {b c:Nat} (s:Sh nx ord pos D b c):∃p∈ord,b∈nx p∧pos p<pos b∧Ae D p c:=by
 obtain⟨p,h1,h2,h3⟩:=g.tree b s.hb s.h0;exact⟨p,h1,h2,h3,(s.Uy c).1 (.self _) p h2 (s.prev p h1 h3)⟩
theorem TI.step (g:Gr n nx ord pos) (t:TI n nx ord pos D) {b c:Nat} (s:Sh nx ord pos D b c):TI n nx ord pos (D.set b (c:Int)):=by
 obtain⟨p,p1,p2,p3,p4⟩:=s.tree g t;have hbl:b<D.length:=by rw [t.len];exact g.lt b s.hb
 have ZB:=t.le p4;have hcb:pos c<pos b:=by omega
 have JK:KJ nx pos c b:=.step (t.OZ p4).1 p2 p3;have YU:(D.set b (c:Int)).getD b (-1)=c:=aM hbl;have hcc:Ce D c:=(t.OZ p4).2.1 (s.prev p p1 p3);have qK:∀x,Dom nx x b→Ae (D.set b (c:Int)) b x:=fun x hx=>by
  by_cases hxb:x=b
  ·subst hxb;exact .self _
  ·refine .up YU (t.low ((s.Uy x).2 fun q q1 q2=>?_) hcb)
   by_cases hq:q∈ord
   ·refine t.over q hq q2 x fun l hl=>?_
    rcases Da.1 (hx _ (.step hl q1)) with h|h
    ·exact absurd h hxb
    ·exact h
   ·rcases q2 with rfl|q2
    ·exact absurd g.zero hq
    ·exact absurd (t.up q _ (PN q2).symm).1 hq
 refine⟨by simp [t.len],?_,fun y=>?_,fun y a h=>?_,fun y hy hp x hx=>?_⟩
 ·rw [RT (ED s.h0)];exact t.z
 ·by_cases hy:y=b
  ·subst hy;rw [YU];omega
  ·rw [RT hy];exact t.ge y
 ·by_cases hy:y=b
  ·subst hy
   rw [YU] at h;obtain rfl:=Int.ofNat.inj h;exact⟨s.hb,(t.OZ p4).2.2.1 p1,hcb,ax hcc,JK⟩
  ·rw [RT hy] at h
   obtain⟨h1,h2,h3,h4,h5⟩:=t.up y a h;exact⟨h1,h2,h3,ax h4,h5⟩
 ·by_cases hyb:y=b
  ·subst hyb;exact qK x hx
  ·have hp':Ce D y:=by
    rcases hp with hp|hp
    ·exact .inl hp
    ·rw [RT hyb] at hp;exact .inr hp
   have h1:=t.over y hy hp' x hx;by_cases cG:Ae D y b
   ·rcases cG.line h1 with h2|h2
    ·by_cases hxb:b=x
     ·subst hxb;exact t.keep h1 (AH _)
     ·exact (t.keep cG (AH _)).trans (qK x (hx.aaf (t.OZ cG).1 ((t.OZ h2).2.2.2 hxb)))
    ·exact t.keep h1 (t.le h2)
   ·exact h1.keep fun z h2 _ _=>by rintro rfl;exact cG h2
def UF (nx:Nat→List Nat) (ord:List Nat) (pos:Nat→Nat) (D:List Int) (k i:Nat):Prop:=
 ∀y∈ord,Ce D y→∀x,Ae D y x→(pos y<i→Zq nx pos k x y)∧(i≤pos y→∃j,k=j+1∧Zq nx pos j x y)
theorem UF.step (g:Gr n nx ord pos) (t:TI n nx ord pos D) {b c k:Nat} (s:Sh nx ord pos D b c) (hk:0<k→∀p∈ord,Ce D p) (u:UF nx ord pos D k (pos b)):UF nx ord pos (D.set b (c:Int)) k (pos b+1):=by
 obtain⟨p,p1,p2,p3,p4⟩:=s.tree g t;have hbl:b<D.length:=by rw [t.len];exact g.lt b s.hb
 have YU:(D.set b (c:Int)).getD b (-1)=c:=aM hbl;have hcb:pos c<pos b:=by have:=t.le p4;omega
 have ofb:∀x,Ae (D.set b (c:Int)) b x→Zq nx pos k x b:=fun x hx=>by
  rcases (Ae.step YU).1 hx with rfl|hx
  ·exact fun l hl=>hl.head
  ·have hx:Ae D c x:=by
    rcases hx.back with h|⟨h,_⟩
    ·exact h
    ·have:=t.le h;omega
   have hx:=(s.Uy x).1 hx;intro l hl;cases hl with
   | nil=>exact absurd rfl s.h0
   | @fwd _ q _ l h1 h2 h3=>
    have hq:=(g.mem h1.path).1;have hp:=s.prev q hq h3;exact Fu _ ((u q hq hp x (hx q h2 hp)).1 h3 l h1)
   | @ret k q _ l h1 h2=>
    have hq:=(g.mem h1.path).1;have hp:=hk A0 q hq;by_cases h3:pos q<pos b
    ·exact Fu _ ((u q hq hp x (hx q h2 hp)).1 h3 l (h1.more (Nat.le_succ _)))
    ·obtain⟨j,hj,h4⟩:=(u q hq hp x (hx q h2 hp)).2 A0
     obtain rfl:k=j:=by omega
     exact Fu _ (h4 l h1)
 intro y hy hp x hx;by_cases hyb:y=b
 ·subst hyb
  exact⟨fun _=>ofb x hx,fun h=>by omega⟩
 ·have hp':Ce D y:=by
   rcases hp with hp|hp
   ·exact .inl hp
   ·rw [RT hyb] at hp;exact .inr hp
  have hne:pos y≠pos b:=fun h=>hyb (g.inj hy s.hb h);rcases hx.back with h|⟨h1,h2⟩
  ·have:=u y hy hp' x h
   exact⟨fun h=>this.1 A0,fun h=>this.2 A0⟩
  ·have h3:=u y hy hp' b h1
   have h4:=ofb x h2;refine⟨fun h l hl=>?_,fun h=>?_⟩
   ·obtain⟨l2,h5,h6⟩:=hl.cut (h3.1 A0 l hl)
    exact h6 x (h4 l2 h5)
   ·obtain⟨j,rfl,h5⟩:=h3.2 A0
    refine⟨j,rfl,fun l hl=>?_⟩;obtain⟨l2,h6,h7⟩:=hl.cut (h5 l hl);exact h7 x (h4 l2 (h6.more (Nat.le_succ _)))
def Exact (nx:Nat→List Nat) (ord:List Nat) (D:List Int):Prop:=∀y∈ord,∀x,Ae D y x↔Dom nx x y
theorem UF.exact (g:Gr n nx ord pos) (t:TI n nx ord pos D) {k i:Nat} (hn:n<k) (hall:∀p∈ord,Ce D p) (u:UF nx ord pos D k i):Exact nx ord D:=fun y hy x=>by
 refine⟨fun h=>?_,fun h=>t.over y hy (hall y hy) x h⟩;have:=u y hy (hall y hy) x h;by_cases h1:pos y<i
 ·exact (g.nN A0).1 (this.1 h1)
 ·obtain⟨j,rfl,h2⟩:=this.2 A0
  exact (g.nN A0).1 h2
theorem Ae.antisymm (t:TI n nx ord pos D) {a b:Nat} (h:Ae D a b) (k:Ae D b a):a=b:=by
 by_cases hab:a=b
 ·exact hab
 ·have h1:=(t.OZ h).2.2.2 hab
  have h2:=(t.OZ k).2.2.2 (ED hab);omega
theorem Exact.same (g:Gr n nx ord pos) (t:TI n nx ord pos D) (he:Exact nx ord D) (hall:∀p∈ord,Ce D p) {b c:Nat} (s:Sh nx ord pos D b c):D.getD b (-1)=c:=by
 obtain⟨p,p1,p2,p3,p4⟩:=s.tree g t;rcases hall b s.hb with h0|h0
 ·exact absurd h0 s.h0
 obtain⟨a,ha⟩:∃a:Nat,D.getD b (-1)=(a:Int):=⟨_,(PN h0).symm⟩;obtain⟨c1,c2,c3,c4,c5⟩:=t.up _ _ ha;have hca:Ae D c a:=(s.Uy a).2 fun q q1 q2=>by
  by_cases hq:q∈ord
  ·refine (he q hq a).2 fun l hl=>?_
   rcases Da.1 ((he b s.hb a).1 (.up ha (.self _)) _ (.step hl q1)) with h|h
   ·subst h;omega
   ·exact h
  ·rcases q2 with rfl|q2
   ·exact absurd g.zero hq
   ·exact absurd (t.up q _ (PN q2).symm).1 hq
 have hbc:Ae D b c:=(he b s.hb c).2 fun l hl=>by
  cases hl with
  | nil=>exact absurd rfl s.h0
  | @step q _ l h1 h2=>
   have hq:=(g.mem h1).1;exact Fu _ ((he q hq c).1 ((s.Uy c).1 (.self _) q h2 (hall q hq)) l h1)
 have hcb:c≠b:=by rintro rfl;have:=t.le p4;omega
 have hac:Ae D a c:=by
  rcases (Ae.step ha).1 hbc with h|h
  ·exact absurd h hcb
  ·exact h
 rw [ha,hac.antisymm t hca]
theorem arw (g:Gr n nx ord pos) (t:TI n nx ord pos D) (hall:∀p∈ord,Ce D p) (hf:∀b∈ord,b≠0→∃c:Nat,D.getD b (-1)=(c:Int)∧Nca nx D b c):Exact nx ord D:=fun y hy x=>by
 refine⟨fun h l hl=>?_,fun h=>t.over y hy (hall y hy) x h⟩;induction hl generalizing x with
 | nil=>simp [h.zero t]
 | @step p b l h1 h2 ih=>
  by_cases h0:b=0
  ·subst h0;simp [h.zero t]
  ·obtain⟨c,hc,hn⟩:=hf b hy h0
   have hp:=(g.mem h1).1;rcases (Ae.step hc).1 h with rfl|h
   ·exact Lf
   ·exact Fu _ (ih hp x ((hn x).1 h p h2 (hall p hp)))
theorem UF.first (g:Gr n nx ord pos) (hD:∀b,D.getD b (-1) = -1):UF nx ord pos D 0 1:=fun y hy hp x hx=>by
 rcases hp with rfl|hp
 ·have:x=0:=by
   cases hx with
   | self=>rfl
   | up h1 _=>rw [hD] at h1;omega
  subst this;exact⟨fun _ l hl=>hl.head,fun h=>by rw [g.WM] at h;omega⟩
 ·rw [hD] at hp;omega
theorem TI.first (hl:D.length=n) (hD:∀b,D.getD b (-1) = -1):TI n nx ord pos D:=by
 refine⟨hl,hD 0,fun b=>by rw [hD];omega,fun b a h=>by rw [hD] at h;omega,fun b _ hp x hx=>?_⟩;rcases hp with rfl|hp
 ·have:=hx _ .nil
  obtain rfl:x=0:=by simpa using this
  exact .self _
 ·rw [hD] at hp;omega
theorem UF.next {k:Nat} (g:Gr n nx ord pos) (u:UF nx ord pos D k ord.length):UF nx ord pos D (k+1) 1:=fun y hy hp x hx=>by
 have h1:pos y<ord.length:=(Bc.1 (g.idx hy)).1;have h2:=(u y hy hp x hx).1 h1;refine⟨fun h=>?_,fun _=>⟨k,rfl,h2⟩⟩;obtain rfl:y=0:=g.inj hy g.zero (by rw [g.WM];omega);intro l hl;have h3:=h2 _ (.nil k);obtain rfl:x=0:=by simpa using h3
 exact hl.head
theorem Exact.unique {D E:List Int} (g:Gr n nx ord pos) (t:TI n nx ord pos D) (s:TI n nx ord pos E) (h:Exact nx ord D) (k:Exact nx ord E) (hd:∀p∈ord,Ce D p) (he:∀p∈ord,Ce E p):D=E:=by
 have hlen:D.length=E.length:=t.len.trans s.len.symm;have key:∀b,D.getD b (-1)=E.getD b (-1):=fun b=>by
  by_cases hb:b∈ord
  ·by_cases h0:b=0
   ·subst h0;rw [t.z,s.z]
   ·rcases hd b hb with h1|h1
    ·exact absurd h1 h0
    rcases he b hb with h2|h2
    ·exact absurd h2 h0
    obtain⟨a,ha⟩:∃a:Nat,D.getD b (-1)=(a:Int):=⟨_,(PN h1).symm⟩;obtain⟨c,hc⟩:∃a:Nat,E.getD b (-1)=(a:Int):=⟨_,(PN h2).symm⟩;have pa:=(t.up _ _ ha).2.2.1;have pc:=(s.up _ _ hc).2.2.1;have e1:Ae E b a:=(k b hb a).2 ((h b hb a).1 (.up ha (.self _)));have e2:Ae D b c:=(h b hb c).2 ((k b hb c).1 (.up hc (.self _)));have hab:a≠b:=by rintro rfl;omega
    have hcb:c≠b:=by rintro rfl;omega
    rcases (Ae.step ha).1 e2 with e3|e3
    ·exact absurd e3 hcb
    rcases (Ae.step hc).1 e1 with e4|e4
    ·exact absurd e4 hab
    have:=t.le e3;have:=s.le e4;have:a=c:=g.inj (t.up _ _ ha).2.1 (s.up _ _ hc).2.1 A0;rw [ha,hc,this]
  ·rcases Int.lt_or_le (D.getD b (-1)) 0 with h1|h1
   ·rcases Int.lt_or_le (E.getD b (-1)) 0 with h2|h2
    ·have:=t.ge b;have:=s.ge b;omega
    ·exact absurd (s.up b _ (PN h2).symm).1 hb
   ·exact absurd (t.up b _ (PN h1).symm).1 hb
 apply KC hlen;intro i h1 h2;have:=key i;simpa [List.getD,Ab h1,Ab h2] using this
end
end
abbrev DS:=List Bool×List Nat
def NR (nx:Nat→List Nat):Nat→Nat→DS→DS
 | 0,_,s=>s
 | f+1,b,s=>
  let s1:=(nx b).foldl (fun s t=>if s.1.getD t false=true then s else NR nx f t s) (s.1.set b true,s.2)
  (s1.1,s1.2++[b])
def IK (nx:Nat→List Nat) (f:Nat) (l:List Nat) (s:DS):DS:=l.foldl (fun s t=>if s.1.getD t false=true then s else NR nx f t s) s
theorem vr (nx:Nat→List Nat) (f b:Nat) (s:DS):NR nx (f+1) b s=((IK nx f (nx b) (s.1.set b true,s.2)).1,(IK nx f (nx b) (s.1.set b true,s.2)).2++[b]):=rfl
def unseen (s:List Bool):Nat:=s.countP (· = false)
structure Jm (nx:Nat→List Nat) (ts:List Nat) (M:List Nat) (s s':DS):Prop where
 len:s'.1.length=s.1.length
 out:s'.2=s.2++M
 seen:∀x,s'.1[x]?=some true↔s.1[x]?=some true∨x∈M
 fresh:∀x∈M,s.1[x]?=some false
 nodup:M.Nodup
 closed:∀x∈M,∀t∈nx x,s'.1[t]?=some true
 tree:∀M1 x M2,M=M1++x :: M2→(∃p∈M2,x∈nx p)∨x∈ts
theorem ZW {s:List Bool} {x:Nat} (h:x<s.length):s[x]?=some true∨s[x]?=some false:=by
 rw [Ab h];cases s[x]<;>simp
theorem cY {s:List Bool} {x:Nat}:s.getD x false=true↔s[x]?=some true:=by
 rw [List.getD];cases h:s[x]? with
 | none=>simp
 | some v=>cases v<;>simp
theorem Jm.nil {nx:Nat→List Nat} {ts:List Nat} {s:DS}:Jm nx ts [] s s:=⟨rfl,by simp,by simp,by simp,by simp,by simp,fun M1 x M2 h=>by cases M1<;>cases h⟩
theorem Jm.trans {nx:Nat→List Nat} {ts M N:List Nat} {s s1 s2:DS} (h:Jm nx ts M s s1) (k:Jm nx ts N s1 s2):Jm nx ts (M++N) s s2:=by
 refine⟨k.len.trans h.len,by rw [k.out,h.out,ZQ],fun x=>?_,fun x hx=>?_,?_,fun x hx t ht=>?_,fun M1 x M2 he=>?_⟩
 ·rw [k.seen,h.seen,Ch,or_assoc]
 ·rcases Ch.1 hx with hx|hx
  ·exact h.fresh x hx
  ·have h1:=k.fresh x hx
   have h2:x<s.1.length:=by rw [←h.len];exact (Bc.1 h1).1
   rcases ZW h2 with h3|h3
   ·have h4:=(h.seen x).2 (.inl h3)
    rw [h1] at h4;cases h4
   ·exact h3
 ·refine Uh.2 ⟨h.nodup,k.nodup,fun a ha b hb=>?_⟩
  rintro rfl;have h1:=(h.seen a).2 (.inr ha);rw [k.fresh a hb] at h1;cases h1
 ·rcases Ch.1 hx with hx|hx
  ·exact (k.seen t).2 (.inl (h.closed x hx t ht))
  ·exact k.closed x hx t ht
 ·rcases List.append_eq_append_iff.1 he with⟨a,ha,hb⟩|⟨a,ha,hb⟩
  ·exact k.tree a x M2 hb
  ·cases a with
   | nil=>exact k.tree [] x M2 (by simpa using hb.symm)
   | cons y a=>
    simp only [dU,Y0] at hb;obtain⟨rfl,rfl⟩:=hb;rcases h.tree M1 x a ha with⟨p,hp,h2⟩|h2
    ·exact .inl ⟨p,Rl _ hp,h2⟩
    ·exact .inr h2
theorem Jm.more {nx:Nat→List Nat} {ts us M:List Nat} {s s1:DS} (h:Jm nx ts M s s1) (hu:∀x∈ts,x∈us):Jm nx us M s s1:=
 ⟨h.len,h.out,h.seen,h.fresh,h.nodup,h.closed,fun M1 x M2 he=>(h.tree M1 x M2 he).imp_right (hu x)⟩
theorem YK {s:List Bool} {b:Nat} (h:s[b]?=some false):unseen s=unseen (s.set b true)+1:=by
 obtain⟨hb,hv⟩:=Bc.1 h;unfold unseen;have e1:s=s.take b++s[b] :: s.drop (b+1):=by rw [List.getElem_cons_drop,Ul]
 have e2:s.set b true=s.take b++true :: s.drop (b+1):=List.set_eq_take_append_cons_drop .. |>.trans (by rw [A9 hb])
 rw [e2];conv=>lhs;rw [e1]
 rw [gv,gv,Tq,Tq,hv];simp;omega
theorem Jm.unseen {nx:Nat→List Nat} {ts M:List Nat} {s s1:DS} (h:Jm nx ts M s s1):unseen s1.1≤unseen s.1:=by
 have key:∀(a b:List Bool),a.length=b.length→(∀x:Nat,b[x]?=some true→a[x]?=some true)→Go.Proofs.YtlmgkipmfgijiaaGreatDoor.unseen a≤Go.Proofs.YtlmgkipmfgijiaaGreatDoor.unseen b:=by
  intro a;induction a with
  | nil=>intro b _ _;exact Ca _
  | cons x a ih=>
   intro b hl hh;cases b with
   | nil=>cases hl
   | cons y b=>
    have h1:=ih b dS fun z hz=>by have:=hh (z+1) (by simpa using hz);simpa using this
    have h2:=hh 0;unfold Go.Proofs.YtlmgkipmfgijiaaGreatDoor.unseen at h1 ⊢;rw [Tq,Tq];cases x<;>cases y<;>simp at h1 h2 ⊢ <;> omega
 exact key _ _ h.len fun x hx=>(h.seen x).2 (.inl hx)
theorem sQ {n:Nat} {nx:Nat→List Nat} {f:Nat} (ih:∀(b:Nat) (s:DS),s.1.length=n→unseen s.1≤f→s.1[b]?=some false→∃M,Jm nx [b] (M++[b]) s (NR nx f b s)):∀(ts:List Nat) (s0:DS),(∀t∈ts,t<n)→s0.1.length=n→unseen s0.1≤f→∃M,Jm nx ts M s0 (IK nx f ts s0)∧∀t∈ts,(IK nx f ts s0).1[t]?=some true:=by
 intro ts;induction ts with
 | nil=>intro s0 _ _ _;exact⟨[],.nil,by simp⟩
 | cons t ts ih2=>
  intro s0 htn hl0 hu0;have Vz:=htn t AR;by_cases hs:s0.1.getD t false=true
  ·obtain⟨M,h1,h2⟩:=ih2 s0 (fun x hx=>htn x (Fu _ hx)) hl0 hu0
   have e:IK nx f (t :: ts) s0=IK nx f ts s0:=by unfold IK;rw [LP,A9 hs]
   rw [e];refine⟨M,h1.more fun x hx=>Fu _ hx,fun x hx=>?_⟩;rcases Da.1 hx with rfl|hx
   ·exact (h1.seen x).2 (.inl (cY.1 hs))
   ·exact h2 x hx
  ·have hs1:s0.1[t]?=some false:=by
    rcases ZW (show t<s0.1.length by omega) with h|h
    ·exact absurd (cY.2 h) hs
    ·exact h
   obtain⟨M,h1⟩:=ih t s0 hl0 hu0 hs1;obtain⟨N,h2,h3⟩:=ih2 (NR nx f t s0) (fun x hx=>htn x (Fu _ hx)) (h1.len.trans hl0) (FK h1.unseen hu0);have e:IK nx f (t :: ts) s0=IK nx f ts (NR nx f t s0):=by unfold IK;rw [LP,A6 hs]
   rw [e];refine⟨(M++[t])++N,(h1.more AR).trans (h2.more fun x hx=>Fu _ hx),fun x hx=>?_⟩;rcases Da.1 hx with rfl|hx
   ·exact (h2.seen x).2 (.inl ((h1.seen x).2 (.inr AR)))
   ·exact h3 x hx
theorem oH {n:Nat} {nx:Nat→List Nat} (hlt:∀b,b<n→∀t∈nx b,t<n):∀(f b:Nat) (s:DS),s.1.length=n→unseen s.1≤f→s.1[b]?=some false→∃M,Jm nx [b] (M++[b]) s (NR nx f b s):=by
 intro f;induction f with
 | zero=>
  intro b s _ hu hb;have:=YK hb;omega
 | succ f ih=>
  intro b s hl hu hb;have DC:b<n:=by rw [←hl];exact (Bc.1 hb).1
  have hus:=YK hb;obtain⟨M,h1,h2⟩:=sQ ih (nx b) (s.1.set b true,s.2) (hlt b DC) dS (show Go.Proofs.YtlmgkipmfgijiaaGreatDoor.unseen (s.1.set b true)≤f by omega);rw [vr];have Md:∀x:Nat,(s.1.set b true)[x]?=some true↔s.1[x]?=some true∨x=b:=fun x=>by
   by_cases hx:x=b
   ·subst hx;simp [(Bc.1 hb).1]
   ·rw [Xi (ED hx)];simp [hx]
  refine⟨M,⟨h1.len.trans AR,by rw [h1.out,ZQ],fun x=>?_,fun x hx=>?_,?_,fun x hx t ht=>?_,fun M1 x M2 he=>?_⟩⟩
  ·have:=h1.seen x
   simp only at this ⊢;rw [this,Md,Ch,mm,or_assoc,or_comm (a:=x=b)]
  ·rcases Ch.1 hx with hx|hx
   ·have h3:=h1.fresh x hx
    by_cases hxb:x=b
    ·subst hxb;exact hb
    ·simp only at h3;rwa [Xi (ED hxb)] at h3
   ·obtain rfl:x=b:=by simpa using hx
    exact hb
  ·refine Uh.2 ⟨h1.nodup,by simp,fun a ha c hc=>?_⟩
   obtain rfl:c=b:=by simpa using hc
   rintro rfl;have:=h1.fresh a ha;rw [((Md a).2 (.inr rfl))] at this;cases this
  ·rcases Ch.1 hx with hx|hx
   ·exact h1.closed x hx t ht
   ·obtain rfl:x=b:=by simpa using hx
    exact h2 t ht
  ·rcases List.append_eq_append_iff.1 he with⟨a,ha,hc⟩|⟨a,ha,hc⟩
   ·cases a with
    | nil=>
     simp only [cT,Y0] at hc;exact .inr (by simp [hc.1])
    | cons y a=>simp at hc
   ·cases a with
    | nil=>
     simp only [cT,Y0] at hc;exact .inr (by simp [hc.1])
    | cons y a=>
     simp only [dU,Y0] at hc;obtain⟨rfl,rfl⟩:=hc;rcases h1.tree M1 x a ha with⟨p,hp,h3⟩|h3
     ·exact .inl ⟨p,Rl _ hp,h3⟩
     ·exact .inl ⟨b,by simp,h3⟩
theorem xk {n:Nat} {nx:Nat→List Nat} (hlt:∀b,b<n→∀t∈nx b,t<n) (f:Nat) (ts:List Nat) (s:DS) (ht:∀t∈ts,t<n) (hl:s.1.length=n) (hu:unseen s.1≤f):∃M,Jm nx ts M s (IK nx f ts s)∧∀t∈ts,(IK nx f ts s).1[t]?=some true:=
 sQ (oH hlt f) ts s ht hl hu
structure DI (n:Nat) (s:DS):Prop where
 len:s.1.length=n
 nodup:s.2.Nodup
 mem:∀x∈s.2,s.1[x]?=some true
theorem DI.le {n:Nat} {s:DS} (h:DI n s):s.2.length≤n:=Pz h.nodup fun x hx=>by
 have:=(Bc.1 (h.mem x hx)).1
 rwa [h.len] at this
theorem DI.step {n:Nat} {nx:Nat→List Nat} {ts M:List Nat} {s s':DS} (h:DI n s) (k:Jm nx ts M s s'):DI n s':=by
 refine⟨k.len.trans h.len,?_,fun x hx=>?_⟩
 ·rw [k.out]
  refine Uh.2 ⟨h.nodup,k.nodup,fun a ha b hb=>?_⟩;rintro rfl;have h1:=h.mem a ha;rw [k.fresh a hb] at h1;cases h1
 ·rw [k.out] at hx
  rw [k.seen];exact (Ch.1 hx).imp (h.mem x) id
theorem DI.set {n:Nat} {s:DS} (h:DI n s) (b:Nat):DI n (s.1.set b true,s.2):=⟨by simp [h.len],h.nodup,fun x hx=>by
 have h1:=h.mem x hx;by_cases e:b=x
 ·subst e;simp [(Bc.1 h1).1]
 ·simp only;rw [Xi e];exact h1⟩
theorem aa5 {nx:Nat→List Nat} {f j t:Nat} {ts:List Nat} {s:DS} (h:ts[j]?=some t):IK nx f (ts.take (j+1)) s=if (IK nx f (ts.take j) s).1.getD t false=true then IK nx f (ts.take j) s else NR nx f t (IK nx f (ts.take j) s):=by
 unfold IK;rw [I6,h];simp [Qw]
def C6 (n:Nat) (nx:Nat→List Nat):List Nat:=(NR nx n 0 (List.replicate n false,[])).2.reverse
def Cw (n:Nat) (nx:Nat→List Nat) (b:Nat):Nat:=(C6 n nx).idxOf b
theorem ir (n:Nat):unseen (List.replicate n false)=n:=by unfold unseen;rw [List.countP_replicate];simp
theorem Nb {n:Nat} {nx:Nat→List Nat} (hn:0<n) (hlt:∀b,b<n→∀t∈nx b,t<n):Gr n nx (C6 n nx) (Cw n nx)∧(C6 n nx).Nodup:=by
 obtain⟨M,h⟩:=oH hlt n 0 (List.replicate n false,[]) AR (by rw [ir];exact AH _) (by simp [hn]);have ho:C6 n nx=0 :: M.reverse:=by unfold C6;rw [h.out];simp
 have hnd:(C6 n nx).Nodup:=by rw [ho,← List.reverse_concat];unfold List.Nodup;rw [List.pairwise_reverse];exact h.nodup.imp ED
 have hmem:∀x,x∈C6 n nx↔x∈M++[0]:=fun x=>by rw [ho];simp [or_comm]
 have hs:∀x,(NR nx n 0 (List.replicate n false,[])).1[x]?=some true↔x∈M++[0]:=fun x=>by
  rw [h.seen];constructor
  ·rintro (h1|h1)
   ·rw [j8] at h1
    split at h1<;>simp at h1
   ·exact h1
  ·exact .inr
 have hat:∀i b,(C6 n nx)[i]?=some b→Cw n nx b=i:=fun i b hb=>by
  obtain⟨h1,rfl⟩:=Bc.1 hb;exact hnd.idxOf_getElem i h1
 refine⟨⟨hn,by rw [ho];rfl,fun b hb=>?_,hat,fun p hp b hb=>?_,fun b hb h0=>?_⟩,hnd⟩
 ·have:=h.fresh b ((hmem b).1 hb)
  have:=(Bc.1 this).1;simpa using this
 ·exact (hmem b).2 ((hs b).1 (h.closed p ((hmem p).1 hp) b hb))
 ·have hb':=(hmem b).1 hb
  obtain⟨M1,M2,he⟩:=List.append_of_mem hb';rcases h.tree M1 b M2 he with⟨p,hp,h1⟩|h1
  ·have hpm:p∈C6 n nx:=(hmem p).2 (by rw [he];simp [hp])
   refine⟨p,hpm,h1,?_⟩;have ho2:C6 n nx=M2.reverse++b :: M1.reverse:=by
    have:C6 n nx=(M++[0]).reverse:=by rw [ho];simp
    rw [this,he];simp
   have hpb:p∈M2.reverse:=by simpa using hp
   unfold Cw;rw [ho2,List.idxOf_append,A9 hpb];have DC:b∉M2.reverse:=fun hm=>by
    rw [ho2] at hnd;exact (Uh.1 hnd).2.2 b hm b AR rfl
   rw [List.idxOf_append,A6 DC,List.idxOf_cons_self];have:=List.idxOf_lt_length_iff.2 hpb;omega
  ·exact absurd (by simpa using h1) h0
section
def Aa (G:List AU) (b:Nat):List Nat:=(G.getD b ⟨0,0,[]⟩).nx.map Int.toNat
def Bg (l:List Nat):List Int:=l.map fun (x:Nat)=>(x:Int)
def Fw (s:List Bool):List Value:=s.map fun x=>.bool x
structure GB (G:List AU) (n:Nat):Prop where
 len:G.length=n
 le:n≤5000
 two:∀(b:Nat) (x:AU),G[b]?=some x→x.nx.length≤5000
 nx:∀(b:Nat) (x:AU),G[b]?=some x→∀s∈x.nx,0≤s∧s<(n:Int)
theorem GB.lt {G:List AU} {n:Nat} (h:GB G n):∀b,b<n→∀t∈Aa G b,t<n:=fun b hb t ht=>by
 have hb':b<G.length:=by rw [h.len];exact hb
 have hx:G[b]?=some G[b]:=Ab hb';unfold Aa at ht;rw [List.getD,hx] at ht;obtain⟨s,hs,rfl⟩:=C5.1 ht;have:=h.nx b _ hx s hs;omega
theorem V8 {G:List AU} {b:Nat} {x:AU} (hx:G[b]?=some x):Aa G b=x.nx.map Int.toNat:=by unfold Aa;rw [List.getD,hx];rfl
structure NQ (w wr:World) (sq sb gq fq lq n:Nat) (bv pv:Value) (s:DS):Prop where
 AA:Below w.heap.size w wr
 ksq:wr.heap[sq]?=some (.cells #[.slice (some ⟨sb,0,none⟩) n n] 55 (0,0))
 Q7:wr.heap[gq]?=some (.cells #[bv,pv] 31 (0,0))
 Qc:wr.heap[fq]?=some (.cells #[.func (.func 66) #[] #[.pointer (some ⟨sq,0,none⟩),.pointer (some ⟨gq,0,none⟩),.pointer (some ⟨fq,0,none⟩),.pointer (some ⟨lq,0,none⟩)]] 152 (0,0))
 klq:∃v,wr.heap[lq]?=some (.cells #[v] 38 (0,0))∧wr.ownsRow w.heap.size 3 1 v s.2.length (Aq (Bg s.2))
 row:wr.ownsRow w.heap.size 4 1 (.slice (some ⟨sb,0,none⟩) n n) n (Fw s.1)
 hi:w.heap.size≤sq∧w.heap.size≤gq∧w.heap.size≤fq∧w.heap.size≤lq
section
variable {w wr:World} {sq sb gq fq lq n:Nat} {bv pv:Value} {s:DS}
theorem NQ.cell (h:NQ w wr sq sb gq fq lq n bv pv s) (hl:s.1.length=n) {b:Nat} (hb:b<n):wr.cell? ⟨sb,b,none⟩=some (.bool (s.1.getD b false))∧wr.frozen? ⟨sb,b,none⟩=false:=by
 refine⟨?_,h.row.frozenAt _⟩;rw [h.row.cellAt _ A0,Fw,D8,List.getD,Ab (by omega:b<s.1.length)];rfl
theorem NQ.set (h:NQ w wr sq sb gq fq lq n bv pv s) (b:Nat):NQ w (wr.setCell ⟨sb,b,none⟩ (.bool true)) sq sb gq fq lq n bv pv (s.1.set b true,s.2):=by
 have hne:∀(q:Nat) (cs:Array Value) (t:TypeId) (fr:Nat×Nat),wr.heap[q]?=some (.cells cs t fr)→t≠4→q≠sb:=fun q cs t fr hq ht e=>Kn hq h.row ht NF;have JK:=h.row.lt sb rfl;have keep:∀(q:Nat) (cs:Array Value) (t:TypeId) (fr:Nat×Nat),wr.heap[q]?=some (.cells cs t fr)→t≠4→(wr.setCell ⟨sb,b,none⟩ (.bool true)).heap[q]?=some (.cells cs t fr):=fun q cs t fr hq ht=>by
  rw [Bb _ _ _ _ (hne q cs t fr hq ht)];exact hq
 obtain⟨v,h1,h2⟩:=h.klq;refine⟨h.AA.setCell (p:=⟨sb,b,none⟩) JK.1 _,keep _ _ _ _ h.ksq AP,keep _ _ _ _ h.Q7 AP,keep _ _ _ _ h.Qc AP,⟨v,keep _ _ _ _ h1 AP,?_⟩,?_,h.hi⟩
 ·refine h2.kept (Hz wr sb b (.bool true)) ?_
  cases hv:v.ownBlock with
  | none=>exact .inl rfl
  | some q=>exact .inr fun e=>Fs h2 h.row AP q hv NF
 ·have:=(h.row.stored b (.bool true)).1
  simpa [Fw,Tv] using this
theorem NQ.app {v v':Value} {w2 W':World} {b:Nat} (h:NQ w wr sq sb gq fq lq n bv pv s) (h1:wr.heap[lq]?=some (.cells #[v] 38 (0,0))) (h2:wr.ownsRow w.heap.size 3 1 v s.2.length (Aq (Bg s.2))) (hb:Below wr.heap.size wr w2) (hg:w2.grownBy W' v.ownBlock)
  (hown:W'.ownsRow w.heap.size 3 1 v' (s.2.length+1) (Aq (Bg s.2)++[.int .i64 (b:Int)])):NQ w (W'.setCell ⟨lq,0,none⟩ v') sq sb gq fq lq n bv pv (s.1,s.2++[b]):=by
 have keep:∀(q:Nat) (cs:Array Value) (t:TypeId) (fr:Nat×Nat),wr.heap[q]?=some (.cells cs t fr)→t≠3→W'.heap[q]?=some (.cells cs t fr):=fun q cs t fr hq ht=>by
  have hl:=(Bl.1 hq).1;have:=hb.size;rw [hg.block q A0 (Kn hq h2 ht),hb.block q hl];exact hq
 have k1:=keep _ _ _ _ h1 AP;have other:∀(q:Nat) (cs:Array Value) (t:TypeId) (fr:Nat×Nat),W'.heap[q]?=some (.cells cs t fr)→t≠38→(W'.setCell ⟨lq,0,none⟩ v').heap[q]?=some (.cells cs t fr):=fun q cs t fr hq ht=>by
  rw [Bb _ _ _ _ (by rintro rfl;rw [k1] at hq;cases hq;exact ht rfl)];exact hq
 have G:=grown_of hb hg;have Iz:=G.size;have DY:∀k,v.ownBlock=some k→w.heap.size≤k:=fun k hk=>(h2.lt k hk).1;have row':W'.ownsRow w.heap.size 4 1 (.slice (some ⟨sb,0,none⟩) n n) n (Fw s.1):=h.row.kept G (.inr (fun e=>Fs h.row h2 AP sb rfl e.symm));have S:=Hz W' lq 0 v';refine⟨(h.AA.grown G h.AA.size DY).grown S (by have:=h.AA.size;omega) (fun k hk=>by cases hk;exact h.hi.2.2.2),other _ _ _ _ (keep _ _ _ _ h.ksq AP) AP,other _ _ _ _ (keep _ _ _ _ h.Q7 AP) AP,other _ _ _ _ (keep _ _ _ _ h.Qc AP) AP,⟨v',one_setCell k1,?_⟩,row'.kept S (.inr (fun e=>Kn k1 row' AP e.symm)),h.hi⟩;have e:Aq (Bg (s.2++[b]))=Aq (Bg s.2)++[.int .i64 (b:Int)]:=by simp [Aq,Bg]
 rw [show (s.2++[b]).length=s.2.length+1 by simp,e];exact hown.kept S (.inr (fun e=>Kn k1 hown AP e.symm))
end
theorem apw (bv pv:Value) (G:List AU) (n:Nat) (w:World) (sq sb gq fq lq:Nat) (HG:E7 w bv G) (HB:GB G n):∀(f b:Nat) (s:DS) (wr:World),NQ w wr sq sb gq fq lq n bv pv s→DI n s→unseen s.1≤f→s.1[b]?=some false→
  Calls Tryz.prog 66 #[.int .i64 (b:Int),.pointer (some ⟨sq,0,none⟩),.pointer (some ⟨gq,0,none⟩),.pointer (some ⟨fq,0,none⟩),.pointer (some ⟨lq,0,none⟩)] wr fun e w'=>e=.returned (.tuple #[])∧NQ w w' sq sb gq fq lq n bv pv (NR (Aa G) f b s):=by
 obtain⟨A,cap,rfl,hc1,hc2⟩:=HG.slice;have he:∀(args:Array Value) (w:World),(callFunc 66 args).run Tryz.prog w=.ok (.enter 66 args) w:=fun _ _=>by kernel_rfl
 intro f;induction f with
 | zero=>
  intro b s wr _ _ hu hb;have:=YK hb;omega
 | succ f ih=>
  intro b s wr hD hI hu hb;have hus:=YK hb;have DC:b<n:=by rw [←hI.len];exact (Bc.1 hb).1
  obtain⟨x,NV,gb,go,hx,rfl,hgb,c0,c1,c2,hN⟩:=HG.at_ hD.AA (j:=b) (by rw [HB.len];exact DC);obtain⟨NA,CX,rfl,hn1,hn2⟩:=hN.slice;obtain⟨m1,m2⟩:=hD.cell hI.len DC;have⟨My,HIS⟩:=AQ (hD.set b) (hI.set b);have HU:=A3 (show unseen (s.1.set b true)≤f by omega);have⟨HI,HX,IH,PR⟩:=CU hN hx ih HB;have hnl:x.nx.length≤5000:=HB.two b x hx;have x1:wr.cell? ⟨sq,0,none⟩=some (.slice (some ⟨sb,0,none⟩) n n):=by simp [World.cell?,hD.ksq]
  have x2:(b:Int)<(n:Int):=by omega
  have x3:gq<wr.heap.size:=(Bl.1 hD.Q7).1;have x4:(wr.setCell ⟨sb,b,none⟩ (.bool true)).cell? ⟨gq,0,none⟩=some (.slice (some ⟨gb,go,none⟩) G.length cap):=by simp [World.cell?,My.out.Q7]
  have hgl:(b:Int)<(G.length:Int):=by rw [HB.len];omega
  have JK:=(hD.row.lt sb rfl);have hne:gb≠sb:=by omega
  have x5:(wr.setCell ⟨sb,b,none⟩ (.bool true)).cell? ⟨gb,go+b*3+2,none⟩=some (.slice NA x.nx.length CX):=by
   rw [N3 (Bb _ _ _ _ hne)];exact c2
  clear hx hN ih HG HB hD hI hu hb hus hc1 c0 c1 c2 hn1;go_enter Tryz.func66,Tryz.ntmps66;go_upto_region 1 with fail;obtain⟨U,hU⟩:=A8 (wr.setCell ⟨sb,b,none⟩ (.bool true));rw [hU] at My x4 x5 ⊢;clear hU m1 m2 x1 x3;have Yi:Aa G b=x.nx.map Int.toNat:=V8 HX.out;have ER:=A3 Yi;obtain⟨iI,Ef,Es,EN,FN⟩:=Dp Oy;clear Yi;go_upto_region 2 with fail;go_loopw [18] (fun a18 wr=>∃j:Nat,j≤x.nx.length∧a18=.int .i64 (j:Int)∧NQ w wr sq sb gq fq lq n (.slice (some ⟨gb,go,none⟩) G.length cap) pv (IK (Aa G) f ((Aa G b).take j) (s.1.set b true,s.2))) (fun a18 _=>x.nx.length - (intOf a18).toNat);case atStart=>exact⟨0,Ca _,rfl,My.out⟩
  case round=>
   obtain⟨j,hj,rfl,hD⟩:=hrel;clear My x4 x5;have Dx:∀t∈(Aa G b).take j,t<n:=fun t ht=>PR.out.lt b DC t (rK ht);obtain⟨M,hL,-⟩:=xk PR.out.lt f ((Aa G b).take j) (s.1.set b true,s.2) Dx HIS.out.len HU.out;have hI:=HIS.out.step hL;have hU:=FK hL.unseen HU.out;obtain⟨sj,hsj⟩:∃q,IK (Aa G) f ((Aa G b).take j) (s.1.set b true,s.2)=q:=⟨_,rfl⟩;rw [hsj] at hD hI hU;have⟨RV,HDJ,HIJ,HUJ⟩:=CU hsj hD hI hU;have hws:=hD.AA.size;have y1:wr.cell? ⟨sq,0,none⟩=some (.slice (some ⟨sb,0,none⟩) n n):=by simp [World.cell?,hD.ksq]
   have y2:wr.cell? ⟨fq,0,none⟩=some (.func (.func 66) #[] #[.pointer (some ⟨sq,0,none⟩),.pointer (some ⟨gq,0,none⟩),.pointer (some ⟨fq,0,none⟩),.pointer (some ⟨lq,0,none⟩)]):=by simp [World.cell?,hD.Qc]
   clear Dx hL hI hU hsj M;by_cases hlt:j<x.nx.length
   ·obtain⟨sv,nb,Fy,hs,rfl,hnb,x1⟩:=HI.out.at_ hD.AA hlt
    obtain⟨t,rfl⟩:∃t:Nat,sv=(t:Int):=⟨sv.toNat,by have:=PR.out.nx b x HX.out sv (Bj hs);omega⟩;have htn:t<n:=by have:=PR.out.nx b x HX.out _ (Bj hs);omega
    have HT:=A3 (show (Aa G b)[j]?=some t by rw [ER.out,D8,hs];rfl);have dl:decide ((j:Int)<(x.nx.length:Int))=true:=by simpa using hlt
    have hti:(t:Int)<(n:Int):=by omega
    obtain⟨z1,z2⟩:=hD.cell HIJ.out.len htn;have Dx:=aa5 (nx:=Aa G) (f:=f) (s:=(s.1.set b true,s.2)) HT.out;rw [RV.out] at Dx;clear hs hD;by_cases R3:sj.1.getD t false=true
    ·rw [R3] at z1
     rw [A9 R3] at Dx;have CT:=A3 Dx;clear Dx R3;go_wp2_with fail;go_roundw;case rel=>exact⟨j+1,by omega,by go_num,by rw [CT.out];exact HDJ.out⟩
     case measure=>exact Ai
    ·have hsf:sj.1.getD t false=false:=by simpa using R3
     rw [hsf] at z1;rw [A6 R3] at Dx;have CT:=A3 Dx;have HUN:=A3 (show sj.1[t]?=some false by
      rcases ZW (show t<sj.1.length by rw [HIJ.out.len];exact htn) with h|h
      ·exact absurd (cY.2 h) R3
      ·exact h)
     clear Dx R3 hsf;go_wp2_with (go_at_call 66;refine (IH.out t sj wr HDJ.out HIJ.out HUJ.out HUN.out).mono ?_;rintro e W7 ⟨rfl,hD7⟩);go_roundw;case rel=>exact⟨j+1,by omega,by go_num,by rw [CT.out];exact hD7⟩
     case measure=>exact Ai
   ·obtain rfl:j=x.nx.length:=by omega
    have dl:decide ((x.nx.length:Int)<(x.nx.length:Int))=false:=by simp
    obtain⟨v,hv1,hv2⟩:=hD.klq;have hdl:=HIJ.out.le;have hn5:=PR.out.le;obtain⟨vA,Cv,Je⟩:∃vA Cv,v=.slice vA sj.2.length Cv:=by
     rcases hv2.2 with⟨h,h'⟩|⟨g,cap',cur,h,_⟩
     ·exact⟨_,_,by rw [h,h']⟩
     ·exact⟨_,_,h⟩
    subst Je;have⟨HV1,HV2⟩:=AQ hv1 hv2;have y3:wr.cell? ⟨lq,0,none⟩=some (.slice vA sj.2.length Cv):=by simp [World.cell?,hv1]
    have hlq:lq<wr.heap.size:=(Bl.1 hv1).1;have HNL:=A3 (Kn hv1 hv2 AP);have y4:wr.frozen? ⟨lq,0,none⟩=false:=by simp [World.frozen?,hv1]
    clear hv1 hv2 hD y1 y2;go_wp2_with (at_builtin;refine Lx _ rfl (.tmp 31) (.tmp 33) 38 rfl w.heap.size 3 iI (.int .i64 0) 1 8 JJ Ef Es EN FN rfl AP (.slice vA sj.2.length Cv) _ _ rfl (HV2.out.alloc _) ⟨wr.heap.size,0,none⟩ 1 1 [.int .i64 (b:Int)] rfl rfl (Du _ _ _) Bd CJ A0 I7 ?_;intro v' W' hown' hgrow _ DY;obtain⟨g',cap',rfl⟩:=Mp hown';have hc1:=hgrow.cell (a:=⟨lq,0,none⟩) (v:=.slice vA sj.2.length Cv) Ga HNL.out;have hf1:W'.frozen? ⟨lq,0,none⟩=false:=(Oe (hgrow.block lq CD HNL.out)).trans Ga);have hB:=HDJ.out.app (b:=b) HV1.out HV2.out ((AV wr.heap.size wr).alloc (AH _) (.cells #[.int .i64 (b:Int)] 3)) hgrow hown';refine bodyPost_end (Zu rfl _ _ _) rfl ⟨rfl,?_⟩
    ·rw [vr]
     have e:(Aa G b).take x.nx.length=Aa G b:=K8 (by rw [ER.out,FQ];exact AH _);have e2:=RV.out;rw [e] at e2;rw [e2];exact hB
end
def swp (xs:List Int) (i:Nat):List Int:=(List.range xs.length).map fun k=>if k<i∨xs.length≤k+i then xs.getD (xs.length - 1 - k) 0 else xs.getD k 0
theorem Tk (xs:List Int) (i:Nat):(swp xs i).length=xs.length:=by simp [swp]
theorem VC {xs:List Int} {i k:Nat} (hk:k<xs.length):(swp xs i)[k]?=some (if k<i∨xs.length≤k+i then xs.getD (xs.length - 1 - k) 0 else xs.getD k 0):=by
 unfold swp;rw [D8,FI hk];rfl
theorem ap9 (xs:List Int):swp xs 0=xs:=by
 apply JR;intro k;by_cases hk:k<xs.length
 ·rw [VC hk,A6 A0];simp [List.getD,Ab hk]
 ·rw [Dy (by rw [Tk];omega),Dy A0]
theorem xB {xs:List Int} {i:Nat} (h:xs.length≤2*i+1):swp xs i=xs.reverse:=by
 apply JR;intro k;by_cases hk:k<xs.length
 ·rw [VC hk,List.getElem?_reverse hk]
  have h1:xs.length - 1 - k<xs.length:=by omega
  by_cases h2:k<i∨xs.length≤k+i
  ·rw [A9 h2];simp [List.getD,Ab h1]
  ·rw [A6 h2,show xs.length - 1 - k=k by omega];simp [List.getD,Ab hk]
 ·rw [Dy (by rw [Tk];omega),Dy CD]
theorem akc {xs:List Int} {i j:Nat} (h:i+j+1=xs.length) (hij:i<j):((swp xs i).set i (xs.getD j 0)).set j (xs.getD i 0)=swp xs (i+1):=by
 apply JR;intro k;by_cases hk:k<xs.length
 ·rw [VC hk,Gv,Gv]
  simp only [LB,Tk];by_cases h1:j=k
  ·subst h1
   rw [A9 rfl,A9 hk,A9 A0,show xs.length - 1 - j=i by omega]
  ·rw [A6 h1]
   by_cases h2:i=k
   ·subst h2
    rw [A9 rfl,A9 hk,A9 A0,show xs.length - 1 - i=j by omega]
   ·rw [A6 h2,VC hk]
    by_cases h3:k<i∨xs.length≤k+i
    ·rw [A9 h3,A9 A0]
    ·rw [A6 h3,A6 A0]
 ·rw [Dy (by simp [Tk];omega),Dy (by rw [Tk];omega)]
theorem TN (l:List Int) (k:Nat) (x:Int):(Aq l).set k (.int .i64 x)=Aq (l.set k x):=by simp [Aq,Tv]
theorem fo {w:World} {B g m cap:Nat} {l:List Int} (h:w.ownsRow B 3 1 (.slice (some ⟨g,0,none⟩) m cap) m (Aq l)) (hl:l.length=m) {k:Nat} (hk:k<m):w.cell? ⟨g,k,none⟩=some (.int .i64 (l.getD k 0)):=by
 rw [h.cellAt _ A0,Aq,D8,List.getD,Ab (by omega:k<l.length)];rfl
theorem zX (B g m cap:Nat) (xs:List Int) (w:World) (hm:xs.length=m) (hm5:m≤1000000) (hr:w.ownsRow B 3 1 (.slice (some ⟨g,0,none⟩) m cap) m (Aq xs)) :
  Calls Tryz.prog 67 #[.slice (some ⟨g,0,none⟩) m cap] w fun e w'=>e=.returned (.tuple #[])∧w'.ownsRow B 3 1 (.slice (some ⟨g,0,none⟩) m cap) m (Aq xs.reverse)∧w'.heap.size=w.heap.size∧w.grownBy w' (some g):=by
 have HR:=A3 hr;clear hr;have HM:=A3 hm;clear hm;obtain⟨rv,Jr⟩:∃r,xs.reverse=r:=⟨_,rfl⟩;rw [Jr];have HRV:=A3 Jr;clear Jr;have w1:IntKind.i64.wrap ((m:Int) - 1)=(m:Int) - 1:=Dn _ A0;go_enter Tryz.func67,Tryz.ntmps67;go_upto_region 1 with fail;clear w1;go_loopw [2,3] (fun a2 a3 wr=>∃i:Nat,i≤m∧a2=.int .i64 (i:Int)∧a3=.int .i64 ((m:Int) - 1 - (i:Int))∧wr.ownsRow B 3 1 (.slice (some ⟨g,0,none⟩) m cap) m (Aq (swp xs i))∧wr.heap.size=w.heap.size∧w.grownBy wr (some g)) (fun a2 _ _=>m - (intOf a2).toNat);case atStart=>exact⟨0,Ca _,rfl,by simp,by rw [ap9];exact HR.out,rfl,⟨rfl,rfl,rfl,AH _,fun _ _ _=>rfl⟩⟩
 case round=>
  obtain⟨i,him,rfl,rfl,hrw,hsz,hg⟩:=hrel;have⟨HRW,HG⟩:=AQ hrw hg;clear hg;by_cases hlt:(i:Int)<(m:Int) - 1 - (i:Int)
  ·obtain⟨j,hj⟩:∃j:Nat,(m:Int) - 1 - (i:Int)=(j:Int):=⟨m - 1 - i,by omega⟩
   have HJ:=A3 (show i+j+1=xs.length by rw [HM.out];omega);rw [hj] at hlt ⊢;have hij:i<j:=by omega
   have hjm:j<m:=by omega
   have dl:decide ((i:Int)<(j:Int))=true:=Ac hlt;have c1:=fo hrw (by rw [Tk,HM.out]) (show i<m by omega);have c2:=fo hrw (by rw [Tk,HM.out]) hjm;have e1:(swp xs i).getD i 0=xs.getD i 0:=by rw [List.getD,VC iX,A6 iX];rfl
   have e2:(swp xs i).getD j 0=xs.getD j 0:=by rw [List.getD,VC iX,A6 iX];rfl
   rw [e1] at c1;rw [e2] at c2;have f1:=hrw.frozenAt i;have f2:=hrw.frozenAt j;have i1:(i:Int)<(m:Int):=by omega
   have i2:(j:Int)<(m:Int):=by omega
   have w3:IntKind.i64.wrap ((i:Int)+1)=(i:Int)+1:=Dn _ A0;have w4:IntKind.i64.wrap ((j:Int) - 1)=(j:Int) - 1:=Dn _ A0;have HST:=A3 (akc HJ.out hij);have hne:j≠i:=by omega
   obtain⟨xi,hxi⟩:∃v,xs.getD i 0=v:=⟨_,rfl⟩;obtain⟨xj,Ta⟩:∃v,xs.getD j 0=v:=⟨_,rfl⟩;rw [hxi] at c1 HST;rw [Ta] at c2 HST;clear hrw e1 e2 hj hxi Ta;go_upto_region 3 with fail;go_region
   have r1:=((HRW.out.stored i (.int .i64 xj)).1.stored j (.int .i64 xi)).1;rw [TN,TN,HST.out] at r1;have g1:wr.grownBy ((wr.setCell ⟨g,i,none⟩ (.int .i64 xj)).setCell ⟨g,j,none⟩ (.int .i64 xi)).drew (some g):=⟨rfl,rfl,rfl,by simp,fun k hk hne=>by
    have hkg:k≠g:=fun e=>hne (by rw [e]);show ((wr.setCell ⟨g,i,none⟩ (.int .i64 xj)).setCell ⟨g,j,none⟩ (.int .i64 xi)).heap[k]?=_
    rw [Bb _ _ _ _ hkg,Bb _ _ _ _ hkg]⟩
   have s1:((wr.setCell ⟨g,i,none⟩ (.int .i64 xj)).setCell ⟨g,j,none⟩ (.int .i64 xi)).drew.heap.size=w.heap.size:=by rw [←hsz];simp
   have R1:=A3 (CS r1 (AV _ _).drew);obtain⟨X,hX⟩:=A8 (((wr.setCell ⟨g,i,none⟩ (.int .i64 xj)).setCell ⟨g,j,none⟩ (.int .i64 xi)).drew);rw [hX] at R1 g1 s1 ⊢;have G1:=A3 (show w.grownBy X (some g) from⟨g1.os.trans HG.out.os,g1.tape.trans HG.out.tape,g1.output.trans HG.out.output,by omega,fun k hk hne=>(g1.block k A0 hne).trans (HG.out.block k hk hne)⟩);have e3:(j:Int) - 1=(m:Int) - 1 - ((i+1:Nat):Int):=by have:=HJ.out;have:=HM.out;omega
   clear hX g1 r1 c1 c2 f1 f2;go_wp2_with fail;go_roundw;case rel=>exact⟨i+1,by omega,by go_num,by simp,R1.out,s1,G1.out⟩
   case measure=>exact Ai
  ·have dl:decide ((i:Int)<(m:Int) - 1 - (i:Int))=false:=Ad hlt
   go_wp2_with fail;refine bodyPost_end (Zu rfl _ _ _) rfl ⟨rfl,?_,hsz,HG.out⟩;rw [←HRV.out,← xB (i:=i) (by rw [HM.out];omega)];exact HRW.out
theorem Dg.each {n:Nat}:∀ {l:List AU} {a z:Int},Dg n a l z→∀x∈l,∃e,Ra n e x
 | [],_,_,_,x,hx=>by cases hx
 | y :: l,a,z,h,x,hx=>by
  rcases Da.1 hx with rfl|hx
  ·exact⟨a,h.1⟩
  ·exact Dg.each h.2 x hx
theorem GB.of {G:List AU} {P:List (List Int)} (h:Dm G P) (hn:G.length≤5000):GB G G.length:=by
 obtain⟨z,hz⟩:=h.ok;exact⟨rfl,hn,fun b x hx=>by obtain⟨e,he⟩:=hz.each x (Bj hx);have:=he.two;omega,fun b x hx=>by obtain⟨e,he⟩:=hz.each x (Bj hx);exact he.nx⟩
theorem pY (bv pv:Value) (G:List AU) (P:List (List Int)) (w:World) (HG:E7 w bv G) (HP:Dk w pv P) (HV:Dm G P) (hn:G.length≤5000) :
  Calls Tryz.prog 36 #[.agg #[bv,pv]] w fun e w'=>(∃g cap,e=.returned (.slice (some ⟨g,0,none⟩) (C6 G.length (Aa G)).length cap)∧Ints w' (.slice (some ⟨g,0,none⟩) (C6 G.length (Aa G)).length cap) (Bg (C6 G.length (Aa G)))∧w.heap.size≤g)∧Below w.heap.size w w':=by
 have HB:=A3 (GB.of HV hn);obtain⟨O,hO⟩:=A8 (C6 G.length (Aa G));rw [hO];have HO:=A3 hO;clear hO;have hne:0<G.length:=Gk.2 HV.ne;obtain⟨A,cap,rfl,hc1,hc2⟩:=HG.slice;obtain⟨PA,B7,rfl,hp1,hp2⟩:=HP.slice;obtain⟨V0,Bq⟩:=A8 (w.alloc (.cells #[.slice A G.length cap,.slice PA P.length B7] 31));obtain⟨gq,ME⟩:∃q,w.heap.size=q:=⟨_,rfl⟩;have b0:Below w.heap.size w V0:=Bq▸(AV _ _).alloc (AH _) _;have k0:V0.heap[gq]?=some (.cells #[.slice A G.length cap,.slice PA P.length B7] 31 (0,0)):=by rw [←Bq,← ME];exact AY _ _
 have y0:V0.cell? ⟨gq,0,none⟩=some (.slice A G.length cap):=by simp [World.cell?,k0]
 have y1:V0.cell? ⟨gq,1,none⟩=some (.slice PA P.length B7):=by simp [World.cell?,k0]
 have s0:gq<V0.heap.size:=(Bl.1 k0).1;have GQ:=A3 (show Calls Tryz.prog 35 #[.agg #[.slice A G.length cap,.slice PA P.length B7]] V0 fun e w'=>e=.returned (.bool true)∧Below V0.heap.size V0 w' from
  (bC _ _ G P V0 (HG.below b0) (HP.below b0) hn (fun x hx=>by obtain⟨i,hi⟩:=LH.1 hx;exact HB.out.two i x hi)).mono fun e w' h=>by
   obtain⟨⟨r,rfl,hr⟩,hb⟩:=h;rw [hr.2 HV]
   exact⟨rfl,hb⟩)
 have⟨K0,B0,NM⟩:=Bh k0 b0 HG;clear HG HP HV b0 k0 hc1 hc2 hp1 hp2;go_enter Tryz.func36,Tryz.ntmps36;go_upto_region 4 with (go_at_call 35;refine GQ.out.mono ?_;rintro e W1 ⟨rfl,hb1⟩);obtain⟨lq,hlq⟩:∃q,W1.heap.size=q:=⟨_,rfl⟩;obtain⟨V2,hV2⟩:∃V,W1.alloc (.cells #[.slice none 0 0] 38)=V:=⟨_,rfl⟩;rw [hV2,hlq];have b2:Below w.heap.size w V2:=hV2▸(B0.out.trans (hb1.mono B0.out.size)).alloc (by have:=B0.out.size;have:=hb1.size;omega) _;have kg2:V2.heap[gq]?=some (.cells #[.slice A G.length cap,.slice PA P.length B7] 31 (0,0)):=by rw [←hV2,Bv _ _ (by have:=hb1.size;omega)];exact (hb1.block gq s0).trans K0.out
 have kl2:V2.heap[lq]?=some (.cells #[.slice none 0 0] 38 (0,0)):=by rw [←hlq,← hV2];exact AY _ _
 have sl2:lq<V2.heap.size:=(Bl.1 kl2).1;have sg2:gq<V2.heap.size:=(Bl.1 kg2).1;have lo2:w.heap.size≤lq:=by have:=B0.out.size;have:=hb1.size;omega
 have v0:V2.cell? ⟨gq,0,none⟩=some (.slice A G.length cap):=by simp [World.cell?,kg2]
 obtain⟨i2,hi2,hs0,hs1,hs2⟩:=Dp bE;obtain⟨U1,lm,D7,gr1⟩:=Qb (P:=Tryz.prog) V2 w.heap.size 55 4 i2 (.bool false) 1 YD hi2 hs0 hs1 .i64 .i64 G.length Xc CJ b2.size;rw [N6,show (Value.bool false).cells=#[Value.bool false] from rfl,Qs] at D7;have⟨T7,JF,KG2,KL2,B2⟩:=FP D7 gr1 kg2 kl2 b2;obtain⟨sb,JK⟩:∃q,V2.heap.size=q:=⟨_,rfl⟩;rw [JK] at lm T7 sl2 sg2;clear D7 gr1 hV2 hlq hb1 b2 kg2 kl2 Bq y0 y1 GQ i2 hi2 hs0 hs1 hs2;go_upto_region 5 with fail;obtain⟨sq,QG⟩:∃q,U1.heap.size=q:=⟨_,rfl⟩;obtain⟨V4,Fv⟩:∃V,U1.alloc (.cells #[.slice (some ⟨sb,0,none⟩) G.length G.length] 55)=V:=⟨_,rfl⟩;rw [Fv,QG];obtain⟨fq,VZ⟩:∃q,V4.heap.size=q:=⟨_,rfl⟩;obtain⟨V5,H7⟩:∃V,V4.alloc (.cells #[.func (.func 66) #[] #[.pointer (some ⟨sq,0,none⟩),.pointer (some ⟨gq,0,none⟩),.pointer (some ⟨fq,0,none⟩),.pointer (some ⟨lq,0,none⟩)]] 152)=V:=⟨_,rfl⟩;have he:∀(args:Array Value) (w:World),(callFunc 66 args).run Tryz.prog w=.ok (.enter 66 args) w:=fun _ _=>by kernel_rfl
 clear lm v0;go_upto_region 7 with fail;have sU:sb<U1.heap.size:=(T7.out.lt sb rfl).2;have g1:=JF.out.size;have e4:∀(q:Nat) (x:Option Obj),q<U1.heap.size→U1.heap[q]?=x→V5.heap[q]?=x:=fun q x hq hx=>by
  rw [←H7,Bv _ _ (by rw [←Fv,F9];omega),← Fv,Bv _ _ hq];exact hx
 have eU:∀(q:Nat) (x:Option Obj),q<V2.heap.size→V2.heap[q]?=x→V5.heap[q]?=x:=fun q x hq hx=>e4 q x A0 ((JF.out.block q hq AR).trans hx);have UM:NQ w V5 sq sb gq fq lq G.length (.slice A G.length cap) (.slice PA P.length B7) (List.replicate G.length false,[]):=by
  refine⟨?_,?_,eU _ _ A0 KG2.out,?_,⟨_,eU _ _ A0 KL2.out,NK _ _ _ _⟩,?_,by omega,by omega,?_,lo2⟩
  ·rw [←H7,← Fv]
   exact ((B2.out.grown JF.out B2.out.size (fun k hk=>by cases hk)).alloc (by have:=B2.out.size;omega) _).alloc (by have:=B2.out.size;simp;omega) _
  ·rw [←H7,Bv _ _ (by rw [←Fv,F9];omega),← Fv,← QG];exact AY _ _
  ·rw [←H7,← VZ];exact AY _ _
  ·rw [←H7,← Fv]
   have:=(T7.out.alloc (.cells #[.slice (some ⟨sb,0,none⟩) G.length G.length] 55)).alloc (.cells #[.func (.func 66) #[] #[.pointer (some ⟨sq,0,none⟩),.pointer (some ⟨gq,0,none⟩),.pointer (some ⟨fq,0,none⟩),.pointer (some ⟨lq,0,none⟩)]] 152);simpa [Fw] using this
  ·rw [←VZ,← Fv,F9];have:=B2.out.size;omega
 have HD0:=A3 UM;have HI0:=A3 (show DI G.length (List.replicate G.length false,[]) from⟨by simp,by simp,by simp⟩);have Tf:=A3 (apw (.slice A G.length cap) (.slice PA P.length B7) G G.length w sq sb gq fq lq NM.out HB.out G.length 0 _ V5 UM HI0.out (by rw [ir];exact AH _) (by simp [hne]));have q1:V5.cell? ⟨fq,0,none⟩=some (.func (.func 66) #[] #[.pointer (some ⟨sq,0,none⟩),.pointer (some ⟨gq,0,none⟩),.pointer (some ⟨fq,0,none⟩),.pointer (some ⟨lq,0,none⟩)]):=by simp [World.cell?,UM.Qc]
 clear UM e4 eU H7 VZ Fv QG JK g1 sU T7 JF KG2 KL2 B2 HD0;go_upto_region 8 with (go_at_call 66;refine Tf.out.mono ?_;rintro e W6 ⟨rfl,hD6⟩);obtain⟨v,hl6,hr6⟩:=hD6.klq;obtain⟨gr,MX⟩:=Nb hne HB.out.lt;obtain⟨L,hL⟩:=A8 ((NR (Aa G) G.length 0 (List.replicate G.length false,[])).2);have Q4:C6 G.length (Aa G)=L.reverse:=by unfold C6;rw [hL]
 have hLn:L.length≤G.length:=by
  have:=Pz MX gr.lt
  rwa [Q4,nP] at this
 have Um:0<L.length:=by
  have:=gr.z;rw [Q4] at this;have:=(Bc.1 this).1
  rwa [nP] at this
 rw [hL] at hr6;obtain⟨g,BH,Je⟩:∃g BH,v=.slice (some ⟨g,0,none⟩) L.length BH:=by
  rcases hr6.2 with⟨h,h'⟩|⟨g,cap',cur,h,_⟩
  ·omega
  ·exact⟨_,_,h⟩
 subst Je;have c6:W6.cell? ⟨lq,0,none⟩=some (.slice (some ⟨g,0,none⟩) L.length BH):=by simp [World.cell?,hl6]
 have HB6:=A3 hD6.AA;have s6:lq<W6.heap.size:=(Bl.1 hl6).1;have arj:=A3 (zX w.heap.size g L.length BH (Bg L) W6 (by simp [Bg]) A0 hr6);have KL:=A3 (Kn hl6 hr6 AP);have⟨HL6,HGE,Vq⟩:=Bh hl6 (hr6.lt g rfl) Q4;rw [HO.out] at Vq;clear hD6 hl6 hr6 hL Q4 gr MX q1 Tf;go_upto_region 9 with (go_at_call 67;refine arj.out.mono ?_;rintro e W7 ⟨rfl,hr7,hs7,hg7⟩);have k7:W7.heap[lq]?=some (.cells #[.slice (some ⟨g,0,none⟩) L.length BH] 38 (0,0)):=(hg7.block lq s6 KL.out).trans HL6.out;have c7:W7.cell? ⟨lq,0,none⟩=some (.slice (some ⟨g,0,none⟩) L.length BH):=by simp [World.cell?,k7]
 have⟨HR7,HG7⟩:=AQ hr7 hg7;clear hr7 k7 c6 hg7;go_wp2_with fail;go_ret;have e1:O.length=L.length:=by rw [Vq.out,nP]
 refine⟨⟨g,BH,by rw [e1];rfl,?_,HGE.out.1⟩,HB6.out.grown HG7.out HB6.out.size (fun k hk=>by cases hk;exact HGE.out.1)⟩;have e2:(Bg L).reverse=Bg O:=by rw [Vq.out];simp [Bg]
 have h3:=HR7.out;rw [e2,show L.length=(Bg O).length by simp [Bg,e1]] at h3;rw [show O.length=(Bg O).length by simp [Bg]];exact NT h3
section
section
variable {n:Nat} {nx:Nat→List Nat} {ord:List Nat} {pos:Nat→Nat} {D:List Int}
theorem qT (g:Gr n nx ord pos) (t:TI n nx ord pos D) {a b:Nat} (ha:a∈ord) (pa:Ce D a) (h:pos b<pos a) :
  ∃a':Nat,D.getD a (-1)=(a':Int)∧a'∈ord∧Ce D a'∧pos a'<pos a∧∀x,Ae D b x→(Ae D a x↔Ae D a' x):=by
 rcases pa with rfl|pa
 ·rw [g.WM] at h;omega
 ·obtain⟨a',e⟩:∃a':Nat,D.getD a (-1)=(a':Int):=⟨_,(PN pa).symm⟩
  obtain⟨c1,c2,c3,c4,c5⟩:=t.up _ _ e;refine⟨a',e,c2,c4,c3,fun x hx=>?_⟩;rw [Ae.step e];refine⟨fun k=>?_,.inr⟩;rcases k with rfl|k
  ·have:=t.le hx;omega
  ·exact k
structure Cm (ord:List Nat) (D:List Int) (a0 b0 a b:Nat):Prop where
 ha:a∈ord
 pa:Ce D a
 hb:b∈ord
 pb:Ce D b
 eq:∀x,(Ae D a0 x∧Ae D b0 x)↔(Ae D a x∧Ae D b x)
theorem Cm.left (g:Gr n nx ord pos) (t:TI n nx ord pos D) {a0 b0 a b:Nat} (c:Cm ord D a0 b0 a b) (h:pos b<pos a):∃a':Nat,D.getD a (-1)=(a':Int)∧pos a'<pos a∧Cm ord D a0 b0 a' b:=by
 obtain⟨a',e,h1,h2,h3,h4⟩:=qT g t c.ha c.pa h;refine⟨a',e,h3,h1,h2,c.hb,c.pb,fun x=>?_⟩;rw [c.eq];exact⟨fun ⟨p,q⟩=>⟨(h4 x q).1 p,q⟩,fun ⟨p,q⟩=>⟨(h4 x q).2 p,q⟩⟩
theorem Cm.right (g:Gr n nx ord pos) (t:TI n nx ord pos D) {a0 b0 a b:Nat} (c:Cm ord D a0 b0 a b) (hne:a≠b) (h:¬pos b<pos a):∃b':Nat,D.getD b (-1)=(b':Int)∧pos b'<pos b∧Cm ord D a0 b0 a b':=by
 have h':pos a<pos b:=by
  have:pos a≠pos b:=fun e=>hne (g.inj c.ha c.hb e);omega
 obtain⟨b',e,h1,h2,h3,h4⟩:=qT g t c.hb c.pb h';refine⟨b',e,h3,c.ha,c.pa,h1,h2,fun x=>?_⟩;rw [c.eq];exact⟨fun ⟨p,q⟩=>⟨p,(h4 x p).1 q⟩,fun ⟨p,q⟩=>⟨p,(h4 x p).2 q⟩⟩
theorem Cm.done {a0 b0 c:Nat} (h:Cm ord D a0 b0 c c) (x:Nat):Ae D c x↔Ae D a0 x∧Ae D b0 x:=by
 rw [h.eq];exact⟨fun k=>⟨k,k⟩,fun k=>k.1⟩
def Np (ord:List Nat) (D:List Int) (js:List Nat) (next:Int):Prop:=
 (next = -1∧∀p∈js,¬Ce D p)∨∃c:Nat,next=(c:Int)∧c∈ord∧Ce D c∧(∃p∈js,Ce D p)∧∀x,Ae D c x↔∀p∈js,Ce D p→Ae D p x
theorem Np.nil:Np ord D [] (-1):=.inl ⟨rfl,by simp⟩
theorem Np.skip {js:List Nat} {next:Int} {p:Nat} (h:Np ord D js next) (hp:¬Ce D p):Np ord D (js++[p]) next:=by
 rcases h with⟨h1,h2⟩|⟨c,h1,h2,h3,⟨q,hq,h4⟩,h5⟩
 ·refine .inl ⟨h1,fun q hq=>?_⟩
  rcases Ch.1 hq with hq|hq
  ·exact h2 q hq
  ·obtain rfl:q=p:=by simpa using hq
   exact hp
 ·refine .inr ⟨c,h1,h2,h3,⟨q,Rl _ hq,h4⟩,fun x=>?_⟩
  rw [h5];constructor
  ·intro k r hr pr
   rcases Ch.1 hr with hr|hr
   ·exact k r hr pr
   ·obtain rfl:r=p:=by simpa using hr
    exact absurd pr hp
  ·exact fun k r hr pr=>k r (Rl _ hr) pr
theorem Np.first {js:List Nat} {next:Int} {p:Nat} (h:Np ord D js next) (hn:next<0) (hp:Ce D p) (ho:p∈ord):Np ord D (js++[p]) (p:Int):=by
 rcases h with⟨h1,h2⟩|⟨c,h1,_⟩
 ·refine .inr ⟨p,rfl,ho,hp,⟨p,by simp,hp⟩,fun x=>⟨fun k r hr pr=>?_,fun k=>k p AR hp⟩⟩
  rcases Ch.1 hr with hr|hr
  ·exact absurd pr (h2 r hr)
  ·obtain rfl:r=p:=by simpa using hr
   exact k
 ·omega
theorem Np.join {js:List Nat} {next:Int} {p d:Nat} (h:Np ord D js next) (hn:0≤next) (hp:Ce D p) (hd:d∈ord) (pd:Ce D d) (hx:∀x,Ae D d x↔Ae D next.toNat x∧Ae D p x):Np ord D (js++[p]) (d:Int):=by
 rcases h with⟨h1,_⟩|⟨c,rfl,h2,h3,⟨q,hq,h4⟩,h5⟩
 ·omega
 ·refine .inr ⟨d,rfl,hd,pd,⟨p,by simp,hp⟩,fun x=>?_⟩
  rw [hx,Cu,h5];constructor
  ·rintro⟨k1,k2⟩ r hr pr
   rcases Ch.1 hr with hr|hr
   ·exact k1 r hr pr
   ·obtain rfl:r=p:=by simpa using hr
    exact k2
  ·exact fun k=>⟨fun r hr pr=>k r (Rl _ hr) pr,k p AR hp⟩
theorem Np.cur {js:List Nat} {next:Int} (h:Np ord D js next) (hn:0≤next):∃c:Nat,next=(c:Int)∧c∈ord∧Ce D c:=by
 rcases h with⟨h1,_⟩|⟨c,h1,h2,h3,_⟩
 ·omega
 ·exact⟨c,h1,h2,h3⟩
theorem Np.Z9 (g:Gr n nx ord pos) {js:List Nat} {next:Int} {b:Nat} (h:Np ord D js next) (UZ:∀p∈ord,b∈nx p→p∈js) (OW:∀p∈js,Ce D p→b∈nx p) (Km:∀p,Ce D p→p∈ord) (hb:b∈ord) (h0:b≠0) (tH:∀p∈ord,pos p<pos b→Ce D p) :
  ∃c:Nat,next=(c:Int)∧Sh nx ord pos D b c:=by
 obtain⟨p,h1,h2,h3⟩:=g.tree b hb h0;rcases h with⟨_,h4⟩|⟨c,rfl,_,_,_,h5⟩
 ·exact absurd (tH p h1 h3) (h4 p (UZ p h1 h2))
 ·exact⟨c,rfl,hb,h0,fun x=>(h5 x).trans ⟨fun k q hq pq=>k q (UZ q (Km q pq) hq) pq,fun k q hq pq=>k q (OW q hq pq) pq⟩,tH⟩
theorem TI.tR (g:Gr n nx ord pos) (t:TI n nx ord pos D) {p:Nat} (h:Ce D p):p∈ord:=by
 rcases h with rfl|h
 ·exact g.zero
 ·exact (t.up p _ (PN h).symm).1
structure Gb (n:Nat) (nx:Nat→List Nat) (ord:List Nat) (pos:Nat→Nat) (k i:Nat) (D:List Int) (ch:Bool):Prop where
 ti:TI n nx ord pos D
 uf:UF nx ord pos D k i
 prev:∀p∈ord,pos p<i→Ce D p
 all:0<k→∀p∈ord,Ce D p
 fix:ch=false→∀b∈ord,pos b<i→b≠0→∃c:Nat,D.getD b (-1)=(c:Int)∧Nca nx D b c
 stop:n<k→ch=false
theorem Gb.init (g:Gr n nx ord pos):Gb n nx ord pos 0 1 (List.replicate n (-1)) false:=by
 have hD:∀b,(List.replicate n (-1:Int)).getD b (-1) = -1:=fun b=>by
  rw [List.getD,j8];split<;>rfl
 have z:∀p∈ord,pos p<1→p=0:=fun p hp h=>g.inj hp g.zero (by rw [g.WM];omega);exact⟨.first AR hD,.first g hD,fun p hp h=>.inl (z p hp h),fun h=>by omega,fun _ b hb h h0=>absurd (z b hb h) h0,fun h=>rfl⟩
theorem xG {b c:Nat} (hb:b<D.length) (h:D.getD b (-1)=(c:Int)):D.set b (c:Int)=D:=by
 have:D[b]=(c:Int):=by simpa [List.getD,Ab hb] using h
 rw [←this];exact List.set_getElem_self hb
theorem Gb.same (g:Gr n nx ord pos) {k b c:Nat} {ch:Bool} (s:Gb n nx ord pos k (pos b) D ch) (h:Sh nx ord pos D b c) (he:D.getD b (-1)=(c:Int)):Gb n nx ord pos k (pos b+1) D ch:=by
 have hbl:b<D.length:=by rw [s.ti.len];exact g.lt b h.hb
 have h1:=s.uf.step g s.ti h s.all;rw [xG hbl he] at h1;refine⟨s.ti,h1,fun p hp hi=>?_,s.all,fun hc p hp hi h0=>?_,s.stop⟩
 ·by_cases e:pos p=pos b
  ·obtain rfl:=g.inj hp h.hb e
   exact .inr (by rw [he];omega)
  ·exact s.prev p hp A0
 ·by_cases e:pos p=pos b
  ·obtain rfl:=g.inj hp h.hb e
   exact⟨c,he,h.Uy⟩
  ·exact s.fix hc p hp A0 h0
theorem Gb.change (g:Gr n nx ord pos) {k b c:Nat} {ch:Bool} (s:Gb n nx ord pos k (pos b) D ch) (h:Sh nx ord pos D b c) (he:D.getD b (-1)≠(c:Int)):Gb n nx ord pos k (pos b+1) (D.set b (c:Int)) true:=by
 have hbl:b<D.length:=by rw [s.ti.len];exact g.lt b h.hb
 refine⟨s.ti.step g h,s.uf.step g s.ti h s.all,fun p hp hi=>?_,fun hk p hp=>ax (s.all hk p hp),fun hc=>(by cases hc),fun hk=>?_⟩
 ·by_cases e:pos p=pos b
  ·obtain rfl:=g.inj hp h.hb e
   exact .inr (by rw [aM hbl];omega)
  ·exact ax (s.prev p hp A0)
 ·have ha:=s.all A0
  exact absurd ((s.uf.exact g s.ti hk ha).same g s.ti ha h) he
theorem Gb.next (g:Gr n nx ord pos) {k:Nat} (s:Gb n nx ord pos k ord.length D true):k≤n∧Gb n nx ord pos (k+1) 1 D false:=by
 have hall:∀p∈ord,Ce D p:=fun p hp=>s.prev p hp (Bc.1 (g.idx hp)).1;have z:∀p∈ord,pos p<1→p=0:=fun p hp h=>g.inj hp g.zero (by rw [g.WM];omega);refine⟨?_,s.ti,s.uf.next g,fun p hp _=>hall p hp,fun _=>hall,fun _ b hb h h0=>absurd (z b hb h) h0,fun _=>rfl⟩;by_cases h:n<k
 ·have:=s.stop h;cases this
 ·omega
structure JL (n:Nat) (nx:Nat→List Nat) (ord:List Nat) (pos:Nat→Nat) (D:List Int):Prop where
 ti:TI n nx ord pos D
 all:∀p∈ord,Ce D p
 ex:Exact nx ord D
theorem Gb.done (g:Gr n nx ord pos) {k:Nat} (s:Gb n nx ord pos k ord.length D false):JL n nx ord pos D:=by
 have hlt:∀p∈ord,pos p<ord.length:=fun p hp=>(Bc.1 (g.idx hp)).1;have hall:∀p∈ord,Ce D p:=fun p hp=>s.prev p hp (hlt p hp);exact⟨s.ti,hall,arw g s.ti hall fun b hb h0=>s.fix rfl b hb (hlt b hb) h0⟩
end
end
section
def Hr (n:Nat) (ord:List Nat) (pos:Nat→Nat) (i:Nat):List Int:=(List.range n).map fun b=>if b∈ord.take i then (pos b:Int) else -1
theorem oI (n:Nat) (ord:List Nat) (pos:Nat→Nat) (i:Nat):(Hr n ord pos i).length=n:=by simp [Hr]
theorem wN (n:Nat) (ord:List Nat) (pos:Nat→Nat):Hr n ord pos 0=List.replicate n (-1):=by
 apply KC
 ·simp [Hr]
 ·intro i h1 h2;simp [Hr]
theorem aaT {n:Nat} {ord:List Nat} {pos:Nat→Nat} {i b:Nat} (hb:b<n):(Hr n ord pos i).getD b (-1)=if b∈ord.take i then (pos b:Int) else -1:=by
 rw [List.getD,Hr,D8,FI hb];rfl
theorem qV {n:Nat} {nx:Nat→List Nat} {ord:List Nat} {pos:Nat→Nat} (g:Gr n nx ord pos) {i b:Nat} (hb:ord[i]?=some b):(Hr n ord pos i).set b (i:Int)=Hr n ord pos (i+1):=by
 apply KC
 ·simp [Hr]
 ·intro j h1 h2
  obtain⟨hi,rfl⟩:=Bc.1 hb;rw [U8];simp only [Hr,UE,Ug];by_cases e:ord[i]=j
  ·have hp:=g.at_ i _ hb
   rw [A9 e,A9 (by rw [←e];exact List.mem_take_iff_getElem.2 ⟨i,by omega,rfl⟩),← e,hp]
  ·rw [A6 e]
   have:j∈ord.take (i+1)↔j∈ord.take i:=by
    rw [asf hi,Ch];simp [ED e]
   simp only [this]
theorem aH {n:Nat} {nx:Nat→List Nat} {ord:List Nat} {pos:Nat→Nat} (g:Gr n nx ord pos) {b:Nat} (hb:b<n):(Hr n ord pos ord.length).getD b (-1)=if b∈ord then (pos b:Int) else -1:=by
 rw [aaT hb,Gx]
inductive Ic (pv:Nat→List Nat) (R:Nat→Prop) (h:Nat) (Cj:List Nat):Nat→Prop
 | hd:Ic pv R h Cj h
 | lt {l:Nat}:l∈Cj→R l→Ic pv R h Cj l
 | up {b p:Nat}:Ic pv R h Cj b→b≠h→p∈pv b→R p→Ic pv R h Cj p
structure Oh (pv:Nat→List Nat) (R:Nat→Prop) (b:Nat) (S S':Nat→Prop):Prop where
 grow:∀x,S x→S' x
 has:R b→S' b
 Ji:∀x,S' x→S x∨R x
 closed:∀x,S' x→¬S x→∀p∈pv x,R p→S' p
 least:∀Q:Nat→Prop,Q b→(∀x,Q x→S' x→¬S x→∀p∈pv x,Q p)→∀x,S' x→S x∨Q x
structure PT (pv:Nat→List Nat) (R:Nat→Prop) (bs:List Nat) (S S':Nat→Prop):Prop where
 grow:∀x,S x→S' x
 has:∀b∈bs,R b→S' b
 Ji:∀x,S' x→S x∨R x
 closed:∀x,S' x→¬S x→∀p∈pv x,R p→S' p
 least:∀Q:Nat→Prop,(∀b∈bs,Q b)→(∀x,Q x→S' x→¬S x→∀p∈pv x,Q p)→∀x,S' x→S x∨Q x
section
variable {pv:Nat→List Nat} {R:Nat→Prop} {S S' Rw:Nat→Prop} {b:Nat} {bs:List Nat}
theorem Oh.skip (h:S b∨¬R b):Oh pv R b S S:=
 ⟨fun _ h=>h,fun hr=>h.elim id fun hn=>absurd hr hn,fun _ h=>.inl h,fun x h hn=>absurd h hn,fun Q _ _ x h=>.inl h⟩
theorem PT.nil:PT pv R [] S S:=
 ⟨fun _ h=>h,by simp,fun _ h=>.inl h,fun x h hn=>absurd h hn,fun Q _ _ x h=>.inl h⟩
theorem PT.snoc (h:PT pv R bs S S') (k:Oh pv R b S' Rw):PT pv R (bs++[b]) S Rw:=by
 refine⟨fun x hx=>k.grow x (h.grow x hx),fun x hx hr=>?_,fun x hx=>?_,fun x hx hn p hp hr=>?_,fun Q hQ hc x hx=>?_⟩
 ·rcases Ch.1 hx with hx|hx
  ·exact k.grow x (h.has x hx hr)
  ·obtain rfl:x=b:=by simpa using hx
   exact k.has hr
 ·rcases k.Ji x hx with h1|h1
  ·exact h.Ji x h1
  ·exact .inr h1
 ·by_cases h1:S' x
  ·exact k.grow p (h.closed x h1 hn p hp hr)
  ·exact k.closed x hx h1 p hp hr
 ·have e1:=h.least Q (fun c hc=>hQ c (Rl _ hc)) fun y hy h1 h2=>hc y hy (k.grow y h1) h2
  rcases k.least Q (hQ b AR) (fun y hy h1 h2=>hc y hy h1 fun h3=>h2 (h.grow y h3)) x hx with h1|h1
  ·exact e1 x h1
  ·exact .inr h1
theorem Oh.of (hr:R b) (hn:¬S b) (h:PT pv R (pv b) (fun x=>S x∨x=b) S'):Oh pv R b S S':=by
 refine⟨fun x hx=>h.grow x (.inl hx),fun _=>h.grow b (.inr rfl),fun x hx=>?_,fun x hx BK p hp Qq=>?_,fun Q hQ hc x hx=>?_⟩
 ·rcases h.Ji x hx with (h1|rfl)|h1
  ·exact .inl h1
  ·exact .inr hr
  ·exact .inr h1
 ·by_cases hxb:x=b
  ·subst hxb;exact h.has p hp Qq
  ·exact h.closed x hx (fun h1=>h1.elim BK hxb) p hp Qq
 ·rcases h.least Q (fun p hp=>hc b hQ (h.grow b (.inr rfl)) hn p hp) (fun y hy h1 h2=>hc y hy h1 fun h3=>h2 (.inl h3)) x hx with (h1|rfl)|h1
  ·exact .inl h1
  ·exact .inr hQ
  ·exact .inr h1
theorem PT.body {h:Nat} {Cj:List Nat} (hr:R h) (v:PT pv R Cj (fun x=>x=h) S') (x:Nat):S' x↔Ic pv R h Cj x:=by
 constructor
 ·intro hx
  have hR:R x:=by
   rcases v.Ji x hx with rfl|h1
   ·exact hr
   ·exact h1
  rcases v.least (fun y=>R y→Ic pv R h Cj y) (fun b hb h1=>.lt hb h1) (fun y hy h1 h2 p hp h3=>.up (hy (by
   rcases v.Ji y h1 with rfl|h4
   ·exact hr
   ·exact h4)) h2 hp h3) x hx with rfl|h1
  ·exact .hd
  ·exact h1 hR
 ·intro hx
  induction hx with
  | hd=>exact v.grow h rfl
  | lt hl h1=>exact v.has _ hl h1
  | up _ h1 h2 h3 ih=>exact v.closed _ ih h1 _ h2 h3
end
end
theorem zP {n:Nat} {nx:Nat→List Nat} {ord:List Nat} {pos:Nat→Nat} {D:List Int} (gr:Gr n nx ord pos) (ti:TI n nx ord pos D) (hn5:n≤5000) (pq pb iq ib a0 b0:Nat) (w:World)
  (cp:w.cell? ⟨pq,0,none⟩=some (.slice (some ⟨pb,0,none⟩) n n)) (ci:w.cell? ⟨iq,0,none⟩=some (.slice (some ⟨ib,0,none⟩) n n)) (hp:∀k∈ord,w.cell? ⟨pb,k,none⟩=some (.int .i64 (pos k:Int))) (hd:∀k,k<n→w.cell? ⟨ib,k,none⟩=some (.int .i64 (D.getD k (-1)))) (sp:pq<w.heap.size) (Yf:pb<w.heap.size) (si:iq<w.heap.size) (sib:ib<w.heap.size) (ha:a0∈ord) (pa:Ce D a0) (hb:b0∈ord) (pb0:Ce D b0) :
  Calls Tryz.prog 68 #[.int .i64 (a0:Int),.int .i64 (b0:Int),.pointer (some ⟨pq,0,none⟩),.pointer (some ⟨iq,0,none⟩)] w fun e w'=>∃c:Nat,e=.returned (.int .i64 (c:Int))∧c∈ord∧Ce D c∧(∀x,Ae D c x↔Ae D a0 x∧Ae D b0 x)∧Below w.heap.size w w':=by
 have⟨GR,TI,HP,HD,HC0⟩:=FP gr ti hp hd (show Cm ord D a0 b0 a0 b0 from⟨ha,pa,hb,pb0,fun _=>Iff.rfl⟩);clear gr ti hp hd ha pa hb pb0;go_enter Tryz.func68,Tryz.ntmps68;go_upto_region 1 with fail;go_loopw [0,1] (fun s0 s1 wr=>∃a b:Nat,s0=.int .i64 (a:Int)∧s1=.int .i64 (b:Int)∧Cm ord D a0 b0 a b∧Below w.heap.size w wr) (fun s0 s1 _=>pos (intOf s0).toNat+pos (intOf s1).toNat);case atStart=>exact⟨a0,b0,rfl,rfl,HC0.out,AV _ _⟩
 case round=>
  obtain⟨a,b,rfl,rfl,hc,hb⟩:=hrel;have⟨HC,HB⟩:=AQ hc hb;have hsz:=hb.size;by_cases hab:a=b
  ·subst hab
   have d1:((a:Int) != (a:Int))=false:=by simp
   have HDN:=A3 hc.done;clear hc hb;go_wp2_with fail;go_ret;exact⟨a,rfl,HC.out.ha,HC.out.pa,HDN.out,HB.out⟩
  ·have d1:((a:Int) != (b:Int))=true:=by simp;omega
   have hal:=GR.out.lt a hc.ha;have hbl:=GR.out.lt b hc.hb;have p1:wr.cell? ⟨pb,a,none⟩=some (.int .i64 (pos a:Int)):=(hb.cell (p:=⟨pb,a,none⟩) Yf).trans (HP.out a hc.ha);have p2:wr.cell? ⟨pb,b,none⟩=some (.int .i64 (pos b:Int)):=(hb.cell (p:=⟨pb,b,none⟩) Yf).trans (HP.out b hc.hb);have p3:wr.cell? ⟨pq,0,none⟩=some (.slice (some ⟨pb,0,none⟩) n n):=(hb.cell (p:=⟨pq,0,none⟩) sp).trans cp;have p4:wr.cell? ⟨iq,0,none⟩=some (.slice (some ⟨ib,0,none⟩) n n):=(hb.cell (p:=⟨iq,0,none⟩) si).trans ci;have s1:pb<wr.heap.size:=by omega
   have s2:pq<wr.heap.size:=by omega
   have s3:iq<wr.heap.size:=by omega
   have s4:ib<wr.heap.size:=by omega
   have i1:(a:Int)<(n:Int):=by omega
   have i2:(b:Int)<(n:Int):=by omega
   by_cases hgt:pos b<pos a
   ·have d2:decide ((pos b:Int)<(pos a:Int))=true:=Ac A0
    have d3:decide (pos b<pos a)=true:=Ac hgt;obtain⟨a',e1,e2,e3⟩:=hc.left GR.out TI.out hgt;have p5:wr.cell? ⟨ib,a,none⟩=some (.int .i64 (a':Int)):=by rw [←e1];exact (hb.cell (p:=⟨ib,a,none⟩) sib).trans (HD.out a hal)
    have HC':=A3 e3;obtain⟨qa,MF⟩:∃q,pos a=q:=⟨_,rfl⟩;obtain⟨qb,IJ⟩:∃q,pos b=q:=⟨_,rfl⟩;have HE:=A3 (Eg e2 (Eg MF IJ));rw [MF] at p1 d2 d3;rw [IJ] at p2 d2 d3;clear hc hb e1 e2 e3 hgt hab MF IJ HC0 cp ci;go_upto_region 2 with fail;refine C7 A4 A4 ?_;repeat (go_big_quiet_step (fail))
    refine BD ?_;rintro _ ⟨y,rfl⟩;have q4:=y.cell iq 0 s3;have q5:=y.cell ib a s4;rw [p4] at q4;rw [p5] at q5;clear p1 p2 p3 p4 p5;go_wp2_with fail;go_roundw;case rel=>exact⟨a',b,rfl,rfl,HC'.out,HB.out.trans (y.h.mono hsz)⟩
    case measure=>have:=HE.out;simp [intOf];omega
   ·have d2:decide ((pos b:Int)<(pos a:Int))=false:=Ad A0
    have d3:decide (pos b<pos a)=false:=Ad hgt;obtain⟨b',e1,e2,e3⟩:=hc.right GR.out TI.out hab hgt;have p5:wr.cell? ⟨ib,b,none⟩=some (.int .i64 (b':Int)):=by rw [←e1];exact (hb.cell (p:=⟨ib,b,none⟩) sib).trans (HD.out b hbl)
    have HC':=A3 e3;obtain⟨qa,MF⟩:∃q,pos a=q:=⟨_,rfl⟩;obtain⟨qb,IJ⟩:∃q,pos b=q:=⟨_,rfl⟩;have HE:=A3 (Eg e2 (Eg MF IJ));rw [MF] at p1 d2 d3;rw [IJ] at p2 d2 d3;clear hc hb e1 e2 e3 hgt hab MF IJ HC0 cp ci;go_upto_region 2 with fail;refine C7 A4 A4 ?_;repeat (go_big_quiet_step (fail))
    refine BD ?_;rintro _ ⟨y,rfl⟩;have q4:=y.cell iq 0 s3;have q5:=y.cell ib b s4;rw [p4] at q4;rw [p5] at q5;clear p1 p2 p3 p4 p5;go_wp2_with fail;go_roundw;case rel=>exact⟨a,b',rfl,rfl,HC'.out,HB.out.trans (y.h.mono hsz)⟩
    case measure=>have:=HE.out;simp [intOf];omega
section
theorem Mq {w:World} {B g m cap:Nat} {l:List Int} (h:w.ownsRow B 3 1 (.slice (some ⟨g,0,none⟩) m cap) m (Aq l)) (hl:l.length=m) {k:Nat} (hk:k<m):w.cell? ⟨g,k,none⟩=some (.int .i64 (l.getD k (-1))):=by
 rw [h.cellAt _ A0,Aq,D8,List.getD,Ab (by omega:k<l.length)];rfl
structure I0 (V wr:World) (iq ib pq pb n:Nat) (D P:List Int):Prop where
 AA:Below V.heap.size V wr
 SH:wr.heap[iq]?=some (.cells #[.slice (some ⟨ib,0,none⟩) n n] 38 (0,0))
 MB:wr.heap[pq]?=some (.cells #[.slice (some ⟨pb,0,none⟩) n n] 38 (0,0))
 ri:wr.ownsRow V.heap.size 3 1 (.slice (some ⟨ib,0,none⟩) n n) n (Aq D)
 rp:wr.ownsRow V.heap.size 3 1 (.slice (some ⟨pb,0,none⟩) n n) n (Aq P)
 ne:ib≠pb
 ld:D.length=n
 lp:P.length=n
section
variable {V wr wr':World} {iq ib pq pb n:Nat} {D P:List Int}
theorem I0.below (h:I0 V wr iq ib pq pb n D P) (hb:Below wr.heap.size wr wr'):I0 V wr' iq ib pq pb n D P:=
 ⟨h.AA.trans (hb.mono h.AA.size),(hb.block iq (Bl.1 h.SH).1).trans h.SH,(hb.block pq (Bl.1 h.MB).1).trans h.MB,CS h.ri hb,CS h.rp hb,h.ne,h.ld,h.lp⟩
theorem I0.cells (h:I0 V wr iq ib pq pb n D P):wr.cell? ⟨iq,0,none⟩=some (.slice (some ⟨ib,0,none⟩) n n)∧wr.cell? ⟨pq,0,none⟩=some (.slice (some ⟨pb,0,none⟩) n n)∧iq<wr.heap.size∧pq<wr.heap.size∧ib<wr.heap.size∧pb<wr.heap.size:=
 ⟨by simp [World.cell?,h.SH],by simp [World.cell?,h.MB],(Bl.1 h.SH).1,(Bl.1 h.MB).1,(h.ri.lt ib rfl).2,(h.rp.lt pb rfl).2⟩
theorem I0.nZ (h:I0 V wr iq ib pq pb n D P) (k:Nat) (x:Int):I0 V (wr.setCell ⟨ib,k,none⟩ (.int .i64 x)) iq ib pq pb n (D.set k x) P:=by
 have e1:iq≠ib:=Kn h.SH h.ri AP∘fun e=>by rw [e];rfl
 have e2:pq≠ib:=Kn h.MB h.ri AP∘fun e=>by rw [e];rfl
 have r:=(h.ri.stored k (.int .i64 x)).1;rw [TN] at r;exact⟨h.AA.setCell (p:=⟨ib,k,none⟩) (h.ri.lt ib rfl).1 _,by rw [Bb _ _ _ _ e1];exact h.SH,by rw [Bb _ _ _ _ e2];exact h.MB,r,h.rp.kept (Hz wr ib k _) (.inr fun e=>h.ne (by injection e with e;exact e.symm)),h.ne,by simp [h.ld],h.lp⟩
theorem I0.o9 (h:I0 V wr iq ib pq pb n D P) (k:Nat) (x:Int):I0 V (wr.setCell ⟨pb,k,none⟩ (.int .i64 x)) iq ib pq pb n D (P.set k x):=by
 have e1:iq≠pb:=Kn h.SH h.rp AP∘fun e=>by rw [e];rfl
 have e2:pq≠pb:=Kn h.MB h.rp AP∘fun e=>by rw [e];rfl
 have r:=(h.rp.stored k (.int .i64 x)).1;rw [TN] at r;exact⟨h.AA.setCell (p:=⟨pb,k,none⟩) (h.rp.lt pb rfl).1 _,by rw [Bb _ _ _ _ e1];exact h.SH,by rw [Bb _ _ _ _ e2];exact h.MB,h.ri.kept (Hz wr pb k _) (.inr fun e=>h.ne (by injection e with e)),r,h.ne,h.ld,by simp [h.lp]⟩
end
def Hs (n k:Nat):List Int:=(List.range n).map fun i=>if i<k then -1 else 0
theorem gi (n:Nat):Hs n 0=List.replicate n 0:=by
 apply KC
 ·simp [Hs]
 ·intro i h1 h2;simp [Hs]
theorem vP (n:Nat):Hs n n=List.replicate n (-1):=by
 apply KC
 ·simp [Hs]
 ·intro i h1 h2
  have:i<n:=by simpa [Hs] using h1
  simp [Hs,this]
theorem vJ (n k:Nat):(Hs n k).set k (-1)=Hs n (k+1):=by
 apply KC
 ·simp [Hs]
 ·intro i h1 h2
  rw [U8];simp only [Hs,UE,Ug];by_cases e:k=i
  ·rw [A9 e,A9 A0]
  ·rw [A6 e]
   by_cases h3:i<k
   ·rw [A9 h3,A9 A0]
   ·rw [A6 h3,A6 A0]
theorem tG {nx:List Int} {p k:Nat} {x:Int}:x∈Ku nx p k↔x=(k:Int)∧(p:Int)∈nx:=by
 unfold Ku;rw [C5];constructor
 ·rintro⟨a,ha,rfl⟩
  have:=Mj.1 ha;exact⟨rfl,by have h2:=JB this.2;rw [←h2];exact this.1⟩
 ·rintro⟨rfl,h⟩
  exact⟨p,Mj.2 ⟨h,by simp⟩,rfl⟩
theorem kL {G:List AU} {k p:Nat} {x:Int}:x∈QU G k p↔∃b,b<k∧x=(b:Int)∧(p:Int)∈(G.getD b ⟨0,0,[]⟩).nx:=by
 unfold QU;rw [TB];constructor
 ·rintro⟨b,hb,h⟩
  obtain⟨h1,h2⟩:=tG.1 h;exact⟨b,Gp.1 hb,h1,h2⟩
 ·rintro⟨b,hb,h1,h2⟩
  exact⟨b,Gp.2 hb,tG.2 ⟨h1,h2⟩⟩
def Ck (P:List (List Int)) (b:Nat):List Nat:=(P.getD b []).map Int.toNat
theorem bF {G:List AU} {P:List (List Int)} (hV:Dm G P) {b p:Nat} (hb:b<G.length):(p∈Ck P b↔p<G.length∧b∈Aa G p)∧(∀x∈P.getD b [],0≤x∧x<(G.length:Int)):=by
 have hP:P.getD b []=QU G G.length b:=by
  rw [←hV.prev,List.getD,D8,FI hb];simp [J6,Ku]
 have hnn:∀q,q<G.length→∀x∈(G.getD q ⟨0,0,[]⟩).nx,0≤x:=fun q hq x hx=>by
  obtain⟨z,hz⟩:=hV.ok;have hx2:G[q]?=some G[q]:=Ab hq;rw [List.getD,hx2] at hx;obtain⟨e,he⟩:=hz.each _ (Bj hx2);exact (he.nx x hx).1
 unfold Ck Aa;rw [hP];refine⟨⟨fun h=>?_,fun ⟨h1,h2⟩=>?_⟩,fun x hx=>?_⟩
 ·obtain⟨x,hx,rfl⟩:=C5.1 h
  obtain⟨q,hq,rfl,h2⟩:=kL.1 hx;rw [Cu];exact⟨hq,C5.2 ⟨_,h2,Cu b⟩⟩
 ·obtain⟨x,hx,rfl⟩:=C5.1 h2
  have:=hnn p h1 x hx;exact C5.2 ⟨(p:Int),kL.2 ⟨p,h1,rfl,by rw [PN this];exact hx⟩,Cu p⟩
 ·obtain⟨q,hq,rfl,_⟩:=kL.1 hx
  omega
theorem atN (g m c:Nat) (w:World):(binOp .eql 38 (.slice (some ⟨g,0,none⟩) m c) (.slice none 0 0)).run Tryz.prog w=.ok (.bool false) w:=by kernel_rfl
theorem cN {w:World} {g m cap k:Nat} {l:List Int} (h:Ints w (.slice (some ⟨g,0,none⟩) m cap) l) (hk:k<l.length):l.length=m∧g<w.heap.size∧w.cell? ⟨g,k,none⟩=some (.int .i64 (l.getD k 0)):=by
 obtain⟨A,cap',hv,_,_,h4⟩:=h;cases hv;obtain⟨b,off,e,hlt,hc⟩:=h4 A0;cases e;have:=hc k hk;rw [Er] at this;exact⟨rfl,hlt,this⟩
theorem iR {l:List Nat} {i b:Nat} (h:l[i]?=some b):(Bg l).getD i 0=(b:Int):=by simp [Bg,List.getD,h]
def Ec (G:List AU) (D:List Int):Prop:=JL G.length (Aa G) (C6 G.length (Aa G)) (Cw G.length (Aa G)) D
theorem oJ (bv pv:Value) (G:List AU) (P:List (List Int)) (w:World) (HG:E7 w bv G) (HP:Dk w pv P) (HV:Dm G P) (hn:G.length≤5000) :
  Calls Tryz.prog 37 #[.agg #[bv,pv]] w fun e w'=>(∃v D,e=.returned v∧Ints w' v D∧Ec G D)∧Below w.heap.size w w':=by
 have HB:=A3 (GB.of HV hn);have hne:0<G.length:=Gk.2 HV.ne;obtain⟨gr,MX⟩:=Nb hne HB.out.lt;have⟨OL,IM⟩:=AQ HV HV.len;obtain⟨A,cap,rfl,hc1,hc2⟩:=HG.slice;obtain⟨PA,B7,rfl,hp1,hp2⟩:=HP.slice;obtain⟨V0,Bq⟩:=A8 (w.alloc (.cells #[.slice A G.length cap,.slice PA P.length B7] 31));obtain⟨gq,ME⟩:∃q,w.heap.size=q:=⟨_,rfl⟩;have b0:Below w.heap.size w V0:=Bq▸(AV _ _).alloc (AH _) _;have k0:V0.heap[gq]?=some (.cells #[.slice A G.length cap,.slice PA P.length B7] 31 (0,0)):=by rw [←Bq,← ME];exact AY _ _
 have y0:V0.cell? ⟨gq,0,none⟩=some (.slice A G.length cap):=by simp [World.cell?,k0]
 have y1:V0.cell? ⟨gq,1,none⟩=some (.slice PA P.length B7):=by simp [World.cell?,k0]
 have s0:gq<V0.heap.size:=(Bl.1 k0).1;have HO:=A3 (pY _ _ G P V0 (HG.below b0) (HP.below b0) HV hn);obtain⟨ord,ho⟩:∃o,C6 G.length (Aa G)=o:=⟨_,rfl⟩;obtain⟨pos,Km⟩:∃o,Cw G.length (Aa G)=o:=⟨_,rfl⟩;have HT:=A3 (show ∀D,JL G.length (Aa G) ord pos D→Ec G D from fun D h=>by unfold Ec;rw [ho,Km];exact h);rw [ho,Km] at gr;rw [ho] at HO MX;have⟨EG,B0,Tw,K0⟩:=CU gr b0 (HP.below b0) k0;have Ot:ord.length≤G.length:=Pz MX gr.lt;have ho0:0<ord.length:=(Bc.1 gr.z).1;clear HG HP HV b0 k0 hc1 hc2 hp1 gr ho Km MX;obtain⟨m,hm⟩:=A8 ord.length;rw [hm] at HO Ot ho0;have HM:=A3 hm;clear hm;have hnil:=atN;go_enter Tryz.func37,Tryz.ntmps37;go_upto_region 4 with (go_at_call 36;refine HO.out.mono ?_;rintro e V ⟨⟨og,Pu,rfl,Ih,-⟩,LZ⟩);have Sl:=A3 Ih;have hcm:m≤Pu:=by
  obtain⟨A',cap',e1,e2,_⟩:=Ih;cases e1;exact e2
 have b1:Below w.heap.size w V:=B0.out.trans (LZ.mono B0.out.size);have v0:V.cell? ⟨gq,0,none⟩=some (.slice A G.length cap):=(LZ.cell (p:=⟨gq,0,none⟩) s0).trans y0;have v1:V.cell? ⟨gq,1,none⟩=some (.slice PA P.length B7):=(LZ.cell (p:=⟨gq,1,none⟩) s0).trans y1;have sg:gq<V.heap.size:=by have:=LZ.size;omega
 have⟨HPV,B1⟩:=AQ (Tw.out.below LZ) b1;clear Ih LZ y0 y1 b1 HO s0 Bq K0;obtain⟨iI,Ef,Es,EN,FN⟩:=Dp Oy;obtain⟨U1,lm,lT,gr1⟩:=Qb (P:=Tryz.prog) V V.heap.size 38 3 iI (.int .i64 0) 1 JJ Ef Es EN .i64 .i64 G.length Xa CJ (AH _);rw [N6,show (Value.int .i64 0).cells=#[Value.int .i64 0] from rfl,Qs] at lT;obtain⟨ib,hib⟩:∃q,V.heap.size=q:=⟨_,rfl⟩;have Lr:=A3 lT;rw [hib] at lm;have⟨HIB,JF⟩:=AQ hib gr1;clear lT gr1 hib hnil;go_upto_region 5 with fail;obtain⟨iq,hiq⟩:∃q,U1.heap.size=q:=⟨_,rfl⟩;obtain⟨V2,hV2⟩:∃V,U1.alloc (.cells #[.slice (some ⟨ib,0,none⟩) G.length G.length] 38)=V:=⟨_,rfl⟩;rw [hV2,hiq];have g1:=JF.out.size;have bV2:Below V.heap.size V V2:=hV2▸((AV _ _).grown JF.out (AH _) (fun k hk=>by cases hk)).alloc A0 _;have rZ:V2.heap[iq]?=some (.cells #[.slice (some ⟨ib,0,none⟩) G.length G.length] 38 (0,0)):=by rw [←hiq,← hV2];exact AY _ _
 have ri2:=hV2▸Lr.out.alloc (.cells #[.slice (some ⟨ib,0,none⟩) G.length G.length] 38);have u0:V2.cell? ⟨gq,0,none⟩=some (.slice A G.length cap):=(bV2.cell (p:=⟨gq,0,none⟩) sg).trans v0;obtain⟨U3,lm3,D7,gr3⟩:=Qb (P:=Tryz.prog) V2 V.heap.size 38 3 iI (.int .i64 0) 1 JJ Ef Es EN .i64 .i64 G.length Xa CJ bV2.size;rw [N6,show (Value.int .i64 0).cells=#[Value.int .i64 0] from rfl,Qs] at D7;obtain⟨pb,hpb⟩:∃q,V2.heap.size=q:=⟨_,rfl⟩;have IV:=A3 D7;rw [hpb] at lm3;have⟨HPB,HG3,RI2,BV2,fA⟩:=FP hpb gr3 ri2 bV2 rZ;clear D7 gr3 ri2 bV2 rZ lm hV2 hiq v0 Lr JF g1 hpb;go_upto_region 6 with fail;obtain⟨pq,hpq⟩:∃q,U3.heap.size=q:=⟨_,rfl⟩;obtain⟨V4,Fv⟩:∃V,U3.alloc (.cells #[.slice (some ⟨pb,0,none⟩) G.length G.length] 38)=V:=⟨_,rfl⟩;rw [Fv,hpq];have g3:=HG3.out.size;have r0:Aq (List.replicate G.length 0)=List.replicate G.length (Value.int .i64 0):=by simp [Aq]
 have hT0:I0 V V4 iq ib pq pb G.length (Hs G.length 0) (Hs G.length 0):=by
  have siq:iq<V2.heap.size:=(Bl.1 fA.out).1;have sib:ib<V2.heap.size:=by
   have:=(RI2.out.lt _ rfl).2;rw [HIB.out] at this;exact this
  obtain rfl:=HIB.out;obtain rfl:=HPB.out;refine⟨Fv▸(BV2.out.grown HG3.out BV2.out.size (fun k hk=>by cases hk)).alloc (by have:=BV2.out.size;omega) _,?_,by rw [←hpq,← Fv];exact AY _ _,?_,?_,by omega,by simp [Hs],by simp [Hs]⟩
  ·rw [←Fv,Bv _ _ A0]
   exact (HG3.out.block iq siq AR).trans fA.out
  ·rw [gi,r0,← Fv]
   exact (RI2.out.kept HG3.out (.inr (by simp [Value.ownBlock]))).alloc _
  ·rw [gi,r0,← Fv]
   exact IV.out.alloc _
 have HT0:=A3 hT0;have c0:=hT0.cells.1;have c1:=hT0.cells.2.2.1;clear lm3 Fv hpq hT0 IV HG3 RI2 BV2 fA u0 g3 r0 Ef Es EN FN iI;go_upto_region 7 with fail;go_loopw [30] (fun a30 wr=>∃k:Nat,k≤G.length∧a30=.int .i64 (k:Int)∧I0 V wr iq ib pq pb G.length (Hs G.length k) (Hs G.length k)) (fun a30 _=>G.length - (intOf a30).toNat);case atStart=>exact⟨0,Ca _,rfl,HT0.out⟩
 case round=>
  obtain⟨k,hk,rfl,hT⟩:=hrel;obtain⟨t1,t2,t3,t4,t5,t6⟩:=hT.cells;by_cases hlt:k<G.length
  ·have dl:decide ((k:Int)<(G.length:Int))=true:=Ac A0
   have i1:(k:Int)<(G.length:Int):=by omega
   have x1:=Mq hT.ri hT.ld hlt;have x2:=hT.ri.frozenAt k;have h1:=hT.nZ k (-1);have z1:=h1.cells;have y1:=Mq h1.rp h1.lp hlt;have y2:=h1.rp.frozenAt k;have h2:=h1.o9 k (-1);rw [vJ] at h2;have H2:=A3 h2;have z2:=z1.2.1;have z3:=z1.2.2.2.1;clear hT HT0 c0 c1 h1 h2 z1;obtain⟨X,hX⟩:=A8 (wr.setCell ⟨ib,k,none⟩ (.int .i64 (-1)));rw [hX] at y1 y2 z2 z3 H2;go_upto_region 10 with fail;clear x1 x2 t1 t2 t3 t4 t5 t6 hX;go_wp2_with fail;go_roundw;case rel=>exact⟨k+1,by omega,by go_num,H2.out⟩
   case measure=>exact Ai
  ·obtain rfl:k=G.length:=by omega
   have dl:decide ((G.length:Int)<(G.length:Int))=false:=by simp
   rw [vP] at hT;have HT1:=A3 (show I0 V wr iq ib pq pb G.length (List.replicate G.length (-1)) (Hr G.length ord pos 0) by rw [wN];exact hT);clear hT HT0 c0 c1 t1 t2 t3 t4 t5 t6;go_upto_region 13 with fail;go_loopw [42] (fun a42 wr=>∃i:Nat,i≤m∧a42=.int .i64 (i:Int)∧I0 V wr iq ib pq pb G.length (List.replicate G.length (-1)) (Hr G.length ord pos i)) (fun a42 _=>m - (intOf a42).toNat);case atStart=>exact⟨0,Ca _,rfl,HT1.out⟩
   case round=>
    obtain⟨i,hi,rfl,hT⟩:=hrel;obtain⟨t1,t2,t3,t4,t5,t6⟩:=hT.cells;by_cases hlt:i<m
    ·have dl:decide ((i:Int)<(m:Int))=true:=Ac A0
     obtain⟨b,hb⟩:∃b,ord[i]?=some b:=⟨_,Ab Xk⟩;have DC:=EG.out.lt b (Bj hb);have oc:wr.cell? ⟨og,i,none⟩=some (.int .i64 (b:Int)):=by
      obtain⟨_,h1,h2⟩:=cN Sl.out (k:=i) (by rw [Bg,FQ,HM.out];exact hlt);rw [iR hb] at h2;exact (hT.AA.cell (p:=⟨og,i,none⟩) h1).trans h2
     have i1:(b:Int)<(G.length:Int):=by omega
     have x1:=Mq hT.rp hT.lp DC;have x2:=hT.rp.frozenAt b;have h1:=hT.o9 b (i:Int);rw [qV EG.out hb] at h1;have H1:=A3 h1;clear hT HT1 h1 hb;go_wp2_with fail;go_roundw;case rel=>exact⟨i+1,by omega,by go_num,H1.out⟩
     case measure=>exact Ai
    ·obtain rfl:m=i:=by omega
     have dl:decide ((m:Int)<(m:Int))=false:=by simp
     rw [←HM.out] at hT;have HT2:=A3 hT;clear hT HT1 t1 t2 t3 t4 t5 t6;go_upto_region 19 with fail;go_loopg [10] (G.length+2) (fun gk a10 wr=>∃(k:Nat) (D:List Int),I0 V wr iq ib pq pb G.length D (Hr G.length ord pos ord.length)∧((a10=.bool true∧gk+k=G.length+2∧k≤G.length+1∧Gb G.length (Aa G) ord pos k 1 D false)∨(a10=.bool false∧gk=0∧JL G.length (Aa G) ord pos D)));case atStart=>exact⟨0,_,HT2.out,.inl ⟨rfl,rfl,by omega,Gb.init EG.out⟩⟩
     case round=>
      obtain⟨k,D,hT,h⟩:=hrel;obtain⟨t1,t2,t3,t4,t5,t6⟩:=hT.cells;rcases h with⟨rfl,Ov,hk,hP⟩|⟨rfl,-,hI⟩
      ·have WT:=A3 hT
       have HP3:=A3 hP;have hm1:(1:Int)≤(m:Int):=by omega
       clear hT hP HT2 t1 t2 t3 t4 t5 t6;by_cases hoc:Pu=1
       ·subst hoc
        go_upto_region 22 with fail;go_loopw [10,57] (fun a10 a57 wr=>∃(i:Nat) (D:List Int) (ch:Bool),i≤m - 1∧a57=.int .i64 (i:Int)∧a10=.bool ch∧I0 V wr iq ib pq pb G.length D (Hr G.length ord pos ord.length)∧Gb G.length (Aa G) ord pos k (i+1) D ch) (fun _ a57 _=>m - 1 - (intOf a57).toNat);case atStart=>exact⟨0,D,false,Ca _,rfl,rfl,WT.out,HP3.out⟩
        case round=>
         clear WT HP3 D;obtain⟨i,D,ch,hi,rfl,rfl,hT,hP⟩:=hrel;obtain⟨t1,t2,t3,t4,t5,t6⟩:=hT.cells;obtain rfl:i=m - 1:=by omega
         have dl:decide (((m - 1:Nat):Int)<(m:Int) - 1)=false:=Ad A0;have Ma:=A3 hT;have HP5:=A3 (show Gb G.length (Aa G) ord pos k ord.length D ch by have:=hP;rwa [show m - 1+1=ord.length by rw [HM.out];omega] at this);clear hT hP t1 t2 t3 t4 t5 t6;rcases ch with _|_
         ·have HDN:=A3 (HP5.out.done EG.out)
          go_wp2_with fail
          go_roundg 0
          case measure=>omega
          case rel=>exact⟨k,D,Ma.out,.inr ⟨rfl,rfl,HDN.out⟩⟩
         ·obtain⟨hkn,BK⟩:=HP5.out.next EG.out
          have ER:=A3 BK;clear BK;go_wp2_with fail
          go_roundg (G.length+2 - (k+1))
          case measure=>omega
          case rel=>exact⟨k+1,D,Ma.out,.inl ⟨rfl,by omega,by omega,ER.out⟩⟩
       go_upto_region 22 with fail;go_loopw [10,57] (fun a10 a57 wr=>∃(i:Nat) (D:List Int) (ch:Bool),i≤m - 1∧a57=.int .i64 (i:Int)∧a10=.bool ch∧I0 V wr iq ib pq pb G.length D (Hr G.length ord pos ord.length)∧Gb G.length (Aa G) ord pos k (i+1) D ch) (fun _ a57 _=>m - 1 - (intOf a57).toNat);case atStart=>exact⟨0,D,false,Ca _,rfl,rfl,WT.out,HP3.out⟩
       case round=>
        clear WT HP3 D;obtain⟨i,D,ch,hi,rfl,rfl,hT,hP⟩:=hrel;obtain⟨t1,t2,t3,t4,t5,t6⟩:=hT.cells;have hsz:=hT.AA.size;by_cases hlt:i<m - 1
        ·have dl:decide ((i:Int)<(m:Int) - 1)=true:=Ac A0
         have di1:(i:Int)+1<(m:Int):=by omega
         obtain⟨b,hb⟩:∃b,ord[i+1]?=some b:=⟨_,Ab (by rw [HM.out];omega)⟩;have TP:=Bj hb;have DC:=EG.out.lt b TP;have hpb:=EG.out.at_ _ _ hb;have hb0:b≠0:=by rintro rfl;rw [EG.out.WM] at hpb;omega
         have oc:wr.cell? ⟨og,1+i,none⟩=some (.int .i64 (b:Int)):=by
          obtain⟨_,h1,h2⟩:=cN Sl.out (k:=i+1) (by rw [Bg,FQ,HM.out];omega);rw [iR hb] at h2;rw [TT 1 i];exact (hT.AA.cell (p:=⟨og,i+1,none⟩) h1).trans h2
         have sog:og<wr.heap.size:=by
          obtain⟨_,h1,h2⟩:=cN Sl.out (k:=i+1) (by rw [Bg,FQ,HM.out];omega);omega
         have g1:wr.cell? ⟨gq,1,none⟩=some (.slice PA P.length B7):=(hT.AA.cell (p:=⟨gq,1,none⟩) sg).trans v1;have sgw:gq<wr.heap.size:=by omega
         obtain⟨pl,hpl⟩:∃l,P.getD b []=l:=⟨_,rfl⟩;obtain⟨pk,po,XV,spk,lv,pc1,hlv⟩:∃pk po,PA=some ⟨pk,po,none⟩∧pk<V.heap.size∧∃lv,V.cell? ⟨pk,po+b,none⟩=some lv∧Ints V lv pl:=by
          obtain⟨_,_,e1,_,_,e4⟩:=HPV.out;cases e1;have ZR:b<P.length:=by rw [IM.out];exact DC
          obtain⟨pk,po,e5,e6,e7⟩:=e4 A0;obtain⟨lv,e8,e9⟩:=e7 b _ (Ab ZR);refine⟨pk,po,e5,e6,lv,e8,?_⟩;rw [←hpl,List.getD,Ab ZR];exact e9
         subst XV;obtain⟨LA,Sc,hle,hl1,hl2⟩:=hlv.slice;subst hle;have pc2:wr.cell? ⟨pk,po+b,none⟩=some (.slice LA pl.length Sc):=(hT.AA.cell (p:=⟨pk,po+b,none⟩) spk).trans pc1;have spw:pk<wr.heap.size:=by omega
         have ibP:(b:Int)<(P.length:Int):=by rw [IM.out];omega
         have⟨HLV,ZJ,TF,HT4,HP4,Vk⟩:=Lt hlv (fun p=>bF (p:=p) OL.out DC) hpl hT hP (Eg TP (Eg hpb hb0));clear hT hP hb TP hpb hb0 hlv pc1 hpl;go_upto_region 26 with fail;clear oc g1 pc2 t1 t2 dl;go_loopw [13,67] (fun a13 a67 wr=>∃(j:Nat) (next:Int),j≤pl.length∧a67=.int .i64 (j:Int)∧a13=.int .i64 next∧Np ord D ((Ck P b).take j) next∧I0 V wr iq ib pq pb G.length D (Hr G.length ord pos ord.length)) (fun _ a67 _=>pl.length - (intOf a67).toNat);case atStart=>exact⟨0,-1,Ca _,rfl,rfl,Np.nil,HT4.out⟩
         case round=>
          clear HT4 t3 t4 t5 t6 hsz sog sgw spw;obtain⟨j,next,hj,rfl,rfl,hN,hT⟩:=hrel;obtain⟨t1,t2,t3,t4,t5,t6⟩:=hT.cells;have⟨HN,Ma⟩:=AQ hN hT;by_cases hlt2:j<pl.length
          ·obtain⟨pv0,lb,lo,hs,TE,Z8,lc⟩:=HLV.out.at_ hT.AA hlt2
           subst TE;have hpv:=(ZJ.out 0).2 pv0 (by rw [TF.out];exact Bj hs);obtain⟨p,rfl⟩:∃p:Nat,pv0=(p:Int):=⟨pv0.toNat,by omega⟩;have I3:p<G.length:=by omega
           have Dx:(Ck P b).take (j+1)=(Ck P b).take j++[p]:=by
            have:(Ck P b)[j]?=some p:=by unfold Ck;rw [TF.out,D8,hs];rfl
            rw [I6,this];rfl
           have dl2:decide ((j:Int)<(pl.length:Int))=true:=Ac A0;have xd:=Mq hT.ri hT.ld I3;obtain⟨dp,hdp⟩:∃d,D.getD p (-1)=d:=⟨_,rfl⟩;rw [hdp] at xd;have ip1:(p:Int)<(G.length:Int):=by omega
           by_cases MZ:Ce D p
           ·have Km:=HP4.out.ti.tR EG.out MZ
            have sN:p=0∨(¬p=0∧0≤dp):=by
             unfold Ce at MZ;rw [hdp] at MZ;omega
            by_cases hnn:next<0
            ·have HR:=A3 (show Np ord D ((Ck P b).take (j+1)) (p:Int) by rw [Dx];exact hN.first hnn MZ Km)
             have dn:decide (next<0)=true:=Ac hnn;clear hN hT MZ Km Dx hdp hs hpv;rcases sN with h0|⟨h0,h1⟩
             ·have dz:((p:Int) != 0)=false:=by simp;omega
              clear h0;go_wp2_with fail;go_roundw;case rel=>exact⟨j+1,(p:Int),by omega,by go_num,rfl,HR.out,Ma.out⟩
              case measure=>exact Ai
             ·have dz:((p:Int) != 0)=true:=by simp;omega
              have dd:decide (dp<0)=false:=Ad A0;clear h0;go_wp2_with fail;go_roundw;case rel=>exact⟨j+1,(p:Int),by omega,by go_num,rfl,HR.out,Ma.out⟩
              case measure=>exact Ai
            ·obtain⟨c,rfl,PI,ZB⟩:=hN.cur A0
             have dn:decide ((c:Int)<0)=false:=Ad hnn;have wI:=A3 (zP EG.out HP4.out.ti hn pq pb iq ib c p wr t2 t1 (fun k hk=>by
              have h1:=Mq hT.rp hT.lp (EG.out.lt k hk);rw [aH EG.out (EG.out.lt k hk),A9 hk] at h1
              exact h1) (fun k hk=>Mq hT.ri hT.ld hk) t4 t6 t3 t5 PI ZB Km MZ)
             have HJ:=A3 (show ∀d:Nat,d∈ord→Ce D d→(∀x,Ae D d x↔Ae D c x∧Ae D p x)→Np ord D ((Ck P b).take (j+1)) (d:Int) from fun d h1 h2 h3=>by rw [Dx];exact hN.join A0 MZ h1 h2 (by rw [Cu];exact h3));clear hN hT MZ Km Dx hdp hs hpv PI ZB hnn;rcases sN with h0|⟨h0,h1⟩
             ·have dz:((p:Int) != 0)=false:=by simp;omega
              clear h0;go_wp2_with (go_at_call 68;refine wI.out.mono ?_;rintro e W9 ⟨d,rfl,hd1,hd2,hd3,hb9⟩);go_roundw;case rel=>exact⟨j+1,(d:Int),by omega,by go_num,rfl,HJ.out d hd1 hd2 hd3,Ma.out.below hb9⟩
              case measure=>exact Ai
             ·have dz:((p:Int) != 0)=true:=by simp;omega
              have dd:decide (dp<0)=false:=Ad A0;clear h0;go_wp2_with (go_at_call 68;refine wI.out.mono ?_;rintro e W9 ⟨d,rfl,hd1,hd2,hd3,hb9⟩);go_roundw;case rel=>exact⟨j+1,(d:Int),by omega,by go_num,rfl,HJ.out d hd1 hd2 hd3,Ma.out.below hb9⟩
              case measure=>exact Ai
           ·have hno:¬p=0∧dp<0:=by
             unfold Ce at MZ;rw [hdp] at MZ;omega
            have HR:=A3 (show Np ord D ((Ck P b).take (j+1)) next by rw [Dx];exact hN.skip MZ);have dz:((p:Int) != 0)=true:=by simp;omega
            have dd:decide (dp<0)=true:=Ac hno.2;clear hN hT MZ Dx hdp hs hpv hno;go_wp2_with fail;go_roundw;case rel=>exact⟨j+1,next,by omega,by go_num,rfl,HR.out,Ma.out⟩
            case measure=>exact Ai
          ·obtain rfl:j=pl.length:=by omega
           have dl2:decide ((pl.length:Int)<(pl.length:Int))=false:=by simp
           have hall:(Ck P b).take pl.length=Ck P b:=K8 (by unfold Ck;rw [TF.out,FQ];exact AH _);rw [hall] at hN;obtain⟨TP,hpb,hb0⟩:=Vk.out;obtain⟨c,rfl,hst⟩:=hN.Z9 EG.out (fun q hq hbq=>((ZJ.out q).1).2 ⟨EG.out.lt q hq,hbq⟩) (fun q hq _=>((ZJ.out q).1.1 hq).2) (fun q hq=>HP4.out.ti.tR EG.out hq) TP hb0 (fun q hq hlt=>HP4.out.prev q hq A0);have xd:=Mq hT.ri hT.ld DC;have xf:=hT.ri.frozenAt b;have ib1:(b:Int)<(G.length:Int):=by omega
           obtain⟨db,hdb⟩:∃d,D.getD b (-1)=d:=⟨_,rfl⟩;have hP5:Gb G.length (Aa G) ord pos k (pos b) D ch:=by rw [hpb];exact HP4.out
           by_cases hsame:db=(c:Int)
           ·have HR:=A3 (show Gb G.length (Aa G) ord pos k (i+1+1) D ch by rw [←hpb];exact hP5.same EG.out hst (hdb.trans hsame))
            rw [hdb,hsame] at xd;have dq:((c:Int) != (c:Int))=false:=by simp
            clear hN hT hst hP5 hdb hsame TP hpb hb0 hall;go_wp2_with fail;go_roundw;case rel=>exact⟨i+1,D,ch,by omega,by go_num,rfl,Ma.out,HR.out⟩
            case measure=>exact Ai
           ·have HR:=A3 (show Gb G.length (Aa G) ord pos k (i+1+1) (D.set b (c:Int)) true by rw [←hpb];exact hP5.change EG.out hst (by rw [hdb];exact hsame))
            have HT6:=A3 (hT.nZ b (c:Int));rw [hdb] at xd;have dq:((c:Int) != db)=true:=by simp;omega
            clear hN hT hst hP5 hdb hsame TP hpb hb0 hall;go_wp2_with fail;go_roundw;case rel=>exact⟨i+1,D.set b (c:Int),true,by omega,by go_num,rfl,HT6.out,HR.out⟩
            case measure=>exact Ai
        ·obtain rfl:i=m - 1:=by omega
         have dl:decide (((m - 1:Nat):Int)<(m:Int) - 1)=false:=Ad A0;have Ma:=A3 hT;have HP5:=A3 (show Gb G.length (Aa G) ord pos k ord.length D ch by have:=hP;rwa [show m - 1+1=ord.length by rw [HM.out];omega] at this);clear hT hP t1 t2 t3 t4 t5 t6;rcases ch with _|_
         ·have HDN:=A3 (HP5.out.done EG.out)
          go_wp2_with fail
          go_roundg 0
          case measure=>omega
          case rel=>exact⟨k,D,Ma.out,.inr ⟨rfl,rfl,HDN.out⟩⟩
         ·obtain⟨hkn,BK⟩:=HP5.out.next EG.out
          have ER:=A3 BK;clear BK;go_wp2_with fail
          go_roundg (G.length+2 - (k+1))
          case measure=>omega
          case rel=>exact⟨k+1,D,Ma.out,.inl ⟨rfl,by omega,by omega,ER.out⟩⟩
      ·have HT6:=A3 hT
       have Gs:=A3 (HT.out D hI);clear hT hI HT2;go_wp2_with fail;go_ret;exact⟨⟨_,D,rfl,by have:=HT6.out.ri;rw [←HT6.out.ld] at this ⊢;exact NT this,Gs.out⟩,B1.out.trans (HT6.out.AA.mono B1.out.size)⟩
end
theorem Ec.facts {G:List AU} {P:List (List Int)} {D:List Int} (hV:Dm G P) (hn:G.length≤5000) (h:Ec G D):∃ord pos,ord=C6 G.length (Aa G)∧pos=Cw G.length (Aa G)∧Gr G.length (Aa G) ord pos∧JL G.length (Aa G) ord pos D∧ord.length≤G.length:=by
 obtain⟨gr,MX⟩:=Nb (Gk.2 hV.ne) (GB.of hV hn).lt;exact⟨_,_,rfl,rfl,gr,h,Pz MX gr.lt⟩
theorem aaI {n:Nat} {nx:Nat→List Nat} {ord:List Nat} {pos:Nat→Nat} {D:List Int} (gr:Gr n nx ord pos) (it:JL n nx ord pos D) (Ot:ord.length≤n) (hn5:n≤5000) (v:Value) (a b:Nat) (w:World) (HI:Ints w v D) (ha:a<n) (hb:b∈ord) :
  Calls Tryz.prog 39 #[v,.int .i64 (a:Int),.int .i64 (b:Int)] w fun e w'=>(∃r:Bool,e=.returned (.bool r)∧(r=true↔Ae D b a))∧Below w.heap.size w w':=by
 obtain⟨A,cap,rfl,hc1,hc2⟩:=HI.slice;have PK:=it.ti.len;rw [PK] at HI hc1 ⊢;have HLD:=A3 PK;obtain⟨q,off,rfl,hq,hc⟩:∃q off,A=some ⟨q,off,none⟩∧q<w.heap.size∧∀k,k<n→w.cell? ⟨q,off+k,none⟩=some (.int .i64 (D.getD k (-1))):=by
  obtain⟨_,_,e1,_,_,e4⟩:=HI;cases e1;obtain⟨q,off,e5,e6,e7⟩:=e4 (by have:=gr.n0;omega);refine⟨q,off,e5,e6,fun k hk=>?_⟩;rw [e7 k (by rw [PK];exact hk)];simp [List.getD,Ab (show k<D.length by rw [PK];exact hk)]
 have⟨GR,IT,HC,HBO⟩:=CU gr it hc hb;have hpb:pos b<n:=by have:=(Bc.1 (gr.idx hb)).1;omega
 have d1:decide ((n:Int)≤(a:Int))=false:=Ad A0;have d2:decide (n≤a)=false:=Ad A0;clear gr it hc hb HI PK;go_enter Tryz.func39,Tryz.ntmps39;go_upto_region 4 with fail;clear d1 d2;go_loopw [2,17] (fun a2 a17 wr=>∃k:Nat,k≤n∧a17=.int .i64 (k:Int)∧Below w.heap.size w wr∧((a2=.int .i64 (-1)∧¬Ae D b a)∨∃x:Nat,a2=.int .i64 (x:Int)∧x∈ord∧pos x+k≤pos b∧(Ae D b a↔Ae D x a))) (fun _ a17 _=>n - (intOf a17).toNat);case atStart=>exact⟨0,Ca _,rfl,AV _ _,.inr ⟨b,rfl,HBO.out,AH _,Iff.rfl⟩⟩
 case round=>
  obtain⟨k,hk,rfl,Am,h⟩:=hrel;have HB:=A3 Am;have hsz:=Am.size;by_cases hlt:k<n
  ·have dl:decide ((k:Int)<(n:Int))=true:=Ac A0
   rcases h with⟨rfl,hno⟩|⟨x,rfl,hx,hp,hiff⟩
   ·clear Am
    have D6:=A3 hno;clear hno;go_wp2_with fail;go_ret;exact⟨⟨false,rfl,by simp [D6.out]⟩,HB.out⟩
   ·have hxn:=GR.out.lt x hx
    have d3:decide ((n:Int)≤(x:Int))=false:=Ad A0;have d4:decide (n≤x)=false:=Ad A0;have i1:(x:Int)<(n:Int):=by omega
    have⟨HIF,HX⟩:=AQ hiff hx;by_cases Vy:a=x
    ·have e1:((a:Int)==(x:Int))=true:=by simp [Vy]
     have HR:=A3 (show Ae D b a from hiff.2 (by rw [Vy];exact .self _));clear Am hiff hx Vy hp;go_wp2_with fail;go_ret;exact⟨⟨true,rfl,by simp [HR.out]⟩,HB.out⟩
    ·have e1:((a:Int)==(x:Int))=false:=by simp;omega
     have c1:wr.cell? ⟨q,off+x,none⟩=some (.int .i64 (D.getD x (-1))):=(Am.cell (p:=⟨q,off+x,none⟩) hq).trans (HC.out x hxn);obtain⟨d,hd⟩:=A8 (D.getD x (-1));rw [hd] at c1;have HN:=A3 (show (d = -1∧¬Ae D b a)∨∃y:Nat,d=(y:Int)∧y∈ord∧pos y+(k+1)≤pos b∧(Ae D b a↔Ae D y a) by
      by_cases h0:0≤d
      ·obtain⟨y,rfl⟩:∃y:Nat,d=(y:Int):=⟨d.toNat,by omega⟩
       obtain⟨u1,u2,u3,u4,u5⟩:=IT.out.ti.up x y hd;refine .inr ⟨y,rfl,u2,by omega,?_⟩;rw [hiff,Ae.step hd];exact⟨fun h=>h.resolve_left Vy,.inr⟩
      ·have:=IT.out.ti.ge x
       refine .inl ⟨by omega,fun h=>?_⟩;cases hiff.1 h with
       | self=>exact Vy rfl
       | up h1 _=>omega)
     clear Am hiff hx Vy hp hd;go_wp2_with fail;go_roundw;case rel=>
      refine⟨k+1,by omega,by go_num,HB.out,?_⟩;rcases HN.out with⟨e,h⟩|⟨y,e,h⟩
      ·exact .inl ⟨by rw [e],h⟩
      ·exact .inr ⟨y,by rw [e],h⟩
     case measure=>exact Ai
  ·obtain rfl:n=k:=by omega
   have dl:decide ((n:Int)<(n:Int))=false:=by simp
   have HR:=A3 (show ¬Ae D b a by
    rcases h with⟨_,hno⟩|⟨x,_,_,hp,_⟩
    ·exact hno
    ·omega)
   clear h Am;go_wp2_with fail;go_ret;exact⟨⟨false,rfl,by simp [HR.out]⟩,HB.out⟩
def ar1 (e:Ending):Prop:=∃r:Bool,e=.returned (.bool r)
def asg (e:Ending):Prop:=∃r:Int,e=.returned (.int .i64 r)
theorem asa (u v:Value) (l1 l2:List Int) (w:World) (H1:Ints w u l1) (H2:Ints w v l2) :
  Calls Tryz.prog 74 #[u,v] w fun e w'=>ar1 e∧Below w.heap.size w w':=by
 obtain⟨A,cap,rfl,hc1,hc2⟩:=H1.slice;obtain⟨B,GF,rfl,hd1,hd2⟩:=H2.slice;have⟨HA,HB⟩:=AQ H1 H2;clear H1 H2;obtain⟨n1,hn1⟩:∃n,l1.length=n:=⟨_,rfl⟩;obtain⟨n2,hn2⟩:∃n,l2.length=n:=⟨_,rfl⟩;rw [hn1] at hc1 ⊢;rw [hn2] at hd1 ⊢;have⟨WY,Ln⟩:=AQ hn1 hn2;clear hn1 hn2;go_enter Tryz.func74,Tryz.ntmps74;go_upto_region 3 with fail;go_loopw [5,10] (fun a5 a10 wr=>∃k i:Nat,k≤n2∧i≤n1∧a10=.int .i64 (k:Int)∧a5=.int .i64 (i:Int)∧Below w.heap.size w wr) (fun _ a10 _=>n2 - (intOf a10).toNat);case atStart=>exact⟨0,0,Ca _,Ca _,rfl,rfl,AV _ _⟩
 case round=>
  obtain⟨k,i0,hk,hi0,rfl,rfl,hb⟩:=hrel;have HW:=A3 hb;by_cases hlt:k<n2
  ·have dl:decide ((k:Int)<(n2:Int))=true:=Ac A0
   obtain⟨x,bq,bo,hx,e,sq,c1⟩:=(Ln.out▸HB.out:Ints w (.slice B l2.length GF) l2).at_ hb (j:=k) (by rw [Ln.out];exact hlt);subst e;have sw:bq<wr.heap.size:=by have:=hb.size;omega
   clear hb hx;go_upto_region 5 with fail;clear c1 sw;go_loopw [5] (fun a5 wr=>∃i:Nat,i≤n1∧a5=.int .i64 (i:Int)∧Below w.heap.size w wr) (fun a5 _=>n1 - (intOf a5).toNat);case atStart=>exact⟨i0,hi0,rfl,HW.out⟩
   case round=>
    clear HW hi0;obtain⟨i,hi,rfl,hb⟩:=hrel;have HW:=A3 hb;by_cases hlt2:i<n1
    ·have dl2:decide ((i:Int)<(n1:Int))=true:=Ac A0
     have dl3:((i:Int)==(n1:Int))=false:=Me.2 A0;obtain⟨y,aq,ao,hy,e,sq,c1⟩:=(WY.out▸HA.out:Ints w (.slice A l1.length cap) l1).at_ hb (j:=i) (by rw [WY.out];exact hlt2);subst e;have sw:aq<wr.heap.size:=by have:=hb.size;omega
     clear hb hy;by_cases hyx:y<x
     ·have d4:decide (y<x)=true:=Ac hyx
      go_wp2_with fail;go_roundw;case rel=>exact⟨i+1,by omega,by go_num,HW.out⟩
      case measure=>exact Ai
     ·have d4:decide (y<x)=false:=Ad hyx
      by_cases hne:y=x
      ·have d5:(y != x)=false:=by simp [hne]
       go_wp2_with fail;go_roundw;case rel=>exact⟨k+1,i,by omega,hi,by go_num,rfl,HW.out⟩
       case measure=>exact Ai
      ·have d5:(y != x)=true:=by simp [hne]
       go_wp2_with fail;go_ret;exact⟨⟨false,rfl⟩,HW.out⟩
    ·obtain rfl:n1=i:=by omega
     have dl2:decide ((n1:Int)<(n1:Int))=false:=by simp
     have dl3:((n1:Int)==(n1:Int))=true:=by simp
     clear hb;go_wp2_with fail;go_ret;exact⟨⟨false,rfl⟩,HW.out⟩
  ·obtain rfl:n2=k:=by omega
   have dl:decide ((n2:Int)<(n2:Int))=false:=by simp
   clear hb;go_wp2_with fail;go_ret;exact⟨⟨true,rfl⟩,HW.out⟩
end Go.Proofs.YtlmgkipmfgijiaaGreatDoor
