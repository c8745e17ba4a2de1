/-
  What is proved here: parts bCb.
-/
import Derived.Test.YtlmgkipmfgijiaaGreatDoorVa
import Derived.Test.YtlmgkipmfgijiaaGreatDoorVb
import Derived.Maps.AppendAt
import Derived.Laws.OwnMore
import Derived.WalkSmall
import Derived.Deep.CutBlock
import Derived.Deep.DeepCutAuto
import Derived.IntWalk
import Derived.Laws.MakeOwn
import Derived.RangeFuncBox
import Derived.OneCell
namespace Go.Proofs.YtlmgkipmfgijiaaGreatDoor
set_option linter.unusedVariables false
set_option linter.unusedSimpArgs false
set_option maxRecDepth 100000
set_option maxHeartbeats 8000000
open Go.RowKit
section
def Ints (w:World) (v:Value) (l:List Int):Prop:=
 ∃A cap,v=.slice A l.length cap∧l.length≤cap∧cap≤maxLen∧(0<l.length→∃b off,A=some ⟨b,off,none⟩∧b<w.heap.size∧∀i,i<l.length→w.cell? ⟨b,off+i,none⟩=some (.int .i64 (l.getD i 0)))
theorem Ints.below {w w':World} {v:Value} {l:List Int} (h:Ints w v l) (hb:Below w.heap.size w w'):Ints w' v l:=by
 obtain⟨A,cap,h1,h2,h3,h4⟩:=h;refine⟨A,cap,h1,h2,h3,fun h0=>?_⟩;obtain⟨b,off,ha,hlt,hc⟩:=h4 h0;exact⟨b,off,ha,by have:=hb.size;omega,fun i hi=>(hb.cell (p:=⟨b,off+i,none⟩) hlt).trans (hc i hi)⟩
def Ch (i:Ins) (at_:Int):List Int:=if i.op=1 then [] else if i.op=24 then [at_+1+i.AG] else if i.op=22∨i.op=23 then [at_+1,at_+1+i.AG] else [at_+1]
theorem eB (i:Ins) (at_:Int):(Ch i at_).length≤2:=by
 unfold Ch;split
 ·simp
 ·split
  ·simp
  ·split<;>simp
theorem oh (w:World) (a:Int) (t:TypeId):Ints (w.alloc (.cells #[.int .i64 a] t)) (.slice (some ⟨w.heap.size,0,none⟩) 1 1) [a]:=by
 refine⟨_,1,rfl,AH _,by unfold maxLen;omega,fun _=>⟨_,0,rfl,by simp,fun i hi=>?_⟩⟩;obtain rfl:i=0:=by simp at hi;omega
 unfold World.cell?;rw [Ai];rfl
theorem vW (w:World) (a b:Int) (t:TypeId):Ints (w.alloc (.cells #[.int .i64 a,.int .i64 b] t)) (.slice (some ⟨w.heap.size,0,none⟩) 2 2) [a,b]:=by
 refine⟨_,2,rfl,AH _,by unfold maxLen;omega,fun _=>⟨_,0,rfl,by simp,fun i hi=>?_⟩⟩;obtain rfl|rfl:i=0∨i=1:=by simp at hi;omega
 all_goals
  unfold World.cell?;rw [Ai];rfl
theorem Ints.grown {w w':World} {v:Value} {l:List Int} {row:Option Nat} (h:Ints w v l) (hg:w.grownBy w' row) (hne:∀q,v.ownBlock=some q→row≠some q):Ints w' v l:=by
 obtain⟨A,cap,rfl,h2,h3,h4⟩:=h;refine⟨A,cap,rfl,h2,h3,fun h0=>?_⟩;obtain⟨b,off,rfl,hlt,hc⟩:=h4 h0;exact⟨b,off,rfl,by have:=hg.size;omega,fun i hi=>(Df (w:=w) (a:=⟨b,off+i,none⟩) (hg.block b hlt (Ds (hne b rfl)))).trans (hc i hi)⟩
theorem uu (w:World):Ints w (.slice none 0 0) []:=⟨none,0,rfl,AH _,by unfold maxLen;omega,fun h=>by simp at h⟩
theorem mA (i:Ins) (at_:Int) (w:World) (h1:0≤at_) (h2:at_≤1000000) (h3 : -1000000≤i.AG) (h4:i.AG≤1000000) :
  Calls Tryz.prog 33 #[.agg #[.int .u8 i.op,.int .i64 i.a,.int .i64 i.b,.int .i64 i.c,.int .i64 i.AG],.int .i64 at_] w fun e w'=>(∃v,e=.returned v∧Ints w' v (Ch i at_)∧∀q,v.ownBlock=some q→w.heap.size≤q)∧Below w.heap.size w w':=by
 have w1:IntKind.i64.wrap (at_+1)=at_+1:=GN _ A0;have w2:IntKind.i64.wrap (at_+1+i.AG)=at_+1+i.AG:=GN _ A0;have HT:=fun W:World=>vu i at_ W w1 w2;obtain⟨tg,OD⟩:=AA (if DF i.op=true then at_+1+i.AG else 0);rw [OD] at HT;have HG:=A3 OD;clear OD w2;have fin:∀(y:Ext (w.alloc (.cells #[.int .u8 i.op,.int .i64 i.a,.int .i64 i.b,.int .i64 i.c,.int .i64 i.AG] 67))),Below w.heap.size w y.w:=fun y=>Ext.below ((AP _ _).alloc (AH _) _) AO y;have pH:∀(y:Ext (w.alloc (.cells #[.int .u8 i.op,.int .i64 i.a,.int .i64 i.b,.int .i64 i.c,.int .i64 i.AG] 67))) (o:Obj),Below w.heap.size w (y.w.alloc o):=fun y o=>(fin y).alloc ((fin y).size) _;have⟨Ja,R7⟩:=AL fin pH;clear fin pH;obtain⟨op,ia,ib,ic,AG⟩:=i;simp only at HT HG Ja R7 h3 h4 ⊢;have G:=HG.out;by_cases q1:op=1
 ·have d1:(op==1)=true:=by simp [q1]
  have HS:=A3 (show Ch ⟨op,ia,ib,ic,AG⟩ at_=[] by simp [Ch,q1]);clear G q1 HG;go_enter dO,dX;go_wp2_with (go_at_call 62;refine (Calls.ext (HT _)).mono ?_;rintro e w' ⟨rfl,y,rfl⟩);go_ret;rw [HS.out];exact⟨⟨.slice none 0 0,rfl,uu _,fun q hq=>by cases hq⟩,Ja.out y⟩
 ·have d1:(op==1)=false:=by simp [q1]
  by_cases q2:op=24
  ·have d2:(op==24)=true:=by simp [q2]
   have HS:=A3 (show Ch ⟨op,ia,ib,ic,AG⟩ at_=[tg] by rw [←G];simp [Ch,q2,DF]);clear G q1 q2 HG;go_enter dO,dX;go_wp2_with (go_at_call 62;refine (Calls.ext (HT _)).mono ?_;rintro e w' ⟨rfl,y,rfl⟩);go_ret;rw [HS.out];exact⟨⟨.slice (some ⟨y.w.heap.size,0,none⟩) 1 1,rfl,oh _ _ _,fun q hq=>by cases hq;exact (Ja.out y).size⟩,R7.out y _⟩
  ·have d2:(op==24)=false:=by simp [q2]
   by_cases q3:op=22
   ·have d3:(op==22)=true:=by simp [q3]
    have HS:=A3 (show Ch ⟨op,ia,ib,ic,AG⟩ at_=[at_+1,tg] by rw [←G];simp [Ch,q3,DF]);clear G q1 q2 q3 HG;go_enter dO,dX;go_wp2_with (go_at_call 62;refine (Calls.ext (HT _)).mono ?_;rintro e w' ⟨rfl,y,rfl⟩);go_ret;rw [HS.out];exact⟨⟨.slice (some ⟨y.w.heap.size,0,none⟩) 2 2,rfl,vW _ _ _ _,fun q hq=>by cases hq;exact (Ja.out y).size⟩,R7.out y _⟩
   ·have d3:(op==22)=false:=by simp [q3]
    by_cases q4:op=23
    ·have d4:(op==23)=true:=by simp [q4]
     have HS:=A3 (show Ch ⟨op,ia,ib,ic,AG⟩ at_=[at_+1,tg] by rw [←G];simp [Ch,q4,DF]);clear G q1 q2 q3 q4 HG;go_enter dO,dX;go_wp2_with (go_at_call 62;refine (Calls.ext (HT _)).mono ?_;rintro e w' ⟨rfl,y,rfl⟩);go_ret;rw [HS.out];exact⟨⟨.slice (some ⟨y.w.heap.size,0,none⟩) 2 2,rfl,vW _ _ _ _,fun q hq=>by cases hq;exact (Ja.out y).size⟩,R7.out y _⟩
    ·have d4:(op==23)=false:=by simp [q4]
     have HS:=A3 (show Ch ⟨op,ia,ib,ic,AG⟩ at_=[at_+1] by simp [Ch,q1,q2,q3,q4]);clear G q1 q2 q3 q4 HG;go_enter dO,dX;go_wp2_with (go_at_call 62;refine (Calls.ext (HT _)).mono ?_;rintro e w' ⟨rfl,y,rfl⟩);go_ret;rw [HS.out];exact⟨⟨.slice (some ⟨y.w.heap.size,0,none⟩) 1 1,rfl,oh _ _ _,fun q hq=>by cases hq;exact (Ja.out y).size⟩,R7.out y _⟩
theorem T4 (n m:Int) (w:World):Calls Tryz.prog 58 #[.int .i64 n,.int .i64 m] w fun e w'=>e=.returned (.bool (decide (0≤n∧n≤m)))∧w=w':=by
 go_enter Tryz.func58,Tryz.ntmps58
 go_wp2
 all_goals
  go_ret;refine⟨EE ?_,rfl⟩;rename_i h;first|(simp [h];done)|(simp;omega)
theorem od (s:ByteArray) (w:World) (hs:s.size≤maxLen):Calls Tryz.prog 59 #[.string s] w fun e w'=>e=.returned (.bool (decide (1≤s.size∧s.size≤12)))∧w=w':=by
 unfold maxLen at hs;go_enter Tryz.func59,Tryz.ntmps59
 go_wp2
 all_goals
  go_ret;refine⟨EE ?_,rfl⟩;rename_i h;have:(1:Int)≤s.size↔1≤s.size:=by omega
  have:(s.size:Int)≤12↔s.size≤12:=by omega
  first|(simp_all;done)|(simp;omega)
theorem ac6:∀k,k<30→-131072≤GL (fm k) 3∧GG (fm k) 3≤131071:=by decide
theorem mZ (x:Int) (h0:0≤x) : -131072≤(BB x).1.AG∧(BB x).1.AG≤131071:=by
 unfold BB;split
 ·rename_i h
  obtain⟨h1,h2⟩:=h;have hv:CE (Lc x)=true:=by
   unfold encI at h2;split at h2
   ·assumption
   ·simp at h2
  unfold CE at hv;simp only [EY,DK] at hv;obtain⟨v1,⟨v2,v3⟩,v4⟩:=hv;have ho:(Lc x).op=x / 67108864:=ir x _;obtain⟨k,hk⟩:∃k:Nat,x / 67108864=(k:Int):=⟨(x / 67108864).toNat,by omega⟩;rw [ho,hk] at v4;have ar1:k<30:=by omega
  have:=ac6 k ar1;unfold Gm at v4;simp only [Dk] at v4;have e:(Lc x).at_ 3=(Lc x).AG:=rfl;rw [e] at v4;simp only;omega
 ·simp
section
variable (c:Int→Ins) (st en:Int)
def F6 (at_:Int) (p:List Int×Int) (s:Int):List Int×Int:=if st≤s∧s<en then (p.1++[s],p.2) else (p.1,if p.2<0∨at_<p.2 then at_ else p.2)
inductive EO:Int→Prop
 | start:EO st
 | step {a t:Int}:EO a→t∈Ch (c a) a→st≤t→t<en→EO t
theorem EO.range {a:Int} (h:EO c st en a) (hs:st<en):st≤a∧a<en:=by
 cases h with
 | start=>omega
 | step _ _ h1 h2=>exact⟨h1,h2⟩
def MV (a:Int):Prop:=∃t∈Ch (c a) a,¬(st≤t∧t<en)
structure Eb (D W:List Int) (bad:Int):Prop where
 nd:D.Nodup
 dr:∀a∈D,EO c st en a
 wr:∀a∈W,EO c st en a
 cl:∀a∈D,∀t∈Ch (c a) a,st≤t→t<en→t∈D∨t∈W
 s:st∈D∨st∈W
 b:(bad = -1∧∀a∈D,¬MV c st en a)∨(bad∈D∧MV c st en bad∧∀a∈D,MV c st en a→bad≤a)
variable {c st en}
theorem Eb.first:Eb c st en [] [st] (-1):=
 ⟨by simp,by simp,by simpa using EO.start,by simp,by simp,.inl ⟨rfl,by simp⟩⟩
theorem Eb.skip {D W:List Int} {bad a:Int} (h:Eb c st en D (W++[a]) bad) (ha:a∈D):Eb c st en D W bad:=
 ⟨h.nd,h.dr,fun x hx=>h.wr x (by simp [hx]),fun x hx t ht h1 h2=>by
   rcases h.cl x hx t ht h1 h2 with h3|h3
   ·exact .inl h3
   ·rcases CG.1 h3 with h4|h4
    ·exact .inr h4
    ·simp at h4;exact .inl (h4▸ha),by
   rcases h.s with h3|h3
   ·exact .inl h3
   ·rcases CG.1 h3 with h4|h4
    ·exact .inr h4
    ·simp at h4;exact .inl (h4▸ha),h.b⟩
theorem wB (a:Int) (ha:0≤a):∀(l:List Int) (W:List Int) (bad:Int),(bad = -1∨0≤bad)→
  (∀x,x∈(l.foldl (F6 st en a) (W,bad)).1↔x∈W∨(x∈l∧st≤x∧x<en))∧
  ((∀t∈l,st≤t∧t<en)→(l.foldl (F6 st en a) (W,bad)).2=bad)∧
  ((∃t∈l,¬(st≤t∧t<en))→(l.foldl (F6 st en a) (W,bad)).2=if bad<0∨a<bad then a else bad)∧
  (l.foldl (F6 st en a) (W,bad)).1.length≤W.length+l.length:=by
 intro l;induction l with
 | nil=>intro W bad hb;exact⟨by simp,by simp,by simp,by simp⟩
 | cons s l ih=>
  intro W bad hb;rw [Me];by_cases hs:st≤s∧s<en
  ·have e:F6 st en a (W,bad) s=(W++[s],bad):=by unfold F6;rw [AE hs]
   rw [e];obtain⟨i1,i2,i3,i4⟩:=ih (W++[s]) bad hb;refine⟨fun x=>?_,fun h=>i2 (fun t ht=>h t (by simp [ht])),fun ⟨t,ht,hn⟩=>i3 ⟨t,?_,hn⟩,?_⟩
   ·rw [i1]
    constructor
    ·rintro (h|⟨h1,h2⟩)
     ·rcases CG.1 h with h|h
      ·exact .inl h
      ·simp at h;subst h;exact .inr ⟨by simp,hs⟩
     ·exact .inr ⟨by simp [h1],h2⟩
    ·rintro (h|⟨h1,h2⟩)
     ·exact .inl (by simp [h])
     ·rcases Di.1 h1 with rfl|h1
      ·exact .inl AO
      ·exact .inr ⟨h1,h2⟩
   ·rcases Di.1 ht with rfl|ht
    ·exact absurd hs hn
    ·exact ht
   ·simp at i4 ⊢;omega
  ·have e:F6 st en a (W,bad) s=(W,if bad<0∨a<bad then a else bad):=by unfold F6;rw [A9 hs]
   rw [e];obtain⟨i1,i2,i3,i4⟩:=ih W (if bad<0∨a<bad then a else bad) (by split<;>omega);refine⟨fun x=>?_,fun h=>absurd (h s AO) hs,fun _=>?_,?_⟩
   ·rw [i1]
    constructor
    ·rintro (h|⟨h1,h2⟩)
     ·exact .inl h
     ·exact .inr ⟨by simp [h1],h2⟩
    ·rintro (h|⟨h1,h2⟩)
     ·exact .inl h
     ·rcases Di.1 h1 with rfl|h1
      ·exact absurd h2 hs
      ·exact .inr ⟨h1,h2⟩
   ·by_cases hl:∀t∈l,st≤t∧t<en
    ·exact i2 hl
    ·simp only [Classical.not_forall] at hl
     obtain⟨t,ht,hn⟩:=hl;rw [i3 ⟨t,ht,hn⟩];split
     ·rename_i h;split<;>simp
     ·rfl
   ·simp;omega
theorem Eb.push {D W:List Int} {bad a:Int} (h:Eb c st en D (W++[a]) bad) (ha:a∉D) (h0:0≤st) (WI:st<en) :
  Eb c st en (a :: D) ((Ch (c a) a).foldl (F6 st en a) (W,bad)).1 ((Ch (c a) a).foldl (F6 st en a) (W,bad)).2:=by
 have ra:=h.wr a AO;have hr:=ra.range c st en WI;have hbd:bad = -1∨0≤bad:=by
  rcases h.b with h1|h1
  ·exact .inl h1.1
  ·have:=(h.dr bad h1.1).range c st en WI
   omega
 obtain⟨p1,p2,p3,p4⟩:=wB (st:=st) (en:=en) a A0 (Ch (c a) a) W bad hbd;refine⟨by simp [ha,h.nd],fun x hx=>?_,fun x hx=>?_,fun x hx t ht h1 h2=>?_,?_,?_⟩
 ·rcases Di.1 hx with rfl|hx
  ·exact ra
  ·exact h.dr x hx
 ·rcases (p1 x).1 hx with h1|⟨h1,h2,h3⟩
  ·exact h.wr x (by simp [h1])
  ·exact EO.step ra h1 h2 h3
 ·rcases Di.1 hx with rfl|hx
  ·exact .inr ((p1 t).2 (.inr ⟨ht,h1,h2⟩))
  ·rcases h.cl x hx t ht h1 h2 with h3|h3
   ·exact .inl (by simp [h3])
   ·rcases CG.1 h3 with h4|h4
    ·exact .inr ((p1 t).2 (.inl h4))
    ·simp at h4;exact .inl (by simp [h4])
 ·rcases h.s with h3|h3
  ·exact .inl (by simp [h3])
  ·rcases CG.1 h3 with h4|h4
   ·exact .inr ((p1 _).2 (.inl h4))
   ·simp at h4;exact .inl (by simp [h4])
 ·by_cases hB:MV c st en a
  ·right
   rw [p3 hB];rcases h.b with⟨rfl,h2⟩|⟨h1,h2,h3⟩
   ·rw [AE A0]
    refine⟨by simp,hB,fun x hx hx2=>?_⟩;rcases Di.1 hx with rfl|hx
    ·omega
    ·exact absurd hx2 (h2 x hx)
   ·have:=(h.dr bad h1).range c st en WI
    split
    ·rename_i hlt
     refine⟨by simp,hB,fun x hx hx2=>?_⟩;rcases Di.1 hx with rfl|hx
     ·omega
     ·have:=h3 x hx hx2;omega
    ·rename_i hlt
     refine⟨by simp [h1],h2,fun x hx hx2=>?_⟩;rcases Di.1 hx with rfl|hx
     ·omega
     ·exact h3 x hx hx2
  ·have hall:∀t∈Ch (c a) a,st≤t∧t<en:=fun t ht=>gQ fun hn=>hB ⟨t,ht,hn⟩
   rw [p2 hall];rcases h.b with⟨h1,h2⟩|⟨h1,h2,h3⟩
   ·refine .inl ⟨h1,fun x hx=>?_⟩
    rcases Di.1 hx with rfl|hx
    ·exact hB
    ·exact h2 x hx
   ·refine .inr ⟨by simp [h1],h2,fun x hx hx2=>?_⟩
    rcases Di.1 hx with rfl|hx
    ·exact absurd hx2 hB
    ·exact h3 x hx hx2
theorem Eb.mem {D:List Int} {bad:Int} (h:Eb c st en D [] bad) (WI:st<en) (a:Int):a∈D↔EO c st en a:=by
 constructor
 ·exact h.dr a
 ·intro ha
  induction ha with
  | start=>rcases h.s with h1|h1;exact h1;cases h1
  | step h1 h2 h3 h4 ih=>rcases h.cl _ ih _ h2 h3 h4 with h5|h5;exact h5;cases h5
theorem Eb.count {D W:List Int} {bad:Int} (h:Eb c st en D W bad) (WI:st<en):D.length≤(en - st).toNat:=by
 have key:∀(n:Nat) (D:List Int),D.Nodup→(∀a∈D,st≤a∧a<st+n)→D.length≤n:=by
  intro n;induction n with
  | zero=>
   intro D _ hD;cases D with
   | nil=>simp
   | cons a D=>have:=hD a AO;omega
  | succ n ih=>
   intro D hn hD;have h1:(D.erase (st+n)).length≤n:=ih _ (hn.erase _) (fun a ha=>by
    have h2:=(hn.mem_erase_iff).1 ha;have:=hD a h2.2;have:=h2.1
    omega)
   rw [List.length_erase] at h1;split at h1<;>omega
 refine key _ D h.nd (fun a ha=>?_);have:=(h.dr a ha).range c st en WI;omega
end
def G5 (c:Int→Ins) (D:List Int):Int→Option Value:=fun k=>if k∈D then some (c k).val else none
theorem aq3 (c:Int→Ins):G5 c []=fun _=>none:=by funext k;simp [G5]
theorem an1 (c:Int→Ins) (D:List Int) (a:Int):EK (G5 c D) a (c a).val=G5 c (a :: D):=by
 funext k;unfold EK G5;by_cases h:k=a
 ·simp [h]
 ·simp [h]
theorem CH {w w':World} {base:Nat} {e:TypeId} {size:Nat} {v:Value} {n:Nat} {xs:List Value} (h:w.ownsRow base e size v n xs) (hb:Below w.heap.size w w'):w'.ownsRow base e size v n xs:=
 h.kept (row:=none) ⟨hb.os,hb.tape,hb.output,hb.size,fun k hk _=>hb.block k hk⟩ (by
  cases hv:v.ownBlock with
  | none=>exact .inl rfl
  | some k=>exact .inr AO)
theorem ownsRow_base {w:World} {base base':Nat} {e:TypeId} {size:Nat} {v:Value} {n:Nat} {xs:List Value} (h:w.ownsRow base e size v n xs) (hb:base'≤base):w.ownsRow base' e size v n xs:=by
 refine⟨h.1,?_⟩;rcases h.2 with h1|⟨g,cap,cur,h1,h2,h3⟩
 ·exact .inl h1
 ·exact .inr ⟨g,cap,cur,h1,by omega,h3⟩
abbrev Av (l:List Int):List Value:=l.map (Value.int .i64)
structure Words (w:World) (v:Value) (n:Nat) (cd:Nat→Int):Prop where
 le:n≤1000000
 wd:∀i,i<n→0≤cd i∧cd i<4294967296
 at_:∃A cap,v=.slice A n cap∧n≤cap∧cap≤maxLen∧(0<n→∃b off,A=some ⟨b,off,none⟩∧b<w.heap.size∧∀i,i<n→w.cell? ⟨b,off+i,none⟩=some (.int .u32 (cd i)))
theorem Words.below {w w':World} {v:Value} {n:Nat} {cd:Nat→Int} (h:Words w v n cd) (hb:Below w.heap.size w w'):Words w' v n cd:=by
 obtain⟨A,cap,h1,h2,h3,h4⟩:=h.at_;refine⟨h.le,h.wd,A,cap,h1,h2,h3,fun h0=>?_⟩;obtain⟨b,off,ha,hlt,hc⟩:=h4 h0;exact⟨b,off,ha,by have:=hb.size;omega,fun i hi=>(hb.cell (p:=⟨b,off+i,none⟩) hlt).trans (hc i hi)⟩
def Ak (cd:Nat→Int) (a:Int):Ins:=(BB (cd a.toNat)).1
structure RC (w wr:World) (eb mb:Nat) (cv ev:Value) (sh lk:Int) (nm:ByteArray) (st en da:Int) (f:Int→Option Value):Prop where
 e1:eb=w.heap.size+1
 m1:mb=w.heap.size+2
 sz:w.heap.size+3≤wr.heap.size
 A7:Below w.heap.size w wr
 i0:wr.heap[w.heap.size]?=some (.cells #[cv,ev,.int .i64 sh,.int .i64 lk] 25 (0,0))
 e0:wr.heap[eb]?=some (.cells #[.string nm,.int .i64 st,.int .i64 en,.int .i64 da] 75 (0,0))
 map:Im wr mb f
theorem RC.below {w wr wr':World} {eb mb:Nat} {cv ev:Value} {sh lk:Int} {nm:ByteArray} {st en da:Int} {f:Int→Option Value} (h:RC w wr eb mb cv ev sh lk nm st en da f) (hb:Below (w.heap.size+3) wr wr'):RC w wr' eb mb cv ev sh lk nm st en da f:=
 ⟨h.e1,h.m1,by have:=hb.size;have:=h.sz;omega,h.A7.trans (hb.mono A0),(hb.block _ A0).trans h.i0,(hb.block _ (by have:=h.e1;omega)).trans h.e0,h.map.keep (hb.block _ (by have:=h.m1;omega))⟩
theorem RC.put {w wr wr':World} {eb mb:Nat} {cv ev:Value} {sh lk:Int} {nm:ByteArray} {st en da:Int} {f g:Int→Option Value} (h:RC w wr eb mb cv ev sh lk nm st en da f) (hm:Im wr' mb g) (ho:wr'.os=wr.os) (ht:wr'.tape=wr.tape) (hp:wr'.output=wr.output) (hs:wr'.heap.size=wr.heap.size) (hk:∀i,i≠mb→wr'.heap[i]?=wr.heap[i]?):RC w wr' eb mb cv ev sh lk nm st en da g:=
 ⟨h.e1,h.m1,by have:=h.sz;omega,h.A7.trans ⟨ho,ht,hp,by omega,fun k hk'=>hk k (by have:=h.m1;omega)⟩,(hk _ (by have:=h.m1;omega)).trans h.i0,(hk _ (by have:=h.m1;have:=h.e1;omega)).trans h.e0,hm⟩
theorem RC.cells {w wr:World} {eb mb:Nat} {cv ev:Value} {sh lk:Int} {nm:ByteArray} {st en da:Int} {f:Int→Option Value} (h:RC w wr eb mb cv ev sh lk nm st en da f) :
  wr.cell? ⟨w.heap.size,0,none⟩=some cv∧wr.cell? ⟨eb,1,none⟩=some (.int .i64 st)∧wr.cell? ⟨eb,2,none⟩=some (.int .i64 en):=
 ⟨by simp [World.cell?,h.i0],by simp [World.cell?,h.e0],by simp [World.cell?,h.e0]⟩
theorem E4 (w:World) (o:Obj) {k:Nat} (h:k=w.heap.size):(w.alloc o).heap[k]?=some o:=by rw [h];exact Ai w o
theorem NQ:(Tryz.prog.info? 3).map (fun i=>(i.zero,i.size,i.bytes))=some (some (.int .i64 0),1,8):=by kernel_rfl
theorem gJ {w w':World} {b:Nat} (ho:w'.os=w.os) (ht:w'.tape=w.tape) (hp:w'.output=w.output) (hs:w'.heap.size=w.heap.size) (hk:∀i,i≠b→w'.heap[i]?=w.heap[i]?):w.grownBy w' (some b):=
 ⟨ho,ht,hp,by omega,fun k _ hne=>hk k (fun e=>hne Rq)⟩
theorem rN {st en a:Int} (ha:0≤a) (l W:List Int) (bad:Int) (hb:bad = -1∨0≤bad):(l.foldl (F6 st en a) (W,bad)).1.length≤W.length+l.length:=(wB (st:=st) (en:=en) a ha l W bad hb).2.2.2
theorem ap4 {α β:Type} (f:β→α→β) (b:β) (l:List α) (j:Nat) (h:j<l.length):(l.take (j+1)).foldl f b=f ((l.take j).foldl f b) l[j]:=by
 rw [G4,Aj h,PR];rfl
theorem uV (w:World):(zeroValue 67).run Tryz.prog w=.ok (.agg #[.int .u8 0,.int .i64 0,.int .i64 0,.int .i64 0,.int .i64 0]) w:=by kernel_rfl
theorem nX {α:Type} (l:List α):l=[]∨∃t a,l=t++[a]:=by
 rcases List.eq_nil_or_concat l with h|⟨t,a,h⟩
 ·exact .inl h
 ·exact .inr ⟨t,a,by simpa using h⟩
theorem xw (cv ev:Value) (sh lk:Int) (nm:ByteArray) (st en da:Int) (n:Nat) (cd:Nat→Int) (w:World) (T:C8 w) (HW:Words w cv n cd) (h0:0≤st) (h1:st<en) (h2:en≤n) :
  Calls Tryz.prog 31 #[.agg #[cv,ev,.int .i64 sh,.int .i64 lk],.agg #[.string nm,.int .i64 st,.int .i64 en,.int .i64 da]] w fun e w'=>∃D bad mb,e=.returned (.tuple #[.map (some mb),.int .i64 bad])∧w.heap.size≤mb∧Eb (Ak cd) st en D [] bad∧Im w' mb (G5 (Ak cd) D)∧Below w.heap.size w w':=by
 have hn:=HW.le;obtain⟨A,cap,rfl,hc1,hc2,hrd⟩:=HW.at_;obtain⟨b,off,rfl,hb,hcell⟩:=hrd A0;have⟨HWd,aqQ,HT⟩:=B8 HW.wd hcell T;clear HW hrd hcell T;obtain⟨i0,hi0,hz0,hz1,hz2⟩:=D5 NQ;have mk:=fun W:World=>(show (Instr.makeMap 96 none).run Tryz.prog W=.ok (.map (some W.heap.size)) (W.alloc (.map #[] 0)) from rfl);go_enter Tryz.func31,Tryz.ntmps31;go_upto_region 4 with fail;obtain⟨V,hV⟩:=AA ((((w.alloc (.cells #[.slice (some ⟨b,off,none⟩) n cap,ev,.int .i64 sh,.int .i64 lk] 25)).alloc (.cells #[.string nm,.int .i64 st,.int .i64 en,.int .i64 da] 75)).alloc (.map #[] 0)).alloc (.cells #[.int .i64 st] 3));have hr0:RC w V (w.heap.size+1) (w.heap.size+1+1) (.slice (some ⟨b,off,none⟩) n cap) ev sh lk nm st en da (G5 (Ak cd) []):=by
  subst hV;refine⟨rfl,rfl,by simp,?_,?_,?_,?_⟩
  ·exact ((((AP _ _).alloc (AH _) _).alloc AO _).alloc Cl _).alloc Cl _
  ·rw [Bb _ _ Cl,Bb _ _ Cl,Bb _ _ AO]
   exact Ai _ _
  ·rw [Bb _ _ (by simp;try omega),Bb _ _ AO]
   exact E4 _ _ AO
  ·rw [aq3]
   have e:w.heap.size+1+1=((w.alloc (.cells #[.slice (some ⟨b,off,none⟩) n cap,ev,.int .i64 sh,.int .i64 lk] 25)).alloc (.cells #[.string nm,.int .i64 st,.int .i64 en,.int .i64 da] 75)).heap.size:=by simp
   rw [e];exact (Im.made _).keep (Bb _ _ AO)
 have hw0:V.ownsRow (w.heap.size+3) 3 1 (.slice (some ⟨w.heap.size+1+1+1,0,none⟩) 1 1) 1 (Av [st]):=by
  subst hV;refine⟨rfl,.inr ⟨w.heap.size+3,1,#[.int .i64 st],rfl,AH _,?_,AH _,by unfold maxLen;omega,rfl,rfl⟩⟩;exact E4 _ _ AO
 rw [hV];obtain⟨eb,heb⟩:=AA (w.heap.size+1);rw [heb] at hr0 hw0 ⊢;obtain⟨mb,hmb⟩:=AA (eb+1);rw [hmb] at hr0 hw0 ⊢;have⟨ZW,HW0⟩:=AL hr0 hw0;clear hV hr0 hw0;have HI0:=A3 (Eb.first (c:=Ak cd) (st:=st) (en:=en));go_loopg [7,8,9,10,11,12,13,15] (3*(en - st).toNat+1) (fun gk a7 a8 a9 a10 a11 a12 a13 a15 wr=>∃(D W:List Int) (bad:Int),a7=.int .i64 bad∧gk≤3*(en - st).toNat+1∧3*D.length+gk=3*(en - st).toNat+W.length∧Eb (Ak cd) st en D W bad∧wr.ownsRow (w.heap.size+3) 3 1 a8 W.length (Av W)∧RC w wr eb mb (.slice (some ⟨b,off,none⟩) n cap) ev sh lk nm st en da (G5 (Ak cd) D));case atStart=>exact⟨[],[st],-1,rfl,AH _,by simp,HI0.out,HW0.out,ZW.out⟩
 case round=>
  obtain⟨D,W,bad,rfl,arL,PN,hI,hown,hC⟩:=hrel;have⟨HI,HO,HC⟩:=B8 hI hown hC;clear hI hown HI0 HW0 ZW;obtain⟨c0,c1,c2⟩:=hC.cells;have csz:=hC.sz;clear hC;rcases nX W with rfl|⟨W,at_,rfl⟩
  ·have hv:∃A cap',u8=.slice A 0 cap':=by
    rcases HO.out.2 with⟨h,_⟩|⟨g,cap',cur,h,_⟩
    ·exact⟨_,_,h⟩
    ·exact⟨_,_,h⟩
   obtain⟨A,cap',rfl⟩:=hv;go_wp2_with fail;go_ret2;exact⟨D,bad,mb,rfl,by omega,HI.out,HC.out.map,HC.out.A7⟩
  ·have hat:=(HI.out.wr at_ AO).range _ _ _ h1
   obtain⟨k,rfl⟩:∃k:Nat,at_=(k:Int):=⟨at_.toNat,by omega⟩;have hkn:k<n:=by omega
   obtain⟨g,cap',hv,hg3,JI,hown',hcl⟩:∃g cap',u8=.slice (some ⟨g,0,none⟩) (W.length+1) cap'∧w.heap.size+3≤g∧(g<wr.heap.size∧W.length+1≤cap'∧cap'≤maxLen)∧wr.ownsRow (w.heap.size+3) 3 1 (.slice (some ⟨g,0,none⟩) W.length cap') W.length (Av W)∧wr.cell? ⟨g,W.length,none⟩=some (.int .i64 (k:Int)):=by
    have h:=HO.out;have e1:Av (W++[(k:Int)])=Av W++[.int .i64 (k:Int)]:=by simp [Av]
    have e2:(W++[(k:Int)]).length=W.length+1:=by simp
    rw [e1,e2] at h;rcases h.2 with⟨_,hz⟩|⟨g,cap',cur,hv,hg,JI,hcap,hmax,hs1,hs2⟩
    ·omega
    ·subst hv
     refine⟨g,cap',rfl,hg,⟨(Be.1 JI).1,hcap,hmax⟩,ownsRow_pop (by simp [Av]) h,?_⟩;rw [h.cellAt W.length A0];simp [Av]
   subst hv;have HO':=A3 hown';unfold maxLen at JI;clear hown' HO;have hbr:b<wr.heap.size:=by have:=HC.out.A7.size;omega
   have x1:wr.cell? ⟨b,off+k,none⟩=some (.int .u32 (cd k)):=by rw [HC.out.A7.cell (p:=⟨b,off+k,none⟩) hb];exact aqQ.out k hkn
   obtain⟨i,hi⟩:=AA (Ak cd k);have O0:(BB (cd k)).1=i:=by rw [←hi];simp [Ak]
   have him:=mZ (cd k) (HWd.out k hkn).1;rw [O0] at him;have Oi:=HI.out.count h1;have eN:3*D.length+gk=3*(en - st).toNat+(W.length+1):=by simpa using PN
   clear PN;by_cases hD:(k:Int)∈D
   ·have l1:=HC.out.map.Sm (P:=Tryz.prog) (kt:=3) (t:=96) (e:=67) CS Ut (k:=(k:Int)) (v:=i.val) (by unfold G5;rw [AE hD,hi]) true
    simp only [↓reduceIte,Ins.val,kv] at l1;have HG:=A3 (Dt eN Oi);clear Oi eN him O0 x1 hat hkn;go_wp2_with fail
    go_roundg (gk - 1)
    case measure=>obtain⟨hq1,hq2⟩:=HG.out;omega
    case rel=>
     refine⟨D,W,bad,rfl,by omega,by obtain⟨hq1,hq2⟩:=HG.out;omega,HI.out.skip hD,CH HO'.out ((AP _ _).alloc (AH _) _),HC.out.below ((AP _ _).alloc csz _)⟩
   ·have l1:=HC.out.map.Wb (P:=Tryz.prog) (kt:=3) (t:=96) (e:=67) CS Ut (uV wr) (k:=(k:Int)) (J1 A0 A0) (by unfold G5;rw [A9 hD]) true
    simp only [↓reduceIte,kv] at l1;have hWl:W.length≤6000000:=by omega
    have⟨HG,aF⟩:=AL (Dt eN Oi) (HI.out.push hD h0 h1);have Kq:=A3 (aF.out.count h1);rw [hi] at aF;have I1:=A3 (fun (W:World) (hW:Below w.heap.size w W)=>cN (cd k) (HWd.out k hkn).1 (HWd.out k hkn).2 W (HT.out.below hW));obtain⟨er,her⟩:=AA ((BB (cd k)).2);simp only [O0,her,Ins.val] at I1;obtain⟨op,ia,ib,ic,AG⟩:=i;simp only at I1 him;clear Oi eN O0 her;go_upto_region 9 with fail;obtain⟨V1,hV1⟩:=AA (wr.alloc (.cells #[.int .u8 0,.int .i64 0,.int .i64 0,.int .i64 0,.int .i64 0] 67));have b1:Below wr.heap.size wr V1:=hV1▸(AP _ _).alloc (AH _) _;rw [hV1];clear hV1;have z1:V1.cell? ⟨b,off+k,none⟩=some (.int .u32 (cd k)):=by rw [b1.cell (p:=⟨b,off+k,none⟩) hbr];exact x1
    have z2:V1.cell? ⟨w.heap.size,0,none⟩=some (.slice (some ⟨b,off,none⟩) n cap):=by rw [b1.cell (p:=⟨w.heap.size,0,none⟩) (by show w.heap.size<_;omega)];exact c0
    have⟨HD1,B1⟩:=AL (I1.out V1 (HC.out.A7.trans (b1.mono A0))) b1;clear b1 x1 l1 c0;go_upto_region 10 with (go_at_call 22;refine (Calls.ext HD1.out).mono ?_;rintro e w' ⟨rfl,y,rfl⟩);have b2:Below wr.heap.size wr (y.w.alloc (.cells #[.int .u8 op,.int .i64 ia,.int .i64 ib,.int .i64 ic,.int .i64 AG] 67)):=(Ext.below B1.out B1.out.size y).alloc (EM B1.out.size y.h.size) _;have k2:=Ai y.w (.cells #[.int .u8 op,.int .i64 ia,.int .i64 ib,.int .i64 ic,.int .i64 AG] 67);have k3:wr.heap.size≤y.w.heap.size:=EM B1.out.size y.h.size;obtain⟨V2,hV2⟩:=AA (y.w.alloc (.cells #[.int .u8 op,.int .i64 ia,.int .i64 ib,.int .i64 ic,.int .i64 AG] 67));rw [hV2] at b2 k2 ⊢;obtain⟨q,hq⟩:=AA y.w.heap.size;rw [hq] at k2 k3 ⊢;clear hV2 hq y z1 z2 HD1 B1;have C2:=A3 (HC.out.below (b2.mono csz));obtain⟨V3,l2,m3,o1,o2,o3,o4,o5⟩:=C2.out.map.put (P:=Tryz.prog) (kt:=3) (t:=96) (e:=67) CS Ut (k:=(k:Int)) (J1 A0 A0) (.agg #[.int .u8 op,.int .i64 ia,.int .i64 ib,.int .i64 ic,.int .i64 AG]);simp only [kv] at l2;have bE:=an1 (Ak cd) D (k:Int);rw [hi] at bE;simp only [Ins.val] at bE;rw [bE] at m3;have C3:=A3 (C2.out.put m3 o1 o2 o3 o4 o5);have Ro:q≠mb:=by omega
    have wh:=A3 ((CH HO'.out b2).kept (gJ o1 o2 o3 o4 o5) (.inr fl));have y20:V2.cell? ⟨q,0,none⟩=some (.int .u8 op):=by simp [World.cell?,k2]
    have y21:V2.cell? ⟨q,1,none⟩=some (.int .i64 ia):=by simp [World.cell?,k2]
    have y22:V2.cell? ⟨q,2,none⟩=some (.int .i64 ib):=by simp [World.cell?,k2]
    have y23:V2.cell? ⟨q,3,none⟩=some (.int .i64 ic):=by simp [World.cell?,k2]
    have y24:V2.cell? ⟨q,4,none⟩=some (.int .i64 AG):=by simp [World.cell?,k2]
    have Wa:=(o5 q Ro).trans k2;have y30:V3.cell? ⟨q,0,none⟩=some (.int .u8 op):=by simp [World.cell?,Wa]
    have y31:V3.cell? ⟨q,1,none⟩=some (.int .i64 ia):=by simp [World.cell?,Wa]
    have y32:V3.cell? ⟨q,2,none⟩=some (.int .i64 ib):=by simp [World.cell?,Wa]
    have y33:V3.cell? ⟨q,3,none⟩=some (.int .i64 ic):=by simp [World.cell?,Wa]
    have y34:V3.cell? ⟨q,4,none⟩=some (.int .i64 AG):=by simp [World.cell?,Wa]
    have Mp:=A3 (mA ⟨op,ia,ib,ic,AG⟩ (k:Int) V3 A0 A0 Uo Uo);have s3:g<V3.heap.size:=by have:=b2.size;omega
    clear k2 Wa o1 o2 o3 o5 m3 b2 bE HO';simp only at Mp;go_upto_region 12 with (go_at_call 33;refine Mp.out.mono ?_;rintro e W4 ⟨⟨v,rfl,⟨SA,Hq,rfl,sc1,sc2,sc3⟩,sc4⟩,hb4⟩);obtain⟨L,hL⟩:=AA (Ch ⟨op,ia,ib,ic,AG⟩ (k:Int));have hL2:L.length≤2:=hL▸eB _ _;rw [hL] at aF sc1 sc3 sc4 ⊢;have hwb:bad = -1∨0≤bad:=by
     rcases HI.out.b with q1|q1
     ·exact .inl q1.1
     ·have:=(HI.out.dr bad q1.1).range _ _ _ h1
      omega
    have hpl:=rN (st:=st) (en:=en) (a:=(k:Int)) A0 L W bad hwb;have HE:=A3 (show (3*((k:Int) :: D).length+(3*(en - st).toNat+(L.foldl (F6 st en k) (W,bad)).1.length - 3*(D.length+1))=3*(en - st).toNat+(L.foldl (F6 st en k) (W,bad)).1.length)∧3*(en - st).toNat+(L.foldl (F6 st en k) (W,bad)).1.length - 3*(D.length+1)<gk by
     have e1:=HG.out;have e2:=Kq.out;simp only [GD] at e2 ⊢
     omega)
    have ET:=A3 (show ∀j,((L.take j).foldl (F6 st en k) (W,bad)).1.length≤W.length+2 from fun j=>by
     have:=rN (st:=st) (en:=en) (a:=(k:Int)) A0 (L.take j) W bad hwb;have e:(L.take j).length≤L.length:=by simp;omega
     omega)
    have⟨C4,qA,I4⟩:=B8 (C3.out.below (hb4.mono (by have:=C3.out.sz;omega))) (CH wh.out hb4) (show Ints W4 (.slice SA L.length Hq) L from⟨SA,Hq,rfl,sc1,sc2,sc3⟩);have dj:∀q,(Value.slice (some ⟨g,0,none⟩) W.length cap').ownBlock=some q→(Value.slice SA L.length Hq).ownBlock≠some q:=fun q hq hq2=>by
     have:=sc4 q hq2;simp [Value.ownBlock] at hq;omega
    have DJ:=A3 dj;clear hL sc1 sc2 sc3 sc4 hpl hwb HG Kq dj hb4 C3 wh C2 l2 y20 y21 y22 y23 y24 y30 y31 y32 y33 y34 Mp I1 HI hcl c1 c2 him hi Ro o4 s3 k3 HC;obtain⟨wo,rfl⟩:∃wo:World,wo=wr:=⟨_,rfl⟩;go_loopw [7,8,15,57] (fun a7 a8 a15 a57 wr=>∃j:Nat,j≤L.length∧a57=.int .i64 (j:Int)∧a7=.int .i64 ((L.take j).foldl (F6 st en k) (W,bad)).2∧wr.ownsRow (w.heap.size+3) 3 1 a8 ((L.take j).foldl (F6 st en k) (W,bad)).1.length (Av ((L.take j).foldl (F6 st en k) (W,bad)).1)∧RC w wr eb mb (.slice (some ⟨b,off,none⟩) n cap) ev sh lk nm st en da (G5 (Ak cd) ((k:Int) :: D))∧Ints wr (.slice SA L.length Hq) L∧∀q,a8.ownBlock=some q→(Value.slice SA L.length Hq).ownBlock≠some q) (fun _ _ _ a57 _=>L.length - (intOf a57).toNat);case atStart=>exact⟨0,Ck _,rfl,rfl,qA.out,C4.out,I4.out,DJ.out⟩
    case round=>
     obtain⟨j,hj,rfl,rfl,hown,hC,hI,hdj⟩:=hrel;clear C4 qA I4 DJ;obtain⟨c0,c1,c2⟩:=hC.cells;have ar5:=hC.sz;have⟨HO,HC,HI,HJ⟩:=Bz hown hC hI hdj;clear hown hC hI hdj;by_cases hlt:j<L.length
     ·have ft:=ap4 (F6 st en k) (W,bad) L j hlt
      have HF:=A3 ft;clear ft;have hpj:=ET.out j;obtain⟨⟨Wj,bj⟩,hWj⟩:∃p,(L.take j).foldl (F6 st en k) (W,bad)=p:=⟨_,rfl⟩;rw [hWj] at HF HO hpj ⊢;simp only at HO hpj ⊢;obtain⟨A',EI,hv,i1,i2,i3⟩:=HI.out;cases hv;obtain⟨sb,so,rfl,Ln,hsc⟩:=i3 A0;obtain⟨s,hs⟩:=AA (L[j]);have x1:wr.cell? ⟨sb,so+j,none⟩=some (.int .i64 s):=by rw [hsc j hlt,← hs];simp [List.getD,Aj hlt]
      rw [hs] at HF;have dl:decide ((j:Int)<(L.length:Int))=true:=by simpa using hlt
      unfold maxLen at i2;clear hsc i3 hs;by_cases hin:st≤s∧s<en
      ·have d1:decide (st≤s)=true:=AR hin.1
       have d2:decide (s<en)=true:=AR hin.2;have HP:=A3 (show F6 st en k (Wj,bj) s=(Wj++[s],bj) by unfold F6;rw [AE hin]);clear hin;go_wp2_with (at_builtin;refine Kf _ rfl (.tmp 71) (.tmp 73) 38 rfl (w.heap.size+3) 3 i0 (.int .i64 0) 1 8 Ey hi0 hz0 hz1 hz2 rfl AK u8 _ _ rfl (HO.out.alloc _) ⟨wr.heap.size,0,none⟩ 1 1 [.int .i64 s] rfl rfl (DV _ _ _) BS Bc A0 Hz ?_;intro v' W' hown' hgrow _ Ce);have eF:=HF.out.trans HP.out;have bA:=(AP wr.heap.size wr).alloc (AH _) (.cells #[.int .i64 s] 3);have bG:Below (w.heap.size+3) wr W':=((AP _ _).alloc ar5 _).grown hgrow Hz (fun q hq=>(HO.out.lt q hq).1);go_roundw;case rel=>
        refine⟨j+1,by omega,by go_num,by rw [eF],?_,HC.out.below bG,(HI.out.below bA).grown hgrow (fun q hq hq2=>HJ.out q hq2 hq),fun q hq=>?_⟩
        ·rw [eF]
         simpa [Av] using hown'
        ·rcases Ce with h|h
         ·rw [h] at hq;exact HJ.out q hq
         ·rw [h,El] at hq
          cases hq;intro h2;simp [Value.ownBlock] at h2;omega
       case measure=>exact Aa
      ·have HP:=A3 (show F6 st en k (Wj,bj) s=(Wj,if bj<0∨(k:Int)<bj then (k:Int) else bj) by unfold F6;rw [A9 hin])
       have eF:=A3 (HF.out.trans HP.out);go_wp2_with fail;all_goals
        go_roundw;case rel=>
         refine⟨j+1,by omega,by go_num,?_,?_,HC.out,HI.out,HJ.out⟩
         ·rw [eF.out]
          first
           | (rw [AE A0];done)
           | (rw [A9 A0];done)
         ·rw [eF.out];exact HO.out
        case measure=>exact Aa
     ·obtain rfl:j=L.length:=by omega
      have dl:decide ((L.length:Int)<(L.length:Int))=false:=by simp
      rw [Hx] at HO ⊢;go_wp2_with fail
      go_roundg (3*(en - st).toNat+(L.foldl (F6 st en k) (W,bad)).1.length - 3*(D.length+1))
      case measure=>exact HE.out.2
      case rel=>exact⟨(k:Int) :: D,_,_,rfl,by have:=HE.out.2;omega,HE.out.1,aF.out,HO.out,HC.out⟩
def Gx (i:Ins) (a:Int):List Int:=if DF i.op=true then Ch i a else if i.op=28 then [a] else if i.op=29 then [a+1] else []
def Og (c:Int→Ins) (st:Int) (D:List Int) (x:Int):Prop:=x=st∨∃a∈D,x∈Gx (c a) a
structure Kw (c:Int→Ins) (st:Int) (D:List Int) (g:Int→Option Value) (left:List Int):Prop where
 sound:∀x,g x=none∨(g x=some (.bool true)∧Og c st D x)
 start:g st=some (.bool true)
 done:∀a∈D,a∈left∨∀x∈Gx (c a) a,g x=some (.bool true)
theorem Kw.add {c:Int→Ins} {st:Int} {D:List Int} {g:Int→Option Value} {left:List Int} (h:Kw c st D g left) {x:Int} (hx:Og c st D x):Kw c st D (EK g x (.bool true)) left:=by
 refine⟨fun y=>?_,?_,fun a ha=>?_⟩
 ·unfold EK
  by_cases e:y=x
  ·rw [AE e];exact .inr ⟨rfl,e▸hx⟩
  ·rw [A9 e];exact h.sound y
 ·unfold EK;split;rfl;exact h.start
 ·rcases h.done a ha with h1|h1
  ·exact .inl h1
  ·refine .inr fun y hy=>?_
   unfold EK;split;rfl;exact h1 y hy
theorem Kw.drop {c:Int→Ins} {st:Int} {D:List Int} {g:Int→Option Value} {left left':List Int} (h:Kw c st D g left) {a:Int} (hl:∀x∈left,x=a∨x∈left') (ha:∀x∈Gx (c a) a,g x=some (.bool true)):Kw c st D g left':=
 ⟨h.sound,h.start,fun b hb=>by
  rcases h.done b hb with h1|h1
  ·rcases hl b h1 with h2|h2
   ·exact .inr (h2▸ha)
   ·exact .inl h2
  ·exact .inr h1⟩
theorem Kw.lead {c:Int→Ins} {st:Int} {D:List Int} {g:Int→Option Value} (h:Kw c st D g []) (x:Int):(Og c st D x∧g x=some (.bool true))∨(¬Og c st D x∧g x=none):=by
 by_cases hx:Og c st D x
 ·refine .inl ⟨hx,?_⟩
  rcases hx with rfl|⟨a,ha,hm⟩
  ·exact h.start
  ·rcases h.done a ha with h1|h1
   ·cases h1
   ·exact h1 x hm
 ·refine .inr ⟨hx,?_⟩
  rcases h.sound x with h1|h1
  ·exact h1
  ·exact absurd h1.2 hx
structure LM (w wr:World) (r fb mb:Nat) (f:Int→Option Value) (left:List Int) (g:Int→Option Value):Prop where
 m1:mb=w.heap.size+1
 r1:r=w.heap.size+2
 fb1:fb<w.heap.size
 A7:Below w.heap.size w wr
 it:Ir wr r fb f left
 map:Im wr mb g
theorem LM.below {w wr wr':World} {r fb mb:Nat} {f g:Int→Option Value} {left:List Int} (h:LM w wr r fb mb f left g) (hb:Below wr.heap.size wr wr'):LM w wr' r fb mb f left g:=
 ⟨h.m1,h.r1,h.fb1,h.A7.trans (hb.mono h.A7.size),h.it.keep (hb.block _ h.it.lt.1) (hb.block _ h.it.lt.2.1),h.map.below hb h.map.lt⟩
theorem LM.put {w wr wr':World} {r fb mb:Nat} {f g g':Int→Option Value} {left:List Int} (h:LM w wr r fb mb f left g) (hm:Im wr' mb g') (ho:wr'.os=wr.os) (ht:wr'.tape=wr.tape) (hp:wr'.output=wr.output) (hs:wr'.heap.size=wr.heap.size) (hk:∀i,i≠mb→wr'.heap[i]?=wr.heap[i]?):LM w wr' r fb mb f left g':=
 ⟨h.m1,h.r1,h.fb1,h.A7.trans ⟨ho,ht,hp,by omega,fun k hk'=>hk k (by have:=h.m1;omega)⟩,h.it.keep (hk _ (by have:=h.m1;have:=h.r1;omega)) (hk _ (by have:=h.m1;have:=h.fb1;omega)),hm⟩
theorem LM.step {w wr wr':World} {r fb mb:Nat} {f g:Int→Option Value} {left left':List Int} (h:LM w wr r fb mb f left g) (hi:Ir wr' r fb f left') (ho:wr'.os=wr.os) (ht:wr'.tape=wr.tape) (hp:wr'.output=wr.output) (hs:wr'.heap.size=wr.heap.size) (hk:∀i,i≠r→wr'.heap[i]?=wr.heap[i]?):LM w wr' r fb mb f left' g:=
 ⟨h.m1,h.r1,h.fb1,h.A7.trans ⟨ho,ht,hp,by omega,fun k hk'=>hk k (by have:=h.r1;omega)⟩,hi,h.map.keep (hk _ (by have:=h.m1;have:=h.r1;omega))⟩
theorem aoM (w:World):(zeroValue 4).run Tryz.prog w=.ok (.bool false) w:=by kernel_rfl
theorem aqS (nm:ByteArray) (st en da:Int) (fb:Nat) (c:Int→Ins) (D:List Int) (w:World) (hst:0≤st∧st≤1000000) (hD:∀a∈D,(0≤a∧a≤1000000)∧(-1000000≤(c a).AG∧(c a).AG≤1000000)) (hF:Im w fb (G5 c D)) :
  Calls Tryz.prog 32 #[.agg #[.string nm,.int .i64 st,.int .i64 en,.int .i64 da],.map (some fb)] w fun e w'=>∃mb g,e=.returned (.map (some mb))∧w.heap.size≤mb∧Kw c st D g []∧Im w' mb g∧Below w.heap.size w w':=by
 have hfb:=hF.lt;have mk:=fun W:World=>(show (Instr.makeMap 99 none).run Tryz.prog W=.ok (.map (some W.heap.size)) (W.alloc (.map #[] 0)) from rfl);obtain⟨V0,l0,m0,o1,o2,o3,o4,o5⟩:=(Im.made (w.alloc (.cells #[.string nm,.int .i64 st,.int .i64 en,.int .i64 da] 75))).put (P:=Tryz.prog) (kt:=3) (t:=99) (e:=4) CS MN (k:=st) (J1 A0 A0) (.bool true);simp only [kv,El] at l0 m0 o4 o5;have b0:Below w.heap.size w V0:=((((AP _ _).alloc (AH _) _).alloc AO _):Below w.heap.size w ((w.alloc (.cells #[.string nm,.int .i64 st,.int .i64 en,.int .i64 da] 75)).alloc (.map #[] 0))).trans ⟨o1,o2,o3,by simp;omega,fun k hk=>o5 k A0⟩;obtain⟨o,aO,l1,r0,hleft⟩:=(hF.below b0 hfb).range (P:=Tryz.prog) (kt:=3) (t:=96) (e:=67) Ut;rw [o4] at l1 r0;have hm0:Kw c st D (EK (fun _=>none) st (.bool true)) aO:=by
  refine⟨fun x=>?_,by simp [EK],fun a ha=>.inl (hleft a (c a).val (by simp [G5,ha]))⟩;unfold EK;by_cases e:x=st
  ·rw [AE e];exact .inr ⟨rfl,.inl e⟩
  ·rw [A9 e];exact .inl rfl
 have hlm:LM w (V0.alloc o) (w.heap.size+1+1) fb (w.heap.size+1) (G5 c D) aO (EK (fun _=>none) st (.bool true)):=
  ⟨rfl,rfl,hfb,b0.alloc (by have:=b0.size;omega) _,r0,m0.keep (Bb _ _ A0)⟩
 have⟨HM0,XS,U9⟩:=B8 hm0 hlm hD;clear hm0 hlm hD hleft r0 m0 o5 o1 o2 o3 hF b0;go_enter Tryz.func32,Tryz.ntmps32;go_upto_region 3 with fail;obtain⟨V,hV⟩:=AA (V0.alloc o);rw [hV] at XS ⊢;obtain⟨mb,hmb⟩:=AA (w.heap.size+1);rw [hmb] at XS ⊢;obtain⟨r,hr⟩:=AA (mb+1);rw [hr] at XS ⊢;clear hV l0 l1 o4;go_loopg [6,7,9] (aO.length) (fun gk a6 a7 a9 wr=>∃(left:List Int) (g:Int→Option Value),gk=left.length∧Kw c st D g left∧LM w wr r fb mb (G5 c D) left g);case atStart=>exact⟨aO,_,rfl,HM0.out,XS.out⟩
 case round=>
  obtain⟨left,g,rfl,hM,hL⟩:=hrel;have⟨HM,HL⟩:=AL hM hL;clear HM0 XS hM hL;rcases HL.out.it.next (P:=Tryz.prog) 0 with⟨hl,hrun⟩|⟨a,v,left',Wn,ha,hv,hlen,xE,hit,hrun,hent,o1,o2,o3,o4,o5⟩
  ·subst hl
   have BJ:∀ty,(Instr.next (.pointer (some ⟨r,0,none⟩)) false ty).run Tryz.prog wr=_:=fun _=>hrun;clear hrun;go_wp2_with fail;go_ret;exact⟨mb,g,rfl,by omega,HM.out,HL.out.map,HL.out.A7⟩
  ·have BJ:∀ty,(Instr.next (.pointer (some ⟨r,0,none⟩)) false ty).run Tryz.prog wr=_:=fun _=>hrun
   clear hrun;have Us:a∈D:=by
    unfold G5 at hv;split at hv
    ·assumption
    ·cases hv
   have hva:v=(c a).val:=by
    unfold G5 at hv;rw [AE Us] at hv;exact (Gl hv).symm
   subst hva;obtain⟨⟨p1,p2⟩,p3,p4⟩:=U9.out a Us;have⟨NJ,G0,HLd⟩:=B8 (HL.out.step hit o1 o2 o3 o4 o5) hlen (fun x (hx:x∈Gx (c a) a)=>(show Og c st D x from .inr ⟨a,Us,hx⟩));obtain⟨i,hi⟩:=AA (c a);rw [hi] at HLd BJ hent p3 p4;have uQ:∀g',Kw c st D g' left→(∀x∈Gx i a,g' x=some (.bool true))→Kw c st D g' left':=fun g' q1 q2=>q1.drop xE (by rw [hi];exact q2);have HDR:=A3 uQ;clear hit hv xE hlen hi ha o5 o1 o2 o3 uQ HL;simp only [Ins.val,kv] at BJ hent;obtain⟨op,ia,ib,ic,AG⟩:=i;simp only at BJ hent p3 p4;have HB:=uz op;rcases hb:DF op
   ·rw [hb] at HB
    by_cases q1:op=28
    ·have d1:(op==28)=true:=by simp [q1]
     have Nv:=A3 (show Gx ⟨op,ia,ib,ic,AG⟩ a=[a] by unfold Gx;rw [A9 (by simp [hb]),AE q1]);clear hb q1;go_upto_region 12 with (go_at_call 61;refine (HB _).mono ?_;rintro e w' ⟨rfl,rfl⟩);obtain⟨X,hX⟩:=AA (Wn.alloc (.cells #[.int .u8 op,.int .i64 ia,.int .i64 ib,.int .i64 ic,.int .i64 AG] 67));have OG:=A3 (hX▸NJ.out.below ((AP _ _).alloc (AH _) _));rw [hX];obtain⟨V3,l2,m3,o1,o2,o3,Pq,o5⟩:=OG.out.map.put (P:=Tryz.prog) (kt:=3) (t:=99) (e:=4) CS MN (k:=a) (J1 A0 A0) (.bool true);simp only [kv] at l2;have YW:=A3 (OG.out.put m3 o1 o2 o3 Pq o5);clear hX m3 o1 o2 o3 Pq o5 BJ hent;go_wp2_with fail
     go_roundg (left'.length)
     case measure=>exact G0.out
     case rel=>
      refine⟨left',_,rfl,HDR.out _ (HM.out.add (HLd.out _ ?_)) ?_,YW.out⟩
      ·rw [Nv.out];simp
      ·rw [Nv.out];simp [EK]
    ·have d1:(op==28)=false:=by simp [q1]
     by_cases q2:op=29
     ·have d2:(op==29)=true:=by simp [q2]
      have Nv:=A3 (show Gx ⟨op,ia,ib,ic,AG⟩ a=[a+1] by unfold Gx;rw [A9 (by simp [hb]),A9 q1,AE q2]);have w1:IntKind.i64.wrap (a+1)=a+1:=GN _ A0;clear hb q1 q2;go_upto_region 14 with (go_at_call 61;refine (HB _).mono ?_;rintro e w' ⟨rfl,rfl⟩);obtain⟨X,hX⟩:=AA (Wn.alloc (.cells #[.int .u8 op,.int .i64 ia,.int .i64 ib,.int .i64 ic,.int .i64 AG] 67));have OG:=A3 (hX▸NJ.out.below ((AP _ _).alloc (AH _) _));rw [hX];obtain⟨V3,l2,m3,o1,o2,o3,Pq,o5⟩:=OG.out.map.put (P:=Tryz.prog) (kt:=3) (t:=99) (e:=4) CS MN (k:=a+1) (J1 A0 A0) (.bool true);simp only [kv] at l2;have YW:=A3 (OG.out.put m3 o1 o2 o3 Pq o5);clear hX m3 o1 o2 o3 Pq o5 BJ hent;go_wp2_with fail
      go_roundg (left'.length)
      case measure=>exact G0.out
      case rel=>
       refine⟨left',_,rfl,HDR.out _ (HM.out.add (HLd.out _ ?_)) ?_,YW.out⟩
       ·rw [Nv.out];simp
       ·rw [Nv.out];simp [EK]
     ·have d2:(op==29)=false:=by simp [q2]
      have Nv:=A3 (show Gx ⟨op,ia,ib,ic,AG⟩ a=[] by unfold Gx;rw [A9 (by simp [hb]),A9 q1,A9 q2]);clear hb q1 q2;go_wp2_with (go_at_call 61;refine (HB _).mono ?_;rintro e w' ⟨rfl,rfl⟩)
      go_roundg (left'.length)
      case measure=>exact G0.out
      case rel=>exact⟨left',_,rfl,HDR.out _ HM.out (by rw [Nv.out];simp),NJ.out.below ((AP _ _).alloc (AH _) _)⟩
   ·rw [hb] at HB
    have⟨Nv,Mp⟩:=AL (show Gx ⟨op,ia,ib,ic,AG⟩ a=Ch ⟨op,ia,ib,ic,AG⟩ a by unfold Gx;rw [AE hb]) (fun W:World=>mA ⟨op,ia,ib,ic,AG⟩ a W p1 p2 p3 p4);clear hb;simp only at Mp;go_upto_region 7 with (first|(go_at_call 61;refine (HB _).mono ?_;rintro e w' ⟨rfl,rfl⟩)|(go_at_call 33;refine (Mp.out _).mono ?_;rintro e W4 ⟨⟨v,rfl,⟨SA,Hq,rfl,sc1,sc2,sc3⟩,sc4⟩,hb4⟩));obtain⟨L,hL⟩:=AA (Ch ⟨op,ia,ib,ic,AG⟩ a);have hL2:L.length≤2:=hL▸eB _ _;rw [hL] at Nv sc1 sc3 sc4 ⊢;have⟨OG,I4⟩:=AL ((NJ.out.below ((AP _ _).alloc (AH _) _)).below hb4) (show Ints W4 (.slice SA L.length Hq) L from⟨SA,Hq,rfl,sc1,sc2,sc3⟩);have hsz:r<Wn.heap.size:=NJ.out.it.lt.1;have DJ:=A3 (show ∀q,(Value.slice SA L.length Hq).ownBlock=some q→some mb≠some q from fun q hq e=>by
     have:=sc4 q hq;rw [El] at this;cases e
     omega)
    have HLW:=A3 (show ∀x∈L,0≤x+2000000∧x≤3000000 from fun x hx=>by
     rw [←hL] at hx;unfold Ch at hx;split at hx
     ·cases hx
     ·split at hx
      ·simp at hx;omega
      ·split at hx
       ·simp at hx;omega
       ·simp at hx;omega)
    clear hL sc1 sc2 sc3 sc4 hb4 BJ hent Mp HB p1 p2 p3 p4 o4;obtain⟨wo,rfl⟩:∃wo:World,wo=wr:=⟨_,rfl⟩;go_loopw [9,29] (fun a9 a29 wr=>∃(j:Nat) (g':Int→Option Value),j≤L.length∧a29=.int .i64 (j:Int)∧Kw c st D g' left∧(∀x∈L.take j,g' x=some (.bool true))∧LM w wr r fb mb (G5 c D) left' g'∧Ints wr (.slice SA L.length Hq) L) (fun _ a29 _=>L.length - (intOf a29).toNat);case atStart=>exact⟨0,g,Ck _,rfl,HM.out,by simp,OG.out,I4.out⟩
    case round=>
     obtain⟨j,g',hj,rfl,hM',Da,hL',hI'⟩:=hrel;have⟨HM',CU,HL',HI'⟩:=Bz hM' Da hL' hI';clear hM' Da hL' hI' OG I4;by_cases hlt:j<L.length
     ·obtain⟨A',EI,hv,i1,i2,i3⟩:=HI'.out
      cases hv;obtain⟨sb,so,rfl,Ln,hsc⟩:=i3 A0;obtain⟨s,hs⟩:=AA (L[j]);have x1:wr.cell? ⟨sb,so+j,none⟩=some (.int .i64 s):=by rw [hsc j hlt,← hs];simp [List.getD,Aj hlt]
      have hsm:s∈L:=hs▸Cn hlt;have hsr:=HLW.out s hsm;have abM:=A3 (show L.take (j+1)=L.take j++[s] by rw [G4,Aj hlt,hs];rfl);have dl:decide ((j:Int)<(L.length:Int))=true:=by simpa using hlt
      unfold maxLen at i2;obtain⟨V3,l2,m3,o1,o2,o3,Pq,o5⟩:=HL'.out.map.put (P:=Tryz.prog) (kt:=3) (t:=99) (e:=4) CS MN (k:=s) (J1 A0 A0) (.bool true);simp only [kv] at l2;have⟨YW,JS,HM3⟩:=B8 (HL'.out.put m3 o1 o2 o3 Pq o5) (HI'.out.grown (gJ o1 o2 o3 Pq o5) DJ.out) (HM'.out.add (HLd.out s (by rw [Nv.out];exact hsm)));clear hsc i3 hs m3 o1 o2 o3 Pq o5;go_wp2_with fail;go_roundw;case rel=>
       refine⟨j+1,_,by omega,by go_num,HM3.out,fun x hx=>?_,YW.out,JS.out⟩;rw [abM.out] at hx;unfold EK;split
       ·rfl
       ·rename_i hne
        rcases CG.1 hx with h|h
        ·exact CU.out x h
        ·simp at h;exact absurd h hne
      case measure=>exact Aa
     ·obtain rfl:j=L.length:=by omega
      have dl:decide ((L.length:Int)<(L.length:Int))=false:=by simp
      rw [Hx] at CU;go_wp2_with fail
      go_roundg (left'.length)
      case measure=>exact G0.out
      case rel=>exact⟨left',_,rfl,HDR.out _ HM'.out (by rw [Nv.out];exact CU.out),HL'.out⟩
structure CP where
 nm:ByteArray
 st:Int
 en:Int
 da:Int
structure Il (w:World) (v:Value) (l:List CP):Prop where
 nm:∀e∈l,e.nm.size≤maxLen
 at_:∃A cap,v=.slice A l.length cap∧l.length≤cap∧cap≤maxLen∧(0<l.length→∃b off,A=some ⟨b,off,none⟩∧b<w.heap.size∧∀i e,l[i]?=some e→
  w.cell? ⟨b,off+i*4,none⟩=some (.string e.nm)∧w.cell? ⟨b,off+i*4+1,none⟩=some (.int .i64 e.st)∧w.cell? ⟨b,off+i*4+2,none⟩=some (.int .i64 e.en)∧w.cell? ⟨b,off+i*4+3,none⟩=some (.int .i64 e.da))
theorem Il.below {w w':World} {v:Value} {l:List CP} (h:Il w v l) (hb:Below w.heap.size w w'):Il w' v l:=by
 obtain⟨A,cap,h1,h2,h3,h4⟩:=h.at_;refine⟨h.nm,A,cap,h1,h2,h3,fun h0=>?_⟩;obtain⟨b,off,ha,hlt,hc⟩:=h4 h0;refine⟨b,off,ha,by have:=hb.size;omega,fun i e he=>?_⟩;obtain⟨c0,c1,c2,c3⟩:=hc i e he;exact⟨(hb.cell (p:=⟨b,_,none⟩) hlt).trans c0,(hb.cell (p:=⟨b,_,none⟩) hlt).trans c1,(hb.cell (p:=⟨b,_,none⟩) hlt).trans c2,(hb.cell (p:=⟨b,_,none⟩) hlt).trans c3⟩
structure Z5 (cd:Nat→Int) (lk st en a:Int):Prop where
 dec:(BB (cd a.toNat)).2=0
 tgt:DF (Ak cd a).op=true→st≤a+1+(Ak cd a).AG∧a+1+(Ak cd a).AG<en
 lock:(Ak cd a).op=28∨(Ak cd a).op=29→(Ak cd a).AG<lk
theorem aqL (cv ev:Value) (sh lk:Int) (nm:ByteArray) (st en da:Int) (n:Nat) (cd:Nat→Int) (k:Nat) (hk:k<n) (w:World) (T:C8 w) (HW:Words w cv n cd) :
  Calls Tryz.prog 60 #[.agg #[cv,ev,.int .i64 sh,.int .i64 lk],.agg #[.string nm,.int .i64 st,.int .i64 en,.int .i64 da],.int .i64 (k:Int)] w fun e w'=>(∃r,e=.returned (.int .i64 r)∧(r=0↔Z5 cd lk st en k))∧Below w.heap.size w w':=by
 have hn:=HW.le;obtain⟨A,cap,rfl,hc1,hc2,hrd⟩:=HW.at_;obtain⟨b,off,rfl,hb,hcell⟩:=hrd A0;have hwd:=HW.wd k hk;have x1:=hcell k hk;clear HW hrd hcell;obtain⟨i,hi⟩:=AA (Ak cd k);have O0:(BB (cd k)).1=i:=by rw [←hi];simp [Ak]
 have him:=mZ (cd k) hwd.1;rw [O0] at him;have I1:=A3 (fun (W:World) (hW:Below w.heap.size w W)=>cN (cd k) hwd.1 hwd.2 W (T.below hW));obtain⟨er,her⟩:=AA ((BB (cd k)).2);simp only [O0,her,Ins.val] at I1;have HK:=A3 (show Z5 cd lk st en k↔(er=0∧(DF i.op=true→st≤(k:Int)+1+i.AG∧(k:Int)+1+i.AG<en)∧(i.op=28∨i.op=29→i.AG<lk)) from⟨fun h=>⟨by rw [←her];exact h.dec,by rw [←hi];exact h.tgt,by rw [←hi];exact h.lock⟩,fun ⟨a1,a2,a3⟩=>⟨by rw [←her] at a1;exact a1,by rw [hi];exact a2,by rw [hi];exact a3⟩⟩);have w1:IntKind.i64.wrap ((k:Int)+1)=(k:Int)+1:=GN _ A0;have w2:IntKind.i64.wrap ((k:Int)+1+i.AG)=(k:Int)+1+i.AG:=GN _ A0;have Sk:=A3 (fun W:World=>vu i (k:Int) W w1 w2);obtain⟨op,ia,ib,ic,AG⟩:=i;simp only at I1 Sk HK him;obtain⟨br,hbr⟩:=AA (DF op);rw [hbr] at Sk HK;obtain⟨tg,OD⟩:=AA (if br=true then (k:Int)+1+AG else 0);rw [OD] at Sk;have HG:=A3 OD;clear hi O0 her OD w1 w2 hwd hbr T;have fin:∀W,Below w.heap.size w W→Below w.heap.size w W:=fun _ h=>h;obtain⟨V0,Bv⟩:=AA ((w.alloc (.cells #[.slice (some ⟨b,off,none⟩) n cap,ev,.int .i64 sh,.int .i64 lk] 25)).alloc (.cells #[.string nm,.int .i64 st,.int .i64 en,.int .i64 da] 75));have b0:Below w.heap.size w V0:=Bv▸((AP _ _).alloc (AH _) _).alloc AO _;have s0:w.heap.size+2=V0.heap.size:=by rw [←Bv];simp
 have k0:V0.heap[w.heap.size]?=some (.cells #[.slice (some ⟨b,off,none⟩) n cap,ev,.int .i64 sh,.int .i64 lk] 25):=by rw [←Bv,Bb _ _ AO];exact Ai _ _
 have k1:V0.heap[w.heap.size+1]?=some (.cells #[.string nm,.int .i64 st,.int .i64 en,.int .i64 da] 75):=by rw [←Bv];exact E4 _ _ AO
 have y1:V0.cell? ⟨w.heap.size,0,none⟩=some (.slice (some ⟨b,off,none⟩) n cap):=by simp [World.cell?,k0]
 have y2:V0.cell? ⟨b,off+k,none⟩=some (.int .u32 (cd k)):=by rw [b0.cell (p:=⟨b,off+k,none⟩) hb];exact x1
 have HD0:=A3 (I1.out V0 b0);go_enter Tryz.func60,Tryz.ntmps60;go_upto_region 1 with fail;have⟨K0,K1,B0⟩:=B8 k0 k1 b0;clear Bv k0 k1 b0 fin x1 I1;go_upto_region 2 with (go_at_call 22;refine (Calls.ext HD0.out).mono ?_;rintro e w' ⟨rfl,y,rfl⟩);obtain⟨V2,hV2⟩:=AA (y.w.alloc (.cells #[.int .u8 op,.int .i64 ia,.int .i64 ib,.int .i64 ic,.int .i64 AG] 67));have b2:Below V0.heap.size V0 V2:=hV2▸y.h.alloc y.h.size _;have k2:V2.heap[y.w.heap.size]?=some (.cells #[.int .u8 op,.int .i64 ia,.int .i64 ib,.int .i64 ic,.int .i64 AG] 67):=hV2▸Ai _ _;have s2:y.w.heap.size<V2.heap.size:=by rw [←hV2];simp
 have s3:=y.h.size;obtain⟨q,hq⟩:=AA y.w.heap.size;rw [hV2];rw [hq] at k2 s2 s3 ⊢;have e1:V2.cell? ⟨w.heap.size+1,1,none⟩=some (.int .i64 st):=by rw [b2.cell (p:=⟨w.heap.size+1,1,none⟩) (by show w.heap.size+1<_;omega)];simp [World.cell?,K1.out]
 have e2:V2.cell? ⟨w.heap.size+1,2,none⟩=some (.int .i64 en):=by rw [b2.cell (p:=⟨w.heap.size+1,2,none⟩) (by show w.heap.size+1<_;omega)];simp [World.cell?,K1.out]
 have e3:V2.cell? ⟨w.heap.size,3,none⟩=some (.int .i64 lk):=by rw [b2.cell (p:=⟨w.heap.size,3,none⟩) (by show w.heap.size<_;omega)];simp [World.cell?,K0.out]
 have g0:V2.cell? ⟨q,0,none⟩=some (.int .u8 op):=by simp [World.cell?,k2]
 have g1:V2.cell? ⟨q,1,none⟩=some (.int .i64 ia):=by simp [World.cell?,k2]
 have g2:V2.cell? ⟨q,2,none⟩=some (.int .i64 ib):=by simp [World.cell?,k2]
 have g3:V2.cell? ⟨q,3,none⟩=some (.int .i64 ic):=by simp [World.cell?,k2]
 have g4:V2.cell? ⟨q,4,none⟩=some (.int .i64 AG):=by simp [World.cell?,k2]
 have B2:=A3 (B0.out.trans (b2.mono A0));have s4:V0.heap.size≤V2.heap.size:=b2.size;have s5:w.heap.size+1<V2.heap.size:=by omega
 have s6:w.heap.size<V2.heap.size:=by omega
 clear hV2 hq k2 y b2 y1 y2 HD0 K0 K1 B0;go_wp2_with (go_at_call 62;refine (Calls.ext (Sk.out _)).mono ?_;rintro e w' ⟨rfl,y,rfl⟩);all_goals
  go_ret;refine⟨⟨_,rfl,?_⟩,?_⟩
  ·rw [HK.out]
   have hG:=HG.out;first
    | (simp_all;done)
    | (simp_all;omega)
  ·first
    | exact B2.out
    | exact Ext.below B2.out A0 y
def E3:Int→List CP→Int→Prop
 | a,[],z=>a=z
 | a,e :: es,z=>e.st=a∧e.st<e.en∧E3 e.en es z
theorem E3.append {l2:List CP}:∀ {l1:List CP} {a z:Int},E3 a (l1++l2) z↔∃m,E3 a l1 m∧E3 m l2 z
 | [],a,z=>⟨fun h=>⟨a,rfl,h⟩,fun ⟨m,h1,h2⟩=>by cases h1;exact h2⟩
 | e :: l1,a,z=>by
  constructor
  ·rintro⟨h1,h2,h3⟩
   obtain⟨m,h4,h5⟩:=E3.append.1 h3;exact⟨m,⟨h1,h2,h4⟩,h5⟩
  ·rintro⟨m,⟨h1,h2,h3⟩,h4⟩
   exact⟨h1,h2,E3.append.2 ⟨m,h3,h4⟩⟩
theorem E3.Sd:∀ {l:List CP} {a z z':Int},E3 a l z→E3 a l z'→z=z'
 | [],a,z,z',h,h'=>by cases h;exact h'
 | e :: l,a,z,z',h,h'=>E3.Sd h.2.2 h'.2.2
theorem E3.le:∀ {l:List CP} {a z:Int},E3 a l z→a≤z
 | [],a,z,h=>by cases h;exact JE _
 | e :: l,a,z,⟨h1,h2,h3⟩=>by have:=E3.le h3;omega
theorem E3.bounds:∀ {l:List CP} {a z:Int},E3 a l z→∀e∈l,a≤e.st∧e.st<e.en∧e.en≤z
 | [],a,z,h,e,he=>by cases he
 | e :: l,a,z,⟨h1,h2,h3⟩,e',he=>by
  rcases Di.1 he with rfl|he
  ·have:=E3.le h3;omega
  ·have:=E3.bounds h3 e' he;omega
theorem E3.snoc {l:List CP} {e:CP} {a m:Int} (h:E3 a l m) (h1:e.st=m) (h2:e.st<e.en):E3 a (l++[e]) e.en:=
 E3.append.2 ⟨m,h,h1,h2,rfl⟩
structure Ru (n:Nat) (cd:Nat→Int) (AU:List CP) (sh lk:Int):Prop where
 code:n≤4096
 cnt:AU.length≤8
 shB:0≤sh∧sh≤64
 lkB:0≤lk∧lk≤4
 da:∀e∈AU,0≤e.da∧e.da≤512
 nm:∀e∈AU,1≤e.nm.size∧e.nm.size≤12
 ch:E3 0 AU n
 ins:∀e∈AU,∀k:Nat,e.st≤k→(k:Int)<e.en→Z5 cd lk e.st e.en k
theorem H8 {α:Type} {l:List α} {j:Nat} {e:α} (h:l[j]?=some e):l.take (j+1)=l.take j++[e]:=by
 rw [G4,h];rfl
theorem Il.cells {w wr:World} {A:Option Addr} {cap:Nat} {l:List CP} (h:Il w (.slice A l.length cap) l) (hb:Below w.heap.size w wr) {j:Nat} (hj:j<l.length) :
  ∃e b off,l[j]?=some e∧A=some ⟨b,off,none⟩∧b<w.heap.size∧wr.cell? ⟨b,off+j*4,none⟩=some (.string e.nm)∧wr.cell? ⟨b,off+j*4+1,none⟩=some (.int .i64 e.st)∧wr.cell? ⟨b,off+j*4+2,none⟩=some (.int .i64 e.en)∧wr.cell? ⟨b,off+j*4+3,none⟩=some (.int .i64 e.da):=by
 obtain⟨A',cap',hv,h2,h3,h4⟩:=(h.below hb).at_;cases hv;obtain⟨A',cap',hv,h2',h3',h4'⟩:=h.at_;cases hv;obtain⟨b,off,rfl,hlt,hc⟩:=h4 A0;obtain⟨b',off',hA,hlt',_⟩:=h4' A0;cases hA;have he:l[j]?=some l[j]:=Aj hj;obtain⟨c0,c1,c2,c3⟩:=hc j _ he;exact⟨l[j],b,off,he,rfl,hlt',c0,c1,c2,c3⟩
theorem amJ (cv ev:Value) (sh lk:Int) (n:Nat) (cd:Nat→Int) (AU:List CP) (w:World) (T:C8 w) (HW:Words w cv n cd) (HE:Il w ev AU) :
  Calls Tryz.prog 30 #[.agg #[cv,ev,.int .i64 sh,.int .i64 lk]] w fun e w'=>(∃r,e=.returned (.int .i64 r)∧(r=0↔Ru n cd AU sh lk))∧Below w.heap.size w w':=by
 have hn:=HW.le;obtain⟨A,cap,hcv,hc1,hc2,hrd⟩:=HW.at_;obtain⟨EA,Cz,hev,he1,he2,hed⟩:=HE.at_;have h63:AU.length≤2 ^ 63 - 1:=by unfold maxLen at he2;omega
 have⟨OO,QL,HT⟩:=B8 HW HE T;clear hrd hed HW HE T;subst hcv hev;have HBT:=T4;obtain⟨V0,Bv⟩:=AA (w.alloc (.cells #[.slice A n cap,.slice EA AU.length Cz,.int .i64 sh,.int .i64 lk] 25));have b0:Below w.heap.size w V0:=Bv▸(AP _ _).alloc (AH _) _;have s0:w.heap.size<V0.heap.size:=by rw [←Bv];simp
 have k0:V0.heap[w.heap.size]?=some (.cells #[.slice A n cap,.slice EA AU.length Cz,.int .i64 sh,.int .i64 lk] 25):=by rw [←Bv];exact Ai _ _
 have y0:V0.cell? ⟨w.heap.size,0,none⟩=some (.slice A n cap):=by simp [World.cell?,k0]
 have y1:V0.cell? ⟨w.heap.size,1,none⟩=some (.slice EA AU.length Cz):=by simp [World.cell?,k0]
 have y2:V0.cell? ⟨w.heap.size,2,none⟩=some (.int .i64 sh):=by simp [World.cell?,k0]
 have y3:V0.cell? ⟨w.heap.size,3,none⟩=some (.int .i64 lk):=by simp [World.cell?,k0]
 have⟨K0,B0⟩:=AL k0 b0;clear k0 b0;by_cases q1:n≤4096;case neg=>
  have d1:decide ((4096:Int)<(n:Int))=true:=by simp;omega
  go_enter ew,dR;go_wp2_with fail;go_ret;exact⟨⟨2,rfl,by simp;intro h;exact q1 h.code⟩,B0.out⟩
 have d1:decide ((4096:Int)<(n:Int))=false:=by simp;omega
 by_cases q2:AU.length≤8;case neg=>
  have d2:decide ((8:Int)<(AU.length:Int))=true:=by simp;omega
  go_enter ew,dR;go_wp2_with fail;go_ret;exact⟨⟨2,rfl,by simp;intro h;exact q2 h.cnt⟩,B0.out⟩
 have d2:decide ((8:Int)<(AU.length:Int))=false:=by simp;omega
 by_cases q3:0≤sh∧sh≤64;case neg=>
  have d3:decide (0≤sh∧sh≤64)=false:=Aq q3;have H3:∀W:World,Calls Tryz.prog 58 #[.int .i64 sh,.int .i64 64] W fun e w'=>e=.returned (.bool false)∧W=w':=fun W=>by have:=T4 sh 64 W;rwa [d3] at this
  clear d3 HBT;go_enter ew,dR;go_wp2_with (go_at_call 58;refine (H3 _).mono ?_;rintro e w' ⟨rfl,rfl⟩);go_ret;exact⟨⟨2,rfl,by simp;intro h;exact q3 h.shB⟩,B0.out⟩
 have H3:∀W:World,Calls Tryz.prog 58 #[.int .i64 sh,.int .i64 64] W fun e w'=>e=.returned (.bool true)∧W=w':=fun W=>by have:=T4 sh 64 W;rwa [AR q3] at this
 by_cases q4:0≤lk∧lk≤4;case neg=>
  have H4:∀W:World,Calls Tryz.prog 58 #[.int .i64 lk,.int .i64 4] W fun e w'=>e=.returned (.bool false)∧W=w':=fun W=>by have:=T4 lk 4 W;rwa [Aq q4] at this
  clear HBT;go_enter ew,dR;go_wp2_with (go_at_call 58;(first|(with_reducible refine (H3 _).mono ?_)|(with_reducible refine (H4 _).mono ?_));rintro e w' ⟨rfl,rfl⟩);go_ret;exact⟨⟨2,rfl,by simp;intro h;exact q4 h.lkB⟩,B0.out⟩
 have H4:∀W:World,Calls Tryz.prog 58 #[.int .i64 lk,.int .i64 4] W fun e w'=>e=.returned (.bool true)∧W=w':=fun W=>by have:=T4 lk 4 W;rwa [AR q4] at this
 go_enter ew,dR;go_upto_region 5 with (go_at_call 58;(first|(with_reducible refine (H3 _).mono ?_)|(with_reducible refine (H4 _).mono ?_));rintro e w' ⟨rfl,rfl⟩);clear H3 H4 Bv d1 d2;go_loopw [5,42] (fun a5 a42 wr=>∃j:Nat,j≤AU.length∧a42=.int .i64 (j:Int)∧(∀e∈AU.take j,0≤e.da∧e.da≤512)∧Below V0.heap.size V0 wr) (fun _ a42 _=>AU.length - (intOf a42).toNat);case atStart=>exact⟨0,Ck _,rfl,by simp,AP _ _⟩
 case round=>
  obtain⟨j,hj,rfl,hda,hb⟩:=hrel;have⟨HDA,HB,BW⟩:=B8 hda hb (B0.out.trans (hb.mono A0));have s1:=hb.size;clear hda hb;by_cases hlt:j<AU.length
  ·obtain⟨e,b,off,he,rfl,hbl,c0,c1,c2,c3⟩:=QL.out.cells BW.out hlt
   have⟨CU,KJ⟩:=AL (H8 he) (Bf he);have dl:decide ((j:Int)<(AU.length:Int))=true:=by simpa using hlt
   clear he;by_cases q5:0≤e.da∧e.da≤512
   ·have H5:∀W:World,Calls Tryz.prog 58 #[.int .i64 e.da,.int .i64 512] W fun e w'=>e=.returned (.bool true)∧W=w':=fun W=>by have:=T4 e.da 512 W;rwa [AR q5] at this
    go_wp2_with (go_at_call 58;refine (H5 _).mono ?_;rintro e w' ⟨rfl,rfl⟩);go_roundw;case rel=>
     refine⟨j+1,by omega,by go_num,fun x hx=>?_,HB.out.alloc A0 _⟩;rw [CU.out] at hx;rcases CG.1 hx with h|h
     ·exact HDA.out x h
     ·simp at h;rw [h];exact q5
    case measure=>exact Aa
   ·have H5:∀W:World,Calls Tryz.prog 58 #[.int .i64 e.da,.int .i64 512] W fun e w'=>e=.returned (.bool false)∧W=w':=fun W=>by have:=T4 e.da 512 W;rwa [Aq q5] at this
    go_wp2_with (go_at_call 58;refine (H5 _).mono ?_;rintro e w' ⟨rfl,rfl⟩);go_ret;exact⟨⟨2,rfl,by simp;intro h;exact q5 (h.da e KJ.out)⟩,BW.out.alloc A0 _⟩
  ·obtain rfl:j=AU.length:=by omega
   have dl:decide ((AU.length:Int)<(AU.length:Int))=false:=by simp
   rw [Hx] at HDA;obtain⟨V1,rfl⟩:∃V1:World,V1=wr:=⟨_,rfl⟩;have z0:V1.cell? ⟨w.heap.size,0,none⟩=some (.slice A n cap):=by rw [HB.out.cell (p:=⟨w.heap.size,0,none⟩) s0];exact y0
   have z1:V1.cell? ⟨w.heap.size,1,none⟩=some (.slice EA AU.length Cz):=by rw [HB.out.cell (p:=⟨w.heap.size,1,none⟩) s0];exact y1
   clear hlt;go_upto_region 11 with fail;go_loopw [7,55] (fun a7 a55 wr=>∃j:Nat,j≤AU.length∧a55=.int .i64 (j:Int)∧(∀e∈AU.take j,1≤e.nm.size∧e.nm.size≤12)∧Below V0.heap.size V0 wr) (fun _ a55 _=>AU.length - (intOf a55).toNat);case atStart=>exact⟨0,Ck _,rfl,by simp,HB.out⟩
   case round=>
    obtain⟨j,hj,rfl,hnm,hb⟩:=hrel;have HNM:=A3 hnm;clear HB BW z0 z1;have⟨HB,BW⟩:=AL hb (B0.out.trans (hb.mono A0));have s1:=hb.size;clear hnm hb dl;by_cases hlt:j<AU.length
    ·obtain⟨e,b,off,he,rfl,hbl,c0,c1,c2,c3⟩:=QL.out.cells BW.out hlt
     have⟨CU,KJ⟩:=AL (H8 he) (Bf he);have hnl:=QL.out.nm e KJ.out;have dl:decide ((j:Int)<(AU.length:Int))=true:=by simpa using hlt
     clear he;by_cases q5:1≤e.nm.size∧e.nm.size≤12
     ·have H5:∀W:World,Calls Tryz.prog 59 #[.string e.nm] W fun e w'=>e=.returned (.bool true)∧W=w':=fun W=>by have:=od e.nm W hnl;rwa [AR q5] at this
      go_wp2_with (go_at_call 59;refine (H5 _).mono ?_;rintro e w' ⟨rfl,rfl⟩);go_roundw;case rel=>
       refine⟨j+1,by omega,by go_num,fun x hx=>?_,HB.out.alloc A0 _⟩;rw [CU.out] at hx;rcases CG.1 hx with h|h
       ·exact HNM.out x h
       ·simp at h;rw [h];exact q5
      case measure=>exact Aa
     ·have H5:∀W:World,Calls Tryz.prog 59 #[.string e.nm] W fun e w'=>e=.returned (.bool false)∧W=w':=fun W=>by have:=od e.nm W hnl;rwa [Aq q5] at this
      go_wp2_with (go_at_call 59;refine (H5 _).mono ?_;rintro e w' ⟨rfl,rfl⟩);go_ret;exact⟨⟨6,rfl,by simp;intro h;exact q5 (h.nm e KJ.out)⟩,BW.out.alloc A0 _⟩
    ·obtain rfl:j=AU.length:=by omega
     have dl:decide ((AU.length:Int)<(AU.length:Int))=false:=by simp
     rw [Hx] at HNM;obtain⟨V2,rfl⟩:∃V2:World,V2=wr:=⟨_,rfl⟩;have z0:V2.cell? ⟨w.heap.size,0,none⟩=some (.slice A n cap):=by rw [HB.out.cell (p:=⟨w.heap.size,0,none⟩) s0];exact y0
     have z1:V2.cell? ⟨w.heap.size,1,none⟩=some (.slice EA AU.length Cz):=by rw [HB.out.cell (p:=⟨w.heap.size,1,none⟩) s0];exact y1
     clear hlt;go_upto_region 18 with fail;go_loopw [8,10,67] (fun a8 a10 a67 wr=>∃(j:Nat) (m:Int),j≤AU.length∧a67=.int .i64 (j:Int)∧a8=.int .i64 m∧E3 0 (AU.take j) m∧Below V0.heap.size V0 wr) (fun _ _ a67 _=>AU.length - (intOf a67).toNat);case atStart=>exact⟨0,0,Ck _,rfl,rfl,rfl,HB.out⟩
     case round=>
      obtain⟨j,m,hj,rfl,rfl,hch,hb⟩:=hrel;have Qo:=A3 hch;clear HB BW z0 z1;have⟨HB,BW⟩:=AL hb (B0.out.trans (hb.mono A0));have s1:=hb.size;clear hch hb dl;by_cases hlt:j<AU.length
      ·obtain⟨e,b,off,he,rfl,hbl,c0,c1,c2,c3⟩:=QL.out.cells BW.out hlt
       have CU:=A3 (H8 he);have DU:=A3 (show ¬(e.st=m∧e.st<e.en)→∀z,¬E3 0 AU z from fun hno z hz=>by
        have e1:AU=AU.take j++(e :: AU.drop (j+1)):=by
         have:=ZM j AU;rw [iQ hlt] at this;have e2:AU[j]=e:=by rw [Aj hlt] at he;exact Gl he
         rw [e2] at this;exact this.symm
        rw [e1] at hz;obtain⟨m',h1,h2⟩:=E3.append.1 hz;have:=E3.Sd Qo.out h1
        exact hno ⟨by rw [this];exact h2.1,h2.2.1⟩)
       have dl:decide ((j:Int)<(AU.length:Int))=true:=by simpa using hlt
       clear he;by_cases q5:e.st=m
       ·by_cases q6:e.st<e.en
        ·have d5:(e.st != m)=false:=by simp [q5]
         have d6:decide (e.en≤e.st)=false:=by simp;omega
         have HQ:=A3 (Dt q5 q6);clear q5 q6;go_wp2_with fail;go_roundw;case rel=>
          refine⟨j+1,e.en,by omega,by go_num,rfl,?_,HB.out.alloc A0 _⟩;rw [CU.out];exact Qo.out.snoc HQ.out.1 HQ.out.2
         case measure=>exact Aa
        ·have d5:(e.st != m)=false:=by simp [q5]
         have d6:decide (e.en≤e.st)=true:=by simp;omega
         have HQ:=A3 (DU.out (fun h=>q6 h.2));clear q5 q6;go_wp2_with fail;go_ret;exact⟨⟨14,rfl,by simp;intro h;exact HQ.out _ h.ch⟩,BW.out.alloc A0 _⟩
       ·have d5:(e.st != m)=true:=by simp [q5]
        have HQ:=A3 (DU.out (fun h=>q5 h.1));clear q5;go_wp2_with fail;go_ret;exact⟨⟨14,rfl,by simp;intro h;exact HQ.out _ h.ch⟩,BW.out.alloc A0 _⟩
      ·obtain rfl:j=AU.length:=by omega
       have dl:decide ((AU.length:Int)<(AU.length:Int))=false:=by simp
       rw [Hx] at Qo;obtain⟨V3,rfl⟩:∃V3:World,V3=wr:=⟨_,rfl⟩;have z0:V3.cell? ⟨w.heap.size,0,none⟩=some (.slice A n cap):=by rw [HB.out.cell (p:=⟨w.heap.size,0,none⟩) s0];exact y0
       have z1:V3.cell? ⟨w.heap.size,1,none⟩=some (.slice EA AU.length Cz):=by rw [HB.out.cell (p:=⟨w.heap.size,1,none⟩) s0];exact y1
       clear hlt;by_cases q7:m=(n:Int)
       ·have d7:(m != (n:Int))=false:=by simp [q7]
        have Jg:=A3 (show E3 0 AU n by rw [←q7];exact Qo.out);clear q7 Qo;go_upto_region 27 with fail;go_loopw [12,13,14,93] (fun a12 a13 a14 a93 wr=>∃j:Nat,j≤AU.length∧a93=.int .i64 (j:Int)∧(∀e∈AU.take j,∀k:Nat,e.st≤k→(k:Int)<e.en→Z5 cd lk e.st e.en k)∧Below V0.heap.size V0 wr) (fun _ _ _ a93 _=>AU.length - (intOf a93).toNat);case atStart=>exact⟨0,Ck _,rfl,by simp,HB.out⟩
        case round=>
         obtain⟨j,hj,rfl,hins,hb⟩:=hrel;have Ei:=A3 hins;clear HB BW z0 z1 d7;have⟨HB,BW⟩:=AL hb (B0.out.trans (hb.mono A0));have s1:=hb.size;clear hins hb dl;by_cases hlt:j<AU.length
         ·obtain⟨e,b,off,he,rfl,hbl,c0,c1,c2,c3⟩:=QL.out.cells BW.out hlt
          have⟨CU,KJ⟩:=AL (H8 he) (Bf he);obtain⟨g1,g2,g3⟩:=Jg.out.bounds e KJ.out;have dl:decide ((j:Int)<(AU.length:Int))=true:=by simpa using hlt
          clear he;go_upto_region 30 with fail;obtain⟨X,hX⟩:=AA (wr.alloc (.cells #[.string e.nm,.int .i64 e.st,.int .i64 e.en,.int .i64 e.da] 75));have bX:Below V0.heap.size V0 X:=hX▸HB.out.alloc A0 _;have kX:X.heap[wr.heap.size]?=some (.cells #[.string e.nm,.int .i64 e.st,.int .i64 e.en,.int .i64 e.da] 75):=hX▸Ai _ _;have sX:wr.heap.size<X.heap.size:=by rw [←hX];simp
          rw [hX];have⟨BX,KX⟩:=AL bX kX;obtain⟨q,hq⟩:=AA wr.heap.size;rw [hq] at KX sX s1 ⊢;clear hX bX kX HB BW c0 c1 c2 c3 hq dl;obtain⟨p0,hp0⟩:∃p0:Nat,e.st=(p0:Int):=⟨e.st.toNat,by omega⟩;have LS:=A3 hp0;clear hp0;obtain⟨wo,rfl⟩:∃wo:World,wo=wr:=⟨_,rfl⟩;go_loopw [13,14] (fun a13 a14 wr=>∃p:Nat,a13=.int .i64 (p:Int)∧e.st≤(p:Int)∧(p:Int)≤e.en∧(∀k:Nat,e.st≤k→k<p→Z5 cd lk e.st e.en k)∧Below X.heap.size X wr) (fun a13 _ _=>(e.en - intOf a13).toNat);case atStart=>exact⟨p0,by rw [LS.out],by have:=LS.out;omega,by have:=LS.out;omega,fun k h1 h2=>by have:=LS.out;omega,AP _ _⟩
          case round=>
           obtain⟨p,rfl,hp1,hp2,hok,hb⟩:=hrel;have⟨Em,Co,Ec⟩:=B8 hok hb (BX.out.trans (hb.mono A0));have BW:=A3 (B0.out.trans (Ec.out.mono A0));have s2:=hb.size;have v0:wr.cell? ⟨q,0,none⟩=some (.string e.nm):=by rw [hb.cell (p:=⟨q,0,none⟩) sX];simp [World.cell?,KX.out]
           have v1:wr.cell? ⟨q,1,none⟩=some (.int .i64 e.st):=by rw [hb.cell (p:=⟨q,1,none⟩) sX];simp [World.cell?,KX.out]
           have v2:wr.cell? ⟨q,2,none⟩=some (.int .i64 e.en):=by rw [hb.cell (p:=⟨q,2,none⟩) sX];simp [World.cell?,KX.out]
           have v3:wr.cell? ⟨q,3,none⟩=some (.int .i64 e.da):=by rw [hb.cell (p:=⟨q,3,none⟩) sX];simp [World.cell?,KX.out]
           have z0:wr.cell? ⟨w.heap.size,0,none⟩=some (.slice A n cap):=by rw [Ec.out.cell (p:=⟨w.heap.size,0,none⟩) s0];exact y0
           have z1:wr.cell? ⟨w.heap.size,1,none⟩=some (.slice (some ⟨b,off,none⟩) AU.length Cz):=by rw [Ec.out.cell (p:=⟨w.heap.size,1,none⟩) s0];exact y1
           have z2:wr.cell? ⟨w.heap.size,2,none⟩=some (.int .i64 sh):=by rw [Ec.out.cell (p:=⟨w.heap.size,2,none⟩) s0];exact y2
           have z3:wr.cell? ⟨w.heap.size,3,none⟩=some (.int .i64 lk):=by rw [Ec.out.cell (p:=⟨w.heap.size,3,none⟩) s0];exact y3
           clear hok hb;by_cases hpe:(p:Int)<e.en
           ·have dp:decide ((p:Int)<e.en)=true:=AR hpe
            have HCI:=A3 (aqL (.slice A n cap) (.slice (some ⟨b,off,none⟩) AU.length Cz) sh lk e.nm e.st e.en e.da n cd p A0 wr (HT.out.below BW.out) (OO.out.below BW.out));go_wp2_with (go_at_call 60;refine HCI.out.mono ?_;rintro e' W5 ⟨⟨r,rfl,hr⟩,hb5⟩)
            ·rename_i hne
             have hr0:¬(r=0):=by simpa using hne
             go_ret;exact⟨⟨r,rfl,by simp only [hr0,false_iff];intro h;exact hr0 (hr.2 (h.ins e KJ.out p A0 hpe))⟩,BW.out.trans (hb5.mono (by have:=BW.out.size;omega))⟩
            ·rename_i hne
             have hr0:r=0:=by simpa using hne
             go_roundw;case rel=>
              refine⟨p+1,by go_num,by omega,by omega,fun k h1 h2=>?_,Co.out.trans (hb5.mono A0)⟩;by_cases hkp:k=p
              ·rw [hkp];exact hr.1 hr0
              ·exact Em.out k h1 A0
             case measure=>exact Aa
           ·have dp:decide ((p:Int)<e.en)=false:=Aq hpe
            go_wp2_with fail;go_roundw;case rel=>
             refine⟨j+1,by omega,by go_num,fun x hx k h1 h2=>?_,Ec.out⟩;rw [CU.out] at hx;rcases CG.1 hx with h|h
             ·exact Ei.out x h k h1 h2
             ·simp at h
              subst h;exact Em.out k h1 A0
            case measure=>exact Aa
         ·obtain rfl:j=AU.length:=by omega
          have dl:decide ((AU.length:Int)<(AU.length:Int))=false:=by simp
          rw [Hx] at Ei;go_wp2_with fail;go_ret;exact⟨⟨0,rfl,by simp;exact⟨q1,q2,q3,q4,HDA.out,HNM.out,Jg.out,Ei.out⟩⟩,BW.out⟩
       ·have d7:(m != (n:Int))=true:=by simp [q7]
        go_wp2_with fail;go_ret;exact⟨⟨14,rfl,by simp;intro h;exact q7 (E3.Sd Qo.out h.ch)⟩,BW.out⟩
theorem am5 (v:Value) (l:List Int) (x:Int) (w:World) (H:Ints w v l) :
  Calls Tryz.prog 63 #[v,.int .i64 x] w fun e w'=>(∃r:Int,e=.returned (.int .i64 r)∧(0≤r↔x∈l))∧w=w':=by
 obtain⟨A,cap,rfl,h2,h3,h4⟩:=H;have HC:=A3 h4;unfold maxLen at h3;clear h4;go_enter Tryz.func63,Tryz.ntmps63;go_upto_region 2 with fail;go_loopw [5,8] (fun a5 a8 wr=>∃j:Nat,j≤l.length∧a8=.int .i64 (j:Int)∧x∉l.take j∧wr=w) (fun _ a8 _=>l.length - (intOf a8).toNat);case atStart=>exact⟨0,Ck _,rfl,by simp,rfl⟩
 case round=>
  obtain⟨j,hj,rfl,hno,hw⟩:=hrel;subst hw;have DU:=A3 hno;clear hno;by_cases hlt:j<l.length
  ·obtain⟨b,off,rfl,hb,hc⟩:=HC.out A0
   obtain⟨s,hs⟩:=AA (l[j]);have x1:wr.cell? ⟨b,off+j,none⟩=some (.int .i64 s):=by rw [hc j hlt,← hs];simp [List.getD,Aj hlt]
   have HS:=A3 (show l[j]?=some s by rw [Aj hlt,hs]);have dl:decide ((j:Int)<(l.length:Int))=true:=by simpa using hlt
   clear hc hs;by_cases q:x=s
   ·have d:(x==s)=true:=by simp [q]
    have HM:=A3 (show x∈l by rw [q];exact Bf HS.out);clear q;go_wp2_with fail;go_ret;exact⟨⟨(j:Int),rfl,by simp [HM.out]⟩,rfl⟩
   ·have d:(x==s)=false:=by simp [q]
    have HQ:=A3 q;clear q;go_wp2_with fail;go_roundw;case rel=>
     refine⟨j+1,by omega,by go_num,?_,by first|rfl|trivial⟩;rw [H8 HS.out];intro h;rcases CG.1 h with h|h
     ·exact DU.out h
     ·simp at h;exact HQ.out h
    case measure=>exact Aa
  ·obtain rfl:j=l.length:=by omega
   have dl:decide ((l.length:Int)<(l.length:Int))=false:=by simp
   rw [Hx] at DU;go_wp2_with fail;go_ret;exact⟨⟨-1,rfl,by simp;exact DU.out⟩,rfl⟩
theorem amq (v:Value) (l:List Int) (x:Int) (w:World) (H:Ints w v l) :
  Calls Tryz.prog 34 #[v,.int .i64 x] w fun e w'=>e=.returned (.bool (decide (x∈l)))∧w=w':=by
 have HI:=am5 v l x w H;go_enter Tryz.func34,Tryz.ntmps34;go_wp2_with (go_at_call 63;refine HI.mono ?_;rintro e w' ⟨⟨r,rfl,hr⟩,rfl⟩);go_ret;refine⟨EE ?_,rfl⟩;first|rfl|exact XF.2 hr
section
variable (c:Int→Ins) (st:Int) (D:List Int)
def EN (x:Int):Bool:=decide (x=st) || D.any (fun a=>decide (x∈Gx (c a) a))
theorem SZ (x:Int):EN c st D x=true↔Og c st D x:=by
 unfold EN Og;simp
def Mi (L:List (Int×Int)) (t:Int):List (Int×Int):=match L.reverse with | []=>[]|(a,_) :: r=>(r.reverse)++[(a,t)]
def blk:Nat→List (Int×Int)
 | 0=>[]
 | m+1=>if st+m∈D then (if EN c st D (st+m)=true then blk m++[(st+m,st+m+1)] else Mi (blk m) (st+m+1)) else blk m
end
theorem ZV (L:List (Int×Int)) (a b t:Int):Mi (L++[(a,b)]) t=L++[(a,t)]:=by simp [Mi]
theorem mX (L:List (Int×Int)) (h:L≠[]):∃M a b,L=M++[(a,b)]:=by
 rcases nX L with h'|⟨t,p,h'⟩
 ·exact absurd h' h
 ·exact⟨t,p.1,p.2,h'⟩
structure pQ (c:Int→Ins) (st:Int) (D:List Int) (m:Nat) (L:List (Int×Int)):Prop where
 lo:∀p∈L,st≤p.1∧p.1<p.2∧p.2≤st+m
 Ph:L.Pairwise (fun p q=>p.2≤q.1)
 last:∀p∈L,p.2 - 1∈D
 lead:∀p∈L,p.1∈D∧EN c st D p.1=true
 cl:∀p∈L,p.2<st+m→p.2∈D→EN c st D p.2=true
 num:∀x,st≤x→x<st+m→x∈D→EN c st D x=true→∃p∈L,p.1=x
 ne:st∈D→0<m→L≠[]
theorem jh (c:Int→Ins) (st:Int) (D:List Int):EN c st D st=true:=by simp [EN]
theorem YM (c:Int→Ins) (st:Int) (D:List Int):∀m,pQ c st D m (blk c st D m)
 | 0=>⟨by simp [blk],by simp [blk],by simp [blk],by simp [blk],by simp [blk],fun x h1 h2=>by omega,fun _ h=>by omega⟩
 | m+1=>by
  have h:=YM c st D m;unfold blk;by_cases hD:st+(m:Int)∈D
  ·rw [AE hD]
   by_cases hl:EN c st D (st+m)=true
   ·rw [AE hl]
    refine⟨fun p hp=>?_,?_,fun p hp=>?_,fun p hp=>?_,fun p hp h1 h2=>?_,fun x h1 h2 h3 h4=>?_,fun _ _=>by simp⟩
    ·rcases CG.1 hp with hp|hp
     ·have:=h.lo p hp;omega
     ·simp at hp;subst hp;simp;omega
    ·rw [vH]
     refine⟨h.Ph,by simp,fun p hp q hq=>?_⟩;simp at hq;subst hq;have:=h.lo p hp;simp;omega
    ·rcases CG.1 hp with hp|hp
     ·exact h.last p hp
     ·simp at hp;subst hp;simp only;rw [show st+(m:Int)+1 - 1=st+m by omega];exact hD
    ·rcases CG.1 hp with hp|hp
     ·exact h.lead p hp
     ·simp at hp;subst hp;exact⟨hD,hl⟩
    ·rcases CG.1 hp with hp|hp
     ·by_cases e:p.2=st+m
      ·rw [e];exact hl
      ·exact h.cl p hp A0 h2
     ·simp at hp;subst hp;simp at h1;omega
    ·by_cases e:x=st+m
     ·exact⟨(st+m,st+m+1),by simp,e.symm⟩
     ·obtain⟨p,hp,e⟩:=h.num x h1 A0 h3 h4
      exact⟨p,by simp [hp],e⟩
   ·rw [A9 hl]
    have hm:0<m:=by
     rcases TC m with e|e
     ·subst e
      exact absurd (by simpa using jh c st D) hl
     ·exact e
    by_cases hE:blk c st D m=[]
    ·rw [hE] at h ⊢
     refine⟨by simp [Mi],by simp [Mi],by simp [Mi],by simp [Mi],by simp [Mi],fun x h1 h2 h3 h4=>?_,fun h1 h2=>absurd rfl (h.ne h1 hm)⟩;by_cases e:x=st+m
     ·rw [e] at h4;exact absurd h4 hl
     ·obtain⟨p,hp,_⟩:=h.num x h1 A0 h3 h4
      cases hp
    ·obtain⟨M,a,b,hL⟩:=mX _ hE
     rw [hL,ZV];rw [hL] at h;have hab:=h.lo (a,b) AO;simp only at hab;have QF:=h.Ph;rw [vH] at QF;refine⟨fun p hp=>?_,?_,fun p hp=>?_,fun p hp=>?_,fun p hp h1 h2=>?_,fun x h1 h2 h3 h4=>?_,fun _ _=>by simp⟩
     ·rcases CG.1 hp with hp|hp
      ·have:=h.lo p (by simp [hp]);omega
      ·simp at hp;subst hp;simp only;omega
     ·rw [vH]
      refine⟨QF.1,by simp,fun p hp q hq=>?_⟩;simp at hq;subst hq;exact QF.2.2 p hp (a,b) AO
     ·rcases CG.1 hp with hp|hp
      ·exact h.last p (by simp [hp])
      ·simp at hp;subst hp;simp only;rw [show st+(m:Int)+1 - 1=st+m by omega];exact hD
     ·rcases CG.1 hp with hp|hp
      ·exact h.lead p (by simp [hp])
      ·simp at hp;subst hp;exact h.lead (a,b) AO
     ·rcases CG.1 hp with hp|hp
      ·have:=QF.2.2 p hp (a,b) AO
       simp only at this;exact h.cl p (by simp [hp]) A0 h2
      ·simp at hp;subst hp;simp at h1;omega
     ·by_cases e:x=st+m
      ·rw [e] at h4;exact absurd h4 hl
      ·obtain⟨p,hp,e⟩:=h.num x h1 A0 h3 h4
       rcases CG.1 hp with hp|hp
       ·exact⟨p,by simp [hp],e⟩
       ·simp at hp;subst hp;exact⟨(a,st+m+1),by simp,e⟩
  ·rw [A9 hD]
   refine⟨fun p hp=>?_,h.Ph,h.last,h.lead,fun p hp h1 h2=>?_,fun x h1 h2 h3 h4=>?_,fun h1 h2=>?_⟩
   ·have:=h.lo p hp;omega
   ·by_cases e:p.2=st+m
    ·rw [e] at h2;exact absurd h2 hD
    ·exact h.cl p hp A0 h2
   ·by_cases e:x=st+m
    ·rw [e] at h3;exact absurd h3 hD
    ·exact h.num x h1 A0 h3 h4
   ·rcases TC m with e|e
    ·subst e
     exact absurd (by simpa using h1) hD
    ·exact h.ne h1 e
theorem iu (c:Int→Ins) (st:Int) (D:List Int):∀m,(blk c st D m).length≤m
 | 0=>by simp [blk]
 | m+1=>by
  have h:=iu c st D m;unfold blk;split
  ·split
   ·simp;omega
   ·by_cases hE:blk c st D m=[]
    ·rw [hE];simp [Mi]
    ·obtain⟨M,a,b,hL⟩:=mX _ hE
     rw [hL] at h ⊢;rw [ZV];simp at h ⊢;omega
  ·omega
def LU (L:List (Int×Int)):Int→Option Value:=fun x=>(L.findIdx? (fun p=>p.1==x)).map (fun i=>.int .i64 (i:Int))
theorem yT:LU []=fun _=>none:=by funext x;simp [LU]
theorem zU (L:List (Int×Int)) (a b t:Int):LU (L++[(a,b)])=LU (L++[(a,t)]):=by
 funext x;unfold LU;simp [List.findIdx?_append]
theorem yL (L:List (Int×Int)) (a b:Int) (h:∀p∈L,p.1≠a):EK (LU L) a (.int .i64 (L.length:Int))=LU (L++[(a,b)]):=by
 funext x;unfold EK LU;rw [List.findIdx?_append];by_cases e:x=a
 ·subst e
  have:L.findIdx? (fun p=>p.1==x)=none:=by
   rw [List.findIdx?_eq_none_iff];intro p hp;simpa using h p hp
  rw [AE rfl,this];simp
 ·rw [A9 e]
  have:([(a,b)]:List (Int×Int)).findIdx? (fun p=>p.1==x)=none:=by
   simp;exact fun h=>e h.symm
  rw [this];simp
def idx (L:List (Int×Int)) (x:Int):Nat:=(L.findIdx? (fun p=>p.1==x)).getD 0
theorem iE {L:List (Int×Int)} {x:Int} (h:∃p∈L,p.1=x):LU L x=some (.int .i64 (idx L x:Int))∧idx L x<L.length∧(L.getD (idx L x) (0,0)).1=x:=by
 obtain⟨p,hp,e⟩:=h;have hs:(L.findIdx? (fun p=>p.1==x)).isSome:=by
  rw [List.findIdx?_isSome];simp only [mj];exact⟨p,hp,by simp [e]⟩
 obtain⟨i,hi⟩:=Option.isSome_iff_exists.1 hs;have h2:=List.findIdx?_eq_some_iff_getElem.1 hi;obtain⟨h3,h4,_⟩:=h2;unfold LU idx;rw [hi];refine⟨rfl,h3,?_⟩;simp only [Option.getD_some,List.getD_eq_getElem?_getD,Aj h3];simpa using h4
theorem FE {w:World} {B B':Nat} {e e':TypeId} {s s' n n':Nat} {v v':Value} {xs xs':List Value} (h:w.ownsRow B e s v n xs) (h':w.ownsRow B' e' s' v' n' xs') (hne:e≠e') (q:Nat) (hq:v.ownBlock=some q):v'.ownBlock≠some q:=by
 intro hq';rcases h.2 with⟨rfl,_⟩|⟨g,cap,cur,rfl,_,hg,_⟩
 ·cases hq
 ·rcases h'.2 with⟨rfl,_⟩|⟨g',cap',cur',rfl,_,hg',_⟩
  ·cases hq'
  ·simp [Value.ownBlock] at hq hq'
   subst hq hq';rw [hg] at hg';cases hg';exact hne rfl
theorem grown_of {w w2 W':World} {row:Option Nat} (hb:Below w.heap.size w w2) (hg:w2.grownBy W' row):w.grownBy W' row:=
 ⟨hg.os.trans hb.os,hg.tape.trans hb.tape,hg.output.trans hb.output,EM hb.size hg.size,fun k hk hne=>(hg.block k (by have:=hb.size;omega) hne).trans (hb.block k hk)⟩
theorem Hh (w:World) (g o:Nat) (u:Value):w.grownBy (w.setCell ⟨g,o,none⟩ u) (some g):=
 ⟨rfl,rfl,rfl,by simp,fun k _ hne=>BL _ _ _ _ (fun e=>hne Rq)⟩
def upd {α:Type} (f:Nat→α) (i:Nat) (x:α):Nat→α:=fun j=>if j=i then x else f j
def ND (L:List (Int×Int)) (val:Nat→Value):List Value:=(List.range L.length).flatMap fun i=>[.int .i64 (L.getD i (0,0)).1,.int .i64 (L.getD i (0,0)).2,val i]
theorem pP {f:Nat→List Value} (hf:∀i,(f i).length=3):∀(n i j:Nat),i<n→j<3→((List.range n).flatMap f)[i*3+j]?=(f i)[j]?
 | n+1,i,j,hi,hj=>by
  rw [J5,QD];have hl:((List.range n).flatMap f).length=n*3:=by
   clear hi;induction n with
   | zero=>rfl
   | succ n ih=>rw [J5,QD,FO,ih];simp [hf];omega
  by_cases e:i<n
  ·rw [JJ A0]
   exact pP hf n i j e hj
  ·obtain rfl:i=n:=by omega
   rw [J4 A0,hl];simp
theorem adQ {f:Nat→List Value} (hf:∀i,(f i).length=3) (n:Nat):((List.range n).flatMap f).length=n*3:=by
 induction n with
 | zero=>rfl
 | succ n ih=>rw [J5,QD,FO,ih];simp [hf];omega
theorem fB (L:List (Int×Int)) (val:Nat→Value):(ND L val).length=L.length*3:=adQ (fun _=>rfl) _
theorem Qy (L:List (Int×Int)) (val:Nat→Value) {i j:Nat} (hi:i<L.length) (hj:j<3):(ND L val)[i*3+j]?=[.int .i64 (L.getD i (0,0)).1,.int .i64 (L.getD i (0,0)).2,val i][j]?:=pP (f:=fun i=>[.int .i64 (L.getD i (0,0)).1,.int .i64 (L.getD i (0,0)).2,val i]) (fun _=>rfl) _ _ _ hi hj
theorem zR (L:List (Int×Int)) (val:Nat→Value) {i:Nat} (hi:i<L.length) (v:Value):(ND L val).set (i*3+2) v=ND L (upd val i v):=by
 apply JX;intro q;by_cases hq:q<L.length*3
 ·obtain⟨a,b,hb,rfl⟩:∃a b,b<3∧q=a*3+b:=⟨q / 3,q % 3,Nat.mod_lt _ A0,by omega⟩
  have ha:a<L.length:=by omega
  rw [IY,fB,Qy L _ ha hb,Qy L _ ha hb];by_cases e:i*3+2=a*3+b
  ·obtain rfl:a=i:=by omega
   obtain rfl:b=2:=by omega
   rw [AE rfl,AE A0];simp [upd]
  ·rw [A9 e]
   obtain rfl|rfl|rfl:b=0∨b=1∨b=2:=by omega
   ·rfl
   ·rfl
   ·have:a≠i:=by omega
    simp [upd,this]
 ·rw [E0 (by rw [NP,fB];omega),E0 (by rw [fB];omega)]
theorem amF (n:Nat) (val:Nat→Value) {p:Nat} (hp:p<n) (v:Value):((List.range n).map fun i=>val (n+i)).set p v=(List.range n).map fun i=>upd val (n+p) v (n+i):=by
 apply JX;intro q;rw [IY];simp only [ED,kT,Cr];by_cases e:p=q
 ·subst e
  rw [AE rfl,AE hp,Ev hp];simp [upd]
 ·rw [A9 e]
  by_cases hq:q<n
  ·rw [Ev hq]
   simp [upd];intro h;omega
  ·rw [E0 (by simpa using hq)]
   rfl
structure BN (V wr:World) (gb nb g B9 pg:Nat) (L:List (Int×Int)) (val:Nat→Value) (Ay:Nat→List Int):Prop where
 gV:gb<V.heap.size
 nV:nb<V.heap.size
 gn:gb≠nb
 os:wr.os=V.os
 tape:wr.tape=V.tape
 output:wr.output=V.output
 sz:V.heap.size≤wr.heap.size
 blk:∀k,k<V.heap.size→k≠gb→k≠nb→wr.heap[k]?=V.heap[k]?
 gg:wr.heap[gb]?=some (.cells #[.slice (some ⟨g,0,none⟩) L.length B9,.slice (some ⟨pg,0,none⟩) L.length L.length] 31 (0,0))
 num:Im wr nb (LU L)
 Mt:wr.ownsRow V.heap.size 78 3 (.slice (some ⟨g,0,none⟩) L.length B9) L.length (ND L val)
 Bk:wr.ownsRow V.heap.size 38 1 (.slice (some ⟨pg,0,none⟩) L.length L.length) L.length ((List.range L.length).map fun i=>val (L.length+i))
 own:∀i,i<2*L.length→wr.ownsRow V.heap.size 3 1 (val i) (Ay i).length (Av (Ay i))
 Et:∀i j,i<2*L.length→j<2*L.length→i≠j→∀q,(val i).ownBlock=some q→(val j).ownBlock≠some q
section
variable {V wr:World} {gb nb g B9 pg:Nat} {L:List (Int×Int)} {val:Nat→Value} {Ay:Nat→List Int}
theorem BN.below {wr':World} (h:BN V wr gb nb g B9 pg L val Ay) (hb:Below wr.heap.size wr wr'):BN V wr' gb nb g B9 pg L val Ay:=
 ⟨h.gV,h.nV,h.gn,hb.os.trans h.os,hb.tape.trans h.tape,hb.output.trans h.output,EM h.sz hb.size,fun k h1 h2 h3=>(hb.block k YL).trans (h.blk k h1 h2 h3),(hb.block _ (by have:=h.sz;have:=h.gV;omega)).trans h.gg,h.num.below hb h.num.lt,CH h.Mt hb,CH h.Bk hb,fun i hi=>CH (h.own i hi) hb,h.Et⟩
theorem BN.im (h:BN V wr gb nb g B9 pg L val Ay) {x:Nat} {f:Int→Option Value} (hx:Im V x f) (h1:x≠gb) (h2:x≠nb):Im wr x f:=hx.keep (h.blk x hx.lt h1 h2)
theorem BN.rg (h:BN V wr gb nb g B9 pg L val Ay):(V.heap.size≤g∧g<wr.heap.size)∧(V.heap.size≤pg∧pg<wr.heap.size)∧g≠pg:=
 ⟨h.Mt.lt g rfl,h.Bk.lt pg rfl,fun e=>FE h.Mt h.Bk AK g rfl Mj⟩
theorem BN.app {w2 W':World} {i x:Nat} {y:Int} {v':Value} (h:BN V wr gb nb g B9 pg L val Ay) (hi:i<2*L.length) (hb:Below wr.heap.size wr w2) (hg:w2.grownBy W' (val i).ownBlock)
  (hown:W'.ownsRow V.heap.size 3 1 v' ((Ay i).length+1) (Av (Ay i++[y]))) (Ce:v'.ownBlock=(val i).ownBlock∨v'.ownBlock=some w2.heap.size) (r o:Nat) (hr:(i<L.length∧r=g∧o=i*3+2)∨(L.length≤i∧r=pg∧o=i - L.length)) :
  BN V (W'.setCell ⟨r,o,none⟩ v') gb nb g B9 pg L (upd val i v') (upd Ay i (Ay i++[y])):=by
 have G:=grown_of hb hg;have S:=Hh W' r o v';obtain⟨⟨g1,g2⟩,⟨p1,p2⟩,gp⟩:=h.rg;have SH:=h.gV;have Nw:=h.nV;have JI:=G.size;have oi:=h.own i hi;have ob:∀q,(val i).ownBlock=some q→V.heap.size≤q∧q≠g∧q≠pg:=fun q hq=>⟨(oi.lt q hq).1,fun e=>FE oi h.Mt AK q hq Mj,fun e=>FE oi h.Bk AK q hq Mj⟩;have rV:V.heap.size≤r∧(r=g∨r=pg):=by rcases hr with⟨_,rfl,_⟩|⟨_,rfl,_⟩;exact⟨g1,.inl rfl⟩;exact⟨p1,.inr rfl⟩
 have small:∀k,k<V.heap.size→(W'.setCell ⟨r,o,none⟩ v').heap[k]?=wr.heap[k]?:=fun k hk=>by
  rw [BL _ _ _ _ (by show k≠r;omega)];exact G.block k A0 (fun e=>by have:=(ob k e.symm).1;omega)
 have OP:∀q,v'.ownBlock=some q→q≠r∧V.heap.size≤q:=fun q hq=>by
  have h1:=(hown.lt q hq).1;refine⟨fun e=>?_,h1⟩;have:W'.ownsRow V.heap.size 78 3 (.slice (some ⟨g,0,none⟩) L.length B9) L.length (ND L val):=h.Mt.kept G (.inr (fun e'=>(ob g e'.symm).2.1 rfl));have h2:W'.ownsRow V.heap.size 38 1 (.slice (some ⟨pg,0,none⟩) L.length L.length) L.length ((List.range L.length).map fun i=>val (L.length+i)):=h.Bk.kept G (.inr (fun e'=>(ob pg e'.symm).2.2 rfl));rcases rV.2 with e2|e2
  ·exact FE hown this AK q hq (by rw [e,e2];rfl)
  ·exact FE hown h2 AK q hq (by rw [e,e2];rfl)
 have b':W'.ownsRow V.heap.size 78 3 (.slice (some ⟨g,0,none⟩) L.length B9) L.length (ND L val):=h.Mt.kept G (.inr (fun e'=>(ob g e'.symm).2.1 rfl));have p':W'.ownsRow V.heap.size 38 1 (.slice (some ⟨pg,0,none⟩) L.length L.length) L.length ((List.range L.length).map fun i=>val (L.length+i)):=h.Bk.kept G (.inr (fun e'=>(ob pg e'.symm).2.2 rfl));have h2V:V.heap.size≤W'.heap.size:=by omega
 refine⟨h.gV,h.nV,h.gn,G.os.trans h.os,G.tape.trans h.tape,G.output.trans h.output,by simpa using h2V,fun k h1 h2 h3=>(small k h1).trans (h.blk k h1 h2 h3),(small gb SH).trans h.gg,h.num.keep (small nb Nw),?_,?_,fun j hj=>?_,fun a c ha hc hac q hq=>?_⟩
 ·rcases hr with⟨hl,rfl,rfl⟩|⟨hl,rfl,rfl⟩
  ·rw [←zR L val hl v']
   exact (b'.stored (i*3+2) v').1
  ·have e:ND L (upd val i v')=ND L val:=by
    unfold ND;rw [List.flatMap_def,List.flatMap_def];congr 1
    apply Q4;intro a ha;have:a≠i:=by have:=J9.1 ha;omega
    simp [upd,this]
   rw [e];exact b'.kept S (.inr (by simp [Value.ownBlock];exact gp))
 ·rcases hr with⟨hl,rfl,rfl⟩|⟨hl,rfl,rfl⟩
  ·have e:((List.range L.length).map fun a=>upd val i v' (L.length+a))=(List.range L.length).map fun a=>val (L.length+a):=by
    apply Q4;intro a ha;have:L.length+a≠i:=by omega
    simp [upd,this]
   rw [e];exact p'.kept S (.inr (by simp [Value.ownBlock];exact Ds gp))
  ·have e:upd val i v'=upd val (L.length+(i - L.length)) v':=by rw [show L.length+(i - L.length)=i by omega]
   rw [e,← amF L.length val A0 v'];exact (p'.stored (i - L.length) v').1
 ·unfold upd
  by_cases e:j=i
  ·subst e
   rw [AE rfl,AE rfl];rw [show (Ay j++[y]).length=(Ay j).length+1 by simp];exact hown.kept S (by
    cases hv:v'.ownBlock with
    | none=>exact .inl rfl
    | some q=>exact .inr (fun e'=>(OP q hv).1 fM))
  ·rw [A9 e,A9 e]
   refine ((h.own j hj).kept G ?_).kept S ?_
   ·cases hv:(val j).ownBlock with
    | none=>exact .inl rfl
    | some q=>exact .inr (fun e'=>h.Et i j hi hj (fun e2=>e e2.symm) q e'.symm hv)
   ·cases hv:(val j).ownBlock with
    | none=>exact .inl rfl
    | some q=>
     refine .inr (fun e'=>?_);have SE:q=r:=by simpa using e'
     rcases rV.2 with e2|e2
     ·exact FE (h.own j hj) h.Mt AK q hv (by rw [SE,e2];rfl)
     ·exact FE (h.own j hj) h.Bk AK q hv (by rw [SE,e2];rfl)
 ·have new:∀a,a<2*L.length→a≠i→∀q,v'.ownBlock=some q→(val a).ownBlock≠some q:=fun a ha hai q hq hq2=>by
   rcases Ce with h1|h1
   ·rw [h1] at hq
    exact h.Et i a hi ha (fun e=>hai e.symm) q hq hq2
   ·rw [h1] at hq
    cases hq;have:=((h.own a ha).lt _ hq2).2;have:=hb.size;omega
  unfold upd at hq ⊢;by_cases e1:a=i
  ·rw [AE e1] at hq
   rw [A9 (fun e=>hac (e1.trans e.symm))];exact new c hc (fun e=>hac (e1.trans e.symm)) q hq
  ·rw [A9 e1] at hq
   by_cases e2:c=i
   ·rw [AE e2]
    exact fun hq2=>new a ha e1 q hq2 hq
   ·rw [A9 e2]
    exact h.Et a c ha hc hac q hq
end
def Jj (l:List Int) (x:Int):List Int:=if x∈l then l else l++[x]
def Hf (L:List (Int×Int)) (S:List Int):List Int:=S.foldl (fun l s=>Jj l (idx L s:Int)) []
def Nd (L:List (Int×Int)) (k:Nat):Int:=(L.getD k (0,0)).2 - 1
def IU (c:Int→Ins) (L:List (Int×Int)) (k:Nat):List Int:=Hf L (Ch (c (Nd L k)) (Nd L k))
def Ry (c:Int→Ins) (L:List (Int×Int)) (k p:Nat):List Int:=((List.range k).filter (fun b=>decide ((p:Int)∈IU c L b))).map (fun (b:Nat)=>(b:Int))
def Ex (c:Int→Ins) (L:List (Int×Int)) (k:Nat) (l:List Int):Nat→List Int:=fun i=>
 if i<L.length then (if i<k then IU c L i else if i=k then l else []) else Ry c L k (i - L.length)++if ((i - L.length:Nat):Int)∈l then [(k:Int)] else []
theorem apk (c:Int→Ins) (L:List (Int×Int)):Ex c L 0 []=fun _=>[]:=by
 funext i;unfold Ex Ry;split
 ·simp
 ·simp
theorem anD (c:Int→Ins) (L:List (Int×Int)) (k:Nat):Ex c L k (IU c L k)=Ex c L (k+1) []:=by
 funext i;unfold Ex;by_cases h:i<L.length
 ·rw [AE h,AE h]
  by_cases h1:i<k
  ·rw [AE h1,AE A0]
  ·rw [A9 h1]
   by_cases h2:i=k
   ·rw [AE h2,AE A0,h2]
   ·rw [A9 h2,A9 A0]
    split<;>rfl
 ·rw [A9 h,A9 h]
  unfold Ry;rw [J5,eA,Nx];by_cases h3:((i - L.length:Nat):Int)∈IU c L k
  ·simp [h3]
  ·simp [h3]
theorem aqP (c:Int→Ins) (L:List (Int×Int)) (k p:Nat) (l:List Int) (hk:k<L.length) (hp:p<L.length) (hx:(p:Int)∉l):Ex c L k (l++[(p:Int)])=upd (upd (Ex c L k l) k (l++[(p:Int)])) (L.length+p) (Ex c L k l (L.length+p)++[(k:Int)]):=by
 funext i;unfold upd;by_cases h1:i=L.length+p
 ·subst h1
  rw [AE rfl];unfold Ex;have e:¬(L.length+p<L.length):=by omega
  have e2:L.length+p - L.length=p:=by omega
  simp [e,e2,hx]
 ·rw [A9 h1]
  by_cases h2:i=k
  ·subst h2
   rw [AE rfl];unfold Ex;rw [AE hk,A9 A0,AE rfl]
  ·rw [A9 h2]
   unfold Ex;by_cases h:i<L.length
   ·rw [AE h,AE h,A9 h2,A9 h2]
   ·rw [A9 h,A9 h]
    congr 1
    have:((i - L.length:Nat):Int)≠(p:Int):=by omega
    simp [this]
theorem mH (c:Int→Ins) (L:List (Int×Int)) (k:Nat) (l:List Int) (hk:k<L.length):Ex c L k l k=l:=by
 unfold Ex;rw [AE hk,A9 A0,AE rfl]
theorem yt (L:List (Int×Int)) (S:List Int) (j:Nat) (s:Int) (h:S[j]?=some s):Hf L (S.take (j+1))=Jj (Hf L (S.take j)) (idx L s:Int):=by
 unfold Hf;rw [H8 h,PR];rfl
theorem sA (L:List (Int×Int)) (S:List Int):(Hf L S).length≤S.length:=by
 have:∀(S l:List Int),(S.foldl (fun l s=>Jj l (idx L s:Int)) l).length≤l.length+S.length:=by
  intro S;induction S with
  | nil=>intro l;simp
  | cons s S ih=>
   intro l;rw [Me];have:=ih (Jj l (idx L s:Int));have h2:(Jj l (idx L s:Int)).length≤l.length+1:=by unfold Jj;split<;>simp
   simp;omega
 have h:=this S [];simp only [Yp,EU] at h;exact h
theorem ym (c:Int→Ins) (L:List (Int×Int)) (k p:Nat):(Ry c L k p).length≤k:=by
 unfold Ry;rw [ED];exact EM (jN _ _) AO
structure AV where
 lo:Int
 hi:Int
 nx:List Int
deriving DecidableEq
def Dc (w:World) (v:Value) (G:List AV):Prop:=
 ∃A cap,v=.slice A G.length cap∧G.length≤cap∧cap≤maxLen∧(0<G.length→∃b off,A=some ⟨b,off,none⟩∧b<w.heap.size∧∀i x,G[i]?=some x→
  w.cell? ⟨b,off+i*3,none⟩=some (.int .i64 x.lo)∧w.cell? ⟨b,off+i*3+1,none⟩=some (.int .i64 x.hi)∧∃nv,w.cell? ⟨b,off+i*3+2,none⟩=some nv∧Ints w nv x.nx)
def CO (w:World) (v:Value) (P:List (List Int)):Prop:=
 ∃A cap,v=.slice A P.length cap∧P.length≤cap∧cap≤maxLen∧(0<P.length→∃b off,A=some ⟨b,off,none⟩∧b<w.heap.size∧∀i x,P[i]?=some x→
  ∃nv,w.cell? ⟨b,off+i,none⟩=some nv∧Ints w nv x)
theorem Dc.below {w w':World} {v:Value} {G:List AV} (h:Dc w v G) (hb:Below w.heap.size w w'):Dc w' v G:=by
 obtain⟨A,cap,h1,h2,h3,h4⟩:=h;refine⟨A,cap,h1,h2,h3,fun h0=>?_⟩;obtain⟨b,off,ha,hlt,hc⟩:=h4 h0;refine⟨b,off,ha,by have:=hb.size;omega,fun i x hx=>?_⟩;obtain⟨c0,c1,nv,c2,hn⟩:=hc i x hx;exact⟨(hb.cell (p:=⟨b,_,none⟩) hlt).trans c0,(hb.cell (p:=⟨b,_,none⟩) hlt).trans c1,nv,(hb.cell (p:=⟨b,_,none⟩) hlt).trans c2,hn.below hb⟩
theorem CO.below {w w':World} {v:Value} {P:List (List Int)} (h:CO w v P) (hb:Below w.heap.size w w'):CO w' v P:=by
 obtain⟨A,cap,h1,h2,h3,h4⟩:=h;refine⟨A,cap,h1,h2,h3,fun h0=>?_⟩;obtain⟨b,off,ha,hlt,hc⟩:=h4 h0;refine⟨b,off,ha,by have:=hb.size;omega,fun i x hx=>?_⟩;obtain⟨nv,c2,hn⟩:=hc i x hx;exact⟨nv,(hb.cell (p:=⟨b,_,none⟩) hlt).trans c2,hn.below hb⟩
theorem MF {w:World} {B:Nat} {v:Value} {l:List Int} (h:w.ownsRow B 3 1 v l.length (Av l)):Ints w v l:=by
 rcases h.2 with⟨rfl,h0⟩|⟨g,cap,cur,rfl,_,hg,h1,h2,_,_⟩
 ·have:l=[]:=Zs.1 h0
  subst this;exact uu _
 ·refine⟨_,cap,rfl,h1,h2,fun _=>⟨g,0,rfl,(Be.1 hg).1,fun i hi=>?_⟩⟩
  rw [EU,h.cellAt i A0];simp [Av,List.getD,Aj hi]
def EF (c:Int→Ins) (L:List (Int×Int)):List AV:=(List.range L.length).map fun k=>⟨(L.getD k (0,0)).1,(L.getD k (0,0)).2,IU c L k⟩
def Je (c:Int→Ins) (L:List (Int×Int)):List (List Int):=(List.range L.length).map fun p=>Ry c L L.length p
theorem BN.graph {V wr wf:World} {gb nb g B9 pg rb:Nat} {c:Int→Ins} {L:List (Int×Int)} {val:Nat→Value} (h:BN V wr gb nb g B9 pg L val (Ex c L L.length [])) (G:wr.grownBy wf (some rb)) (hrb:rb<V.heap.size) :
  Dc wf (.slice (some ⟨g,0,none⟩) L.length B9) (EF c L)∧CO wf (.slice (some ⟨pg,0,none⟩) L.length L.length) (Je c L):=by
 obtain⟨⟨g1,g2⟩,⟨p1,p2⟩,gp⟩:=h.rg;have gs:=G.size;have b':=h.Mt.kept G (.inr fl);have p':=h.Bk.kept G (.inr fl);have OP:∀i,i<2*L.length→wf.ownsRow V.heap.size 3 1 (val i) (Ex c L L.length [] i).length (Av (Ex c L L.length [] i)):=fun i hi=>(h.own i hi).kept G (by
  cases hv:(val i).ownBlock with
  | none=>exact .inl rfl
  | some q=>exact .inr (fun e=>by have:=((h.own i hi).lt q hv).1;simp at e;omega))
 have bc:L.length≤B9∧B9≤maxLen:=by
  rcases b'.2 with⟨e,_⟩|⟨_,_,_,e,_,_,h1,h2,_⟩
  ·cases e
  ·cases e;exact⟨h1,h2⟩
 have pc:L.length≤maxLen:=by
  rcases p'.2 with⟨e,_⟩|⟨_,_,_,e,_,_,h1,h2,_⟩
  ·cases e
  ·cases e;exact h2
 refine⟨⟨_,B9,by simp [EF],by simp [EF];exact bc.1,bc.2,fun _=>⟨g,0,rfl,by omega,fun i x hx=>?_⟩⟩,⟨_,L.length,by simp [Je],by simp [Je],pc,fun _=>⟨pg,0,rfl,by omega,fun i x hx=>?_⟩⟩⟩
 ·unfold EF at hx
  rw [Cr] at hx;have hi:i<L.length:=by
   by_cases hi:i<L.length
   ·exact hi
   ·rw [E0 Yl] at hx;cases hx
  rw [Ev hi] at hx;simp only [jB,Ri] at hx;subst hx;refine⟨?_,?_,val i,?_,?_⟩
  ·rw [EU,b'.cellAt _ A0,show i*3=i*3+0 from rfl,Qy L val hi A0];rfl
  ·rw [EU,b'.cellAt _ A0,Qy L val hi A0];rfl
  ·rw [EU,b'.cellAt _ A0,Qy L val hi A0];rfl
  ·have:=MF (OP i A0)
   unfold Ex at this
   rwa [AE hi,AE hi] at this
 ·unfold Je at hx
  rw [Cr] at hx;have hi:i<L.length:=by
   by_cases hi:i<L.length
   ·exact hi
   ·rw [E0 Yl] at hx;cases hx
  rw [Ev hi] at hx;simp only [jB,Ri] at hx;subst hx;refine⟨val (L.length+i),?_,?_⟩
  ·rw [EU,p'.cellAt _ A0,Cr,Ev hi];rfl
  ·have:=MF (OP (L.length+i) A0)
   unfold Ex at this;rw [A9 A0,show L.length+i - L.length=i by omega] at this;simpa using this
theorem Ints.len {w:World} {v:Value} {l:List Int} (h:Ints w v l):l.length≤2 ^ 63 - 1:=by
 obtain⟨A,cap,_,h2,h3,_⟩:=h;unfold maxLen at h3;omega
theorem aoc {l1 l2:List Int} {j:Nat} {a b:Int} (h1:l1[j]?=some a) (h2:l2[j]?=some b) (h:l1.take j=l2.take j) (hab:a=b):l1.take (j+1)=l2.take (j+1):=by
 rw [H8 h1,H8 h2,h,hab]
theorem aqp (u v:Value) (l1 l2:List Int) (w:World) (H1:Ints w u l1) (H2:Ints w v l2) :
  Calls Tryz.prog 65 #[u,v] w fun e w'=>e=.returned (.bool (decide (l1=l2)))∧Below w.heap.size w w':=by
 obtain⟨A,cap,rfl,h2,h3,h4⟩:=H1;obtain⟨A2,EI,rfl,k2,k3,k4⟩:=H2;have⟨HC,HK⟩:=AL h4 k4;unfold maxLen at h3 k3;clear h4 k4;go_enter Tryz.func65,Tryz.ntmps65;by_cases hl:l1.length=l2.length;case neg=>
  have d:((l1.length:Int) != (l2.length:Int))=true:=by simp;omega
  have HL:=A3 hl;clear hl;go_wp2_with fail;go_ret;exact⟨EE (by symm;simp;intro h;exact HL.out (by rw [h])),AP _ _⟩
 have d:((l1.length:Int) != (l2.length:Int))=false:=by simp;omega
 have HL:=A3 hl;clear hl;go_upto_region 4 with fail;go_loopw [5,13] (fun a5 a13 wr=>∃j:Nat,j≤l1.length∧a13=.int .i64 (j:Int)∧l1.take j=l2.take j∧Below w.heap.size w wr) (fun _ a13 _=>l1.length - (intOf a13).toNat);case atStart=>exact⟨0,Ck _,rfl,by simp,AP _ _⟩
 case round=>
  obtain⟨j,hj,rfl,Da,hb⟩:=hrel;have⟨CU,HB⟩:=AL Da hb;have hs:=hb.size;clear Da hb;by_cases hlt:j<l1.length
  ·have hlt2:j<l2.length:=by have:=HL.out;omega
   obtain⟨b,off,rfl,hb1,hc⟩:=HC.out A0;obtain⟨b2,off2,rfl,hb2,hc2⟩:=HK.out A0;obtain⟨s,hs1⟩:=AA (l1[j]);obtain⟨t,hs2⟩:=AA (l2[j]);have x1:wr.cell? ⟨b,off+j,none⟩=some (.int .i64 s):=by rw [HB.out.cell (p:=⟨b,off+j,none⟩) hb1,hc j hlt,← hs1];simp [List.getD,Aj hlt]
   have x2:wr.cell? ⟨b2,off2+j,none⟩=some (.int .i64 t):=by rw [HB.out.cell (p:=⟨b2,off2+j,none⟩) hb2,hc2 j hlt2,← hs2];simp [List.getD,Aj hlt2]
   have⟨Ui,IK⟩:=AL (show l1[j]?=some s by rw [Aj hlt,hs1]) (show l2[j]?=some t by rw [Aj hlt2,hs2]);have dl:decide ((j:Int)<(l1.length:Int))=true:=by simpa using hlt
   have g1:b<wr.heap.size:=by omega
   have g2:b2<wr.heap.size:=by omega
   clear hc hc2 hs1 hs2;by_cases q:s=t
   ·have dq:(s != t)=false:=by simp [q]
    have HQ:=A3 q;clear q;go_upto_region 6 with fail;refine Cg A6 A6 ?_;repeat (go_big_quiet_step (fail))
    refine Ba ?_;rintro _ ⟨y,rfl⟩;go_wp2_with fail;go_roundw;case rel=>exact⟨j+1,by omega,by go_num,aoc Ui.out IK.out CU.out HQ.out,Ext.below HB.out hs y⟩
    case measure=>exact Aa
   ·have dq:(s != t)=true:=by simp [q]
    have HQ:=A3 q;clear q;go_upto_region 6 with fail;refine Cg A6 A6 ?_;repeat (go_big_quiet_step (fail))
    refine Ba ?_;rintro _ ⟨y,rfl⟩;go_wp2_with fail;go_ret;refine⟨EE apG,Ext.below HB.out hs y⟩
  ·obtain rfl:j=l1.length:=by omega
   have dl:decide ((l1.length:Int)<(l1.length:Int))=false:=by simp
   have e:l1=l2:=by
    have h:=CU.out;have hL:=HL.out;rw [Hx,hL,Hx] at h;exact h
   have HE:=A3 e;clear e;go_wp2_with fail;go_ret;exact⟨EE (by symm;simp;exact HE.out),HB.out⟩
theorem CO.at_ {w wr:World} {A:Option Addr} {cap:Nat} {P:List (List Int)} (h:CO w (.slice A P.length cap) P) (hb:Below w.heap.size w wr) {j:Nat} (hj:j<P.length) :
  ∃l nv b off,P[j]?=some l∧A=some ⟨b,off,none⟩∧b<w.heap.size∧wr.cell? ⟨b,off+j,none⟩=some nv∧Ints wr nv l:=by
 obtain⟨A',cap',hv,_,_,h4⟩:=h;cases hv;obtain⟨b,off,rfl,hlt,hc⟩:=h4 A0;obtain⟨nv,c1,c2⟩:=hc j _ (Aj hj);exact⟨P[j],nv,b,off,Aj hj,rfl,hlt,(hb.cell (p:=⟨b,_,none⟩) hlt).trans c1,c2.below hb⟩
theorem CO.slice {w:World} {v:Value} {P:List (List Int)} (h:CO w v P):∃A cap,v=.slice A P.length cap∧P.length≤cap∧cap≤2 ^ 63 - 1:=by
 obtain⟨A,cap,h1,h2,h3,_⟩:=h;unfold maxLen at h3;exact⟨A,cap,h1,h2,h3⟩
theorem xz (u v:Value) (P1 P2:List (List Int)) (w:World) (H1:CO w u P1) (H2:CO w v P2) :
  Calls Tryz.prog 64 #[u,v,.func (.func 65) #[] #[]] w fun e w'=>e=.returned (.bool (decide (P1=P2)))∧Below w.heap.size w w':=by
 obtain⟨A,cap,rfl,h2,h3⟩:=H1.slice;obtain⟨A2,EI,rfl,k2,k3⟩:=H2.slice;have⟨HC,HK⟩:=AL H1 H2;clear H1 H2;go_enter Tryz.func64,Tryz.ntmps64;by_cases hl:P1.length=P2.length;case neg=>
  have d:((P1.length:Int) != (P2.length:Int))=true:=by simp;omega
  have HL:=A3 hl;clear hl;go_wp2_with fail;go_ret;exact⟨EE (by symm;simp;intro h;exact HL.out (by rw [h])),AP _ _⟩
 have d:((P1.length:Int) != (P2.length:Int))=false:=by simp;omega
 have HL:=A3 hl;clear hl;go_upto_region 4 with fail;go_loopw [7,8,9,17] (fun a7 a8 a9 a17 wr=>∃j:Nat,j≤P1.length∧a17=.int .i64 (j:Int)∧P1.take j=P2.take j∧Below w.heap.size w wr) (fun _ _ _ a17 _=>P1.length - (intOf a17).toNat);case atStart=>exact⟨0,Ck _,rfl,by simp,AP _ _⟩
 case round=>
  obtain⟨j,hj,rfl,Da,hb⟩:=hrel;have⟨CU,HB⟩:=AL Da hb;have hs:=hb.size;clear Da hb;by_cases hlt:j<P1.length
  ·have hlt2:j<P2.length:=by have:=HL.out;omega
   obtain⟨l1,nv,b,off,g1,rfl,hb1,x1,DT⟩:=HC.out.at_ HB.out hlt;obtain⟨l2,nv2,b2,off2,g2,rfl,hb2,x2,Dw⟩:=HK.out.at_ HB.out hlt2;have⟨Ui,IK⟩:=AL g1 g2;have dl:decide ((j:Int)<(P1.length:Int))=true:=by simpa using hlt
   have HE:=A3 (aqp nv nv2 l1 l2 wr DT Dw);clear g1 g2 DT Dw;by_cases q:l1=l2
   ·rw [AR q] at HE
    have HQ:=A3 q;clear q;go_wp2_with (go_at_call 65;refine HE.out.mono ?_;rintro e w' ⟨rfl,hb5⟩);go_roundw;case rel=>exact⟨j+1,by omega,by go_num,by rw [H8 Ui.out,H8 IK.out,CU.out,HQ.out],HB.out.trans (hb5.mono hs)⟩
    case measure=>exact Aa
   ·rw [Aq q] at HE
    have HQ:=A3 q;clear q;go_wp2_with (go_at_call 65;refine HE.out.mono ?_;rintro e w' ⟨rfl,hb5⟩);go_ret;refine⟨EE apG,HB.out.trans (hb5.mono hs)⟩
  ·obtain rfl:j=P1.length:=by omega
   have dl:decide ((P1.length:Int)<(P1.length:Int))=false:=by simp
   have e:P1=P2:=by
    have h:=CU.out;have hL:=HL.out;rw [Hx,hL,Hx] at h;exact h
   have HE:=A3 e;clear e;go_wp2_with fail;go_ret;exact⟨EE (by symm;simp;exact HE.out),HB.out⟩
theorem jM:(Tryz.prog.info? 38).map (fun i=>(i.zero,i.size,i.bytes))=some (some (.slice none 0 0),1,24):=by kernel_rfl
structure PM (V wr:World) (pg n:Nat) (val:Nat→Value) (Ay:Nat→List Int):Prop where
 A7:Below V.heap.size V wr
 Bk:wr.ownsRow V.heap.size 38 1 (.slice (some ⟨pg,0,none⟩) n n) n ((List.range n).map fun i=>val i)
 own:∀i,i<n→wr.ownsRow V.heap.size 3 1 (val i) (Ay i).length (Av (Ay i))
 Et:∀i j,i<n→j<n→i≠j→∀q,(val i).ownBlock=some q→(val j).ownBlock≠some q
theorem jc (n:Nat) (val:Nat→Value) {p:Nat} (hp:p<n) (v:Value):((List.range n).map fun i=>val i).set p v=(List.range n).map fun i=>upd val p v i:=by
 apply JX;intro q;rw [IY];simp only [ED,kT,Cr];by_cases e:p=q
 ·subst e
  rw [AE rfl,AE hp,Ev hp];simp [upd]
 ·rw [A9 e]
  by_cases hq:q<n
  ·rw [Ev hq]
   simp [upd];intro h;omega
  ·rw [E0 (by simpa using hq)]
   rfl
section
variable {V wr:World} {pg n:Nat} {val:Nat→Value} {Ay:Nat→List Int}
theorem PM.below {wr':World} (h:PM V wr pg n val Ay) (hb:Below wr.heap.size wr wr'):PM V wr' pg n val Ay:=
 ⟨h.A7.trans (hb.mono h.A7.size),CH h.Bk hb,fun i hi=>CH (h.own i hi) hb,h.Et⟩
theorem PM.rg (h:PM V wr pg n val Ay):V.heap.size≤pg∧pg<wr.heap.size:=h.Bk.lt pg rfl
theorem PM.cells (h:PM V wr pg n val Ay) {i:Nat} (hi:i<n):wr.cell? ⟨pg,i,none⟩=some (val i)∧wr.frozen? ⟨pg,i,none⟩=false:=
 ⟨by rw [h.Bk.cellAt _ A0,Cr,Ev hi];rfl,h.Bk.frozenAt _⟩
theorem PM.made {W':World} (hg:wr.grownBy W' none) (hb:Below V.heap.size V wr) (hr:W'.ownsRow V.heap.size 38 1 (.slice (some ⟨pg,0,none⟩) n n) n (List.replicate n (.slice none 0 0))):PM V W' pg n (fun _=>.slice none 0 0) (fun _=>[]):=by
 refine⟨hb.grown hg hb.size (fun k hk=>by cases hk),?_,fun i hi=>JV _ _ _ _,fun i j hi hj _ q hq=>by cases hq⟩;have e:((List.range n).map fun _=>Value.slice none 0 0)=List.replicate n (Value.slice none 0 0):=by
  apply JX;intro q;by_cases hq:q<n
  ·simp [hq]
  ·simp [hq]
 rw [e];exact hr
theorem PM.app {w2 W':World} {i:Nat} {y:Int} {v':Value} (h:PM V wr pg n val Ay) (hi:i<n) (hb:Below wr.heap.size wr w2) (hg:w2.grownBy W' (val i).ownBlock)
  (hown:W'.ownsRow V.heap.size 3 1 v' ((Ay i).length+1) (Av (Ay i++[y]))) (Ce:v'.ownBlock=(val i).ownBlock∨v'.ownBlock=some w2.heap.size) :
  PM V (W'.setCell ⟨pg,i,none⟩ v') pg n (upd val i v') (upd Ay i (Ay i++[y])):=by
 have G:=grown_of hb hg;have S:=Hh W' pg i v';obtain⟨p1,p2⟩:=h.rg;have JI:=G.size;have M7:=h.A7.size;have oi:=h.own i hi;have ob:∀q,(val i).ownBlock=some q→V.heap.size≤q∧q≠pg:=fun q hq=>⟨(oi.lt q hq).1,fun e=>FE oi h.Bk AK q hq Mj⟩;have p':W'.ownsRow V.heap.size 38 1 (.slice (some ⟨pg,0,none⟩) n n) n ((List.range n).map fun i=>val i):=h.Bk.kept G (.inr (fun e'=>(ob pg e'.symm).2 rfl));have OP:∀q,v'.ownBlock=some q→q≠pg:=fun q hq e=>FE hown p' AK q hq Mj;refine⟨?_,?_,fun j hj=>?_,fun a c ha hc hac q hq=>?_⟩
 ·exact ((h.A7.grown G M7 (fun k hk=>(ob k hk).1)).grown S A0 (fun k hk=>by cases hk;exact p1))
 ·rw [←jc n val hi v']
  exact (p'.stored i v').1
 ·unfold upd
  by_cases e:j=i
  ·subst e
   rw [AE rfl,AE rfl];rw [show (Ay j++[y]).length=(Ay j).length+1 by simp];exact hown.kept S (by
    cases hv:v'.ownBlock with
    | none=>exact .inl rfl
    | some q=>exact .inr (fun e'=>OP q hv fM))
  ·rw [A9 e,A9 e]
   refine ((h.own j hj).kept G ?_).kept S ?_
   ·cases hv:(val j).ownBlock with
    | none=>exact .inl rfl
    | some q=>exact .inr (fun e'=>h.Et i j hi hj (fun e2=>e e2.symm) q e'.symm hv)
   ·cases hv:(val j).ownBlock with
    | none=>exact .inl rfl
    | some q=>
     refine .inr (fun e'=>?_);have SE:q=pg:=by simpa using e'
     exact FE (h.own j hj) h.Bk AK q hv (by rw [SE];rfl)
 ·have new:∀a,a<n→a≠i→∀q,v'.ownBlock=some q→(val a).ownBlock≠some q:=fun a ha hai q hq hq2=>by
   rcases Ce with h1|h1
   ·rw [h1] at hq
    exact h.Et i a hi ha (fun e=>hai e.symm) q hq hq2
   ·rw [h1] at hq
    cases hq;have:=((h.own a ha).lt _ hq2).2;have:=hb.size;omega
  unfold upd at hq ⊢;by_cases e1:a=i
  ·rw [AE e1] at hq
   rw [A9 (fun e=>hac (e1.trans e.symm))];exact new c hc (fun e=>hac (e1.trans e.symm)) q hq
  ·rw [A9 e1] at hq
   by_cases e2:c=i
   ·rw [AE e2]
    exact fun hq2=>new a ha e1 q hq2 hq
   ·rw [A9 e2]
    exact h.Et a c ha hc hac q hq
theorem PM.lls (h:PM V wr pg n val Ay):CO wr (.slice (some ⟨pg,0,none⟩) n n) ((List.range n).map Ay):=by
 have pc:n≤maxLen:=by
  rcases h.Bk.2 with⟨e,_⟩|⟨_,_,_,e,_,_,h1,h2,_⟩
  ·cases e
  ·cases e;exact h2
 refine⟨_,n,by simp,by simp,pc,fun _=>⟨pg,0,rfl,h.rg.2,fun i x hx=>?_⟩⟩;rw [Cr] at hx;have hi:i<n:=by
  by_cases hi:i<n
  ·exact hi
  ·rw [E0 Yl] at hx;cases hx
 rw [Ev hi] at hx;simp only [jB,Ri] at hx;subst hx;exact⟨val i,by rw [EU];exact (h.cells hi).1,MF (h.own i hi)⟩
end
def K8 (nx:List Int) (p k:Nat):List Int:=(nx.filter (fun x=>decide (x=(p:Int)))).map (fun _=>(k:Int))
def Pn (G:List AV) (k:Nat) (p:Nat):List Int:=(List.range k).flatMap fun b=>K8 (G.getD b ⟨0,0,[]⟩).nx p b
def IP (G:List AV) (k:Nat) (l:List Int):Nat→List Int:=fun p=>Pn G k p++K8 l p k
theorem ans (G:List AV):IP G 0 []=fun _=>[]:=by funext p;simp [IP,Pn,K8]
theorem aqX (G:List AV) (k p:Nat) (l:List Int):IP G k (l++[(p:Int)])=upd (IP G k l) p (IP G k l p++[(k:Int)]):=by
 funext i;unfold upd IP;by_cases h:i=p
 ·subst h
  rw [AE rfl];simp [K8]
 ·rw [A9 h]
  have:(p:Int)≠(i:Int):=by omega
  simp [K8,this]
theorem nO (G:List AV) (k:Nat) (x:AV) (h:G[k]?=some x):IP G k x.nx=IP G (k+1) []:=by
 funext i;unfold IP Pn;rw [J5,QD];simp [List.getD,h,K8]
theorem ana (G:List AV) (hn:∀x∈G,x.nx.length≤5000) (k:Nat) (hk:k≤G.length) (l:List Int) (p:Nat):(IP G k l p).length≤5000*k+l.length:=by
 have c1:∀(nx:List Int) (b:Nat),(K8 nx p b).length≤nx.length:=fun nx b=>by
  unfold K8;rw [ED];exact jN _ _
 have c2:(Pn G k p).length≤5000*k:=by
  unfold Pn;induction k with
  | zero=>simp
  | succ k ih=>
   have:=ih A0;rw [J5,QD,FO];have h1:=c1 (G.getD k ⟨0,0,[]⟩).nx k;have h2:(G.getD k ⟨0,0,[]⟩).nx.length≤5000:=by
    have hk':k<G.length:=by omega
    rw [show G.getD k ⟨0,0,[]⟩=G[k] by simp [List.getD,Aj hk']];exact hn _ (Cn hk')
   simp only [JO,fD,M8];omega
 unfold IP;rw [FO];have:=c1 l k;omega
def Gn (i:Ins):Int:=i.op*67108864+i.a*4194304+i.b*262144+i.c*16384+(if i.AG<0 then i.AG+262144 else i.AG)
theorem gI (n:Int) (h0:0≤n) (h1:n<2 ^ 32):IntKind.u32.wrap n=n:=by
 have:(2:Int) ^ 32=4294967296:=by decide
 exact Jt _ A0
theorem VR (x:Int) (h0:0≤x) (h1:x<4294967296):bits .and .u32 x 15=x % 16:=by
 have p32:x<(2:Int) ^ 32:=by rw [show (2:Int) ^ 32=4294967296 by decide];exact h1
 have:=bits_mask .u32 32 AK gI 4 AK x h0 p32;simpa using this
theorem tY (x:Int) (h0:0≤x) (h1:x<4294967296):bits .and .u32 x 262143=x % 262144:=by
 have p32:x<(2:Int) ^ 32:=by rw [show (2:Int) ^ 32=4294967296 by decide];exact h1
 have:=bits_mask .u32 32 AK gI 18 AK x h0 p32;simpa using this
theorem bz (i:Nat) (m:Int) (hm:(2:Int) ^ i=m) (x y:Int) (h0:0≤x) (hx:x % m=0) (h1:x<4294967296) (h2:0≤y) (h3:y<m) (h4:y<4294967296):bits .or .u32 x y=x+y:=by
 exact bits_join .u32 32 AK gI i x y h0 (by rw [hm];exact hx) A0 h2 (by rw [hm];exact h3) A0
theorem jC (i:Ins) (x:Int) (h0:0≤x) (hx:x % 67108864=0) (h1:x<4294967296) (ha:0≤i.a) (ha':i.a≤15):Ju i x 65=x+i.a*4194304:=by
 have e:Ju i x 65=bits .or .u32 x (bits .and .u32 (i.a % 4294967296) 15*4194304 % 4294967296):=by
  unfold Ju letVal RO Rx;simp
 rw [e,VR _ A0 A0,show i.a % 4294967296 % 16*4194304 % 4294967296=i.a*4194304 by omega];exact bz 26 67108864 AK x _ h0 hx h1 A0 A0 A0
theorem qp (i:Ins) (x:Int) (h0:0≤x) (hx:x % 4194304=0) (h1:x<4294967296) (ha:0≤i.b) (ha':i.b≤15):Ju i x 66=x+i.b*262144:=by
 have e:Ju i x 66=bits .or .u32 x (bits .and .u32 (i.b % 4294967296) 15*262144 % 4294967296):=by
  unfold Ju letVal RO Rx;simp
 rw [e,VR _ A0 A0,show i.b % 4294967296 % 16*262144 % 4294967296=i.b*262144 by omega];exact bz 22 4194304 AK x _ h0 hx h1 A0 A0 A0
theorem aqY (i:Ins) (x:Int) (h0:0≤x) (hx:x % 262144=0) (h1:x<4294967296) (ha:0≤i.c) (ha':i.c≤15):Ju i x 67=x+i.c*16384:=by
 have e:Ju i x 67=bits .or .u32 x (bits .and .u32 (i.c % 4294967296) 15*16384 % 4294967296):=by
  unfold Ju letVal RO Rx;simp
 rw [e,VR _ A0 A0,show i.c % 4294967296 % 16*16384 % 4294967296=i.c*16384 by omega];exact bz 18 262144 AK x _ h0 hx h1 A0 A0 A0
theorem jH (i:Ins) (x:Int) (h0:0≤x) (hx:x % 262144=0) (h1:x<4294967296) (ha : -131072≤i.AG) (ha':i.AG≤131071):Ju i x 73=x+(if i.AG<0 then i.AG+262144 else i.AG):=by
 have e:Ju i x 73=bits .or .u32 x (bits .and .u32 (i.AG % 4294967296) 262143 % 4294967296):=by
  unfold Ju letVal RO Rx;simp
 rw [e,tY _ A0 A0,show i.AG % 4294967296 % 262144 % 4294967296=(if i.AG<0 then i.AG+262144 else i.AG) by split<;>omega];exact bz 18 262144 AK x _ h0 hx h1 (by split<;>omega) (by split<;>omega) (by split<;>omega)
theorem am6 (x:Int) (h0:0≤x) (h1:x<4294967296):rawVal x 65=x / 4194304 % 16:=by
 unfold rawVal;rw [AE rfl,VR _ A0 A0];exact Zm _ A0
theorem an2 (x:Int) (h0:0≤x) (h1:x<4294967296):rawVal x 66=x / 262144 % 16:=by
 unfold rawVal;rw [A9 AK,AE rfl,VR _ A0 A0];exact Zm _ A0
theorem ap1 (x:Int) (h0:0≤x) (h1:x<4294967296):rawVal x 67=x / 16384 % 16:=by
 unfold rawVal;rw [A9 AK,A9 AK,AE rfl,VR _ A0 A0];exact Zm _ A0
theorem amg (x:Int) (h0:0≤x) (h1:x<4294967296):rawVal x 73=if 131072≤x % 262144 then x % 262144 - 262144 else x % 262144:=by
 unfold rawVal;rw [A9 AK,A9 AK,A9 AK,tY _ A0 A0,Zm (x % 262144) A0];split
 ·exact Zm _ A0
 ·rfl
inductive Dh:Type
 | Sn|Sy|TU|ai|i
def Dh.ops:Dh→List UInt8
 | .Sn=>[] | .Sy=>[65,66,67] | .TU=>[65,66,73] | .ai=>[65,73] | .i=>[73]
def Db (k:Nat):Dh:=if k<2 then .Sn else if k<14 then .Sy else if k=14 then .ai else if k<22 then .TU else if k=22∨k=23 then .ai else if k=24 then .i else if k<28 then .ai else .i
def Dh.LD:Dh→Int | .Sn=>0 | .Sy=>15 | .TU=>15 | .ai=>15 | .i=>0
def Dh.L8:Dh→Int | .Sn=>0 | .Sy=>15 | .TU=>15 | .ai=>0 | .i=>0
def Dh.Kg:Dh→Int | .Sn=>0 | .Sy=>15 | .TU=>0 | .ai=>0 | .i=>0
def M9 (k:Nat):Int:=if k<14 then 0 else if k=16∨k=17∨26≤k then 0 else if k=25 then 1 else -131072
def MT (k:Nat):Int:=if k<14 then 0 else if k=16 then 31 else if k=17 then 16383 else if k<26 then 131071 else if k<28 then 7 else 3
theorem aZ:∀k,k<30→(fm k).ops=(Db k).ops∧GL (fm k) 0=0∧GG (fm k) 0=(Db k).LD∧GL (fm k) 1=0∧GG (fm k) 1=(Db k).L8∧GL (fm k) 2=0∧GG (fm k) 2=(Db k).Kg∧GL (fm k) 3=M9 k∧GG (fm k) 3=MT k:=by decide +kernel
theorem WC:∀k,k<30→-131072≤M9 k∧MT k≤131071:=by decide
theorem fH:∀k,k<30→((Db k).ops=[]∨(Db k).ops=[65,66,67])→M9 k=0∧MT k=0:=by decide
structure Good (i:Ins) (k:Nat):Prop where
 op:i.op=(k:Int)
 lt:k<30
 a:0≤i.a∧i.a≤(Db k).LD
 b:0≤i.b∧i.b≤(Db k).L8
 c:0≤i.c∧i.c≤(Db k).Kg
 AG:M9 k≤i.AG∧i.AG≤MT k
theorem PT {i:Ins} (h0:0≤i.op):CE i=true↔∃k,Good i k:=by
 constructor
 ·intro hv
  unfold CE at hv;simp only [EY,DK] at hv;obtain⟨v0,⟨⟨v1,v2⟩,v3⟩,v4⟩:=hv;have ek:i.op=(i.op.toNat:Int):=by omega
  have hk:i.op.toNat<30:=by omega
  obtain⟨_,e1,e2,e3,e4,e5,e6,e7,e8⟩:=aZ _ hk;unfold Gm at v1 v2 v3 v4;rw [e1,e2] at v1;rw [e3,e4] at v2;rw [e5,e6] at v3;rw [e7,e8] at v4;exact⟨_,ek,hk,v1,v2,v3,v4⟩
 ·rintro⟨k,h⟩
  have ho:i.op.toNat=k:=by have:=h.op;omega
  have hl:=h.lt;obtain⟨_,e1,e2,e3,e4,e5,e6,e7,e8⟩:=aZ _ hl;refine qi (by have:=h.op;omega) fun j hj=>?_;rw [ho];unfold Gm;obtain rfl|rfl|rfl|rfl:j=0∨j=1∨j=2∨j=3:=by omega
  ·rw [e1,e2];exact h.a
  ·rw [e3,e4];exact h.b
  ·rw [e5,e6];exact h.c
  ·rw [e7,e8];exact h.AG
theorem Good.uO {i:Ins} {k:Nat} (h:Good i k):0≤Gn i∧Gn i<4294967296:=by
 have hk:=h.lt;have hi:=WC _ hk;have ha:=h.a;have hb:=h.b;have hc:=h.c;have hm:=h.AG;have hz:=fH _ hk;unfold Gn;rw [h.op];cases hs:Db k<;>rw [hs] at ha hb hc hz<;>simp only [Dh.LD,Dh.L8,Dh.Kg,Dh.ops,true_or,or_true,ep] at ha hb hc hz<;>split<;>omega
theorem Good.enc {i:Ins} {k:Nat} (h:Good i k):encI i=(Gn i,0):=by
 have hk:=h.lt;have hi:=WC _ hk;have ha:=h.a;have hb:=h.b;have hc:=h.c;have hm:=h.AG;have hz:=fH _ hk;have hop:=h.op;have ho:i.op.toNat=k:=by omega
 unfold encI;rw [AE ((PT A0).2 ⟨k,h⟩),ho,(aZ k hk).1];congr 1
 unfold Tb Gn;have e65:((65:UInt8).toNat:Int)=65:=rfl;have e66:((66:UInt8).toNat:Int)=66:=rfl;have e67:((67:UInt8).toNat:Int)=67:=rfl;have e73:((73:UInt8).toNat:Int)=73:=rfl;cases hs:Db k<;>rw [hs] at ha hb hc hz<;>simp only [Dh.LD,Dh.L8,Dh.Kg,Dh.ops,true_or,or_true,ep,List.cons_ne_nil,false_or,VQ,Me,List.foldl_nil,e65,e66,e67,e73] at ha hb hc hz ⊢
 ·split<;>omega
 ·rw [jC i _ A0 A0 A0 A0 A0,qp i _ A0 A0 A0 A0 A0,aqY i _ A0 A0 A0 A0 A0]
  split<;>omega
 ·rw [jC i _ A0 A0 A0 A0 A0,qp i _ A0 A0 A0 A0 A0,jH i _ A0 A0 A0 A0 A0]
  split<;>omega
 ·rw [jC i _ A0 A0 A0 A0 A0,jH i _ A0 A0 A0 A0 A0]
  split<;>omega
 ·rw [jH i _ A0 A0 A0 A0 A0]
  split<;>omega
theorem Good.dec {i:Ins} {k:Nat} (h:Good i k):BB (Gn i)=(i,0):=by
 have hk:=h.lt;have hi:=WC _ hk;have ha:=h.a;have hb:=h.b;have hc:=h.c;have hm:=h.AG;have hz:=fH _ hk;have hop:=h.op;have hin:=h.uO;have hd:Gn i / 67108864=(k:Int):=by
  unfold Gn;cases hs:Db k<;>rw [hs] at ha hb hc hz<;>simp only [Dh.LD,Dh.L8,Dh.Kg,Dh.ops,true_or,or_true,ep] at ha hb hc hz<;>split<;>omega
 have hdo:Lc (Gn i)=i:=by
  unfold Lc Oq;rw [hd];rw [show ((k:Int)).toNat=k from rfl,(aZ k hk).1];have e65:((65:UInt8).toNat:Int)=65:=rfl;have e66:((66:UInt8).toNat:Int)=66:=rfl;have e67:((67:UInt8).toNat:Int)=67:=rfl;have e73:((73:UInt8).toNat:Int)=73:=rfl;obtain⟨op,a,b,c,AG⟩:=i;simp only at hop ha hb hc hm;cases hs:Db k<;>rw [hs] at ha hb hc hz<;>simp only [Dh.LD,Dh.L8,Dh.Kg,Dh.ops,true_or,or_true,ep,List.cons_ne_nil,false_or,VQ,Me,List.foldl_nil,e65,e66,e67,e73,UI,N1,N0,Int.reduceEq,am6 _ hin.1 hin.2,an2 _ hin.1 hin.2,ap1 _ hin.1 hin.2,amg _ hin.1 hin.2] at ha hb hc hz ⊢;all_goals
   simp only [Gn,Ins.mk.injEq];refine⟨by omega,?_,?_,?_,?_⟩;all_goals first|omega|(split<;>omega)|(split<;>split<;>omega)
 unfold BB;rw [hdo,h.enc,AE ⟨by omega,rfl⟩]
theorem WJ {x:Int} (h0:0≤x) (h:(BB x).2=0):∃k,Good (BB x).1 k∧Gn (BB x).1=x:=by
 unfold BB at h ⊢;by_cases hc:x / 67108864<30∧encI (Lc x)=(x,0)
 ·rw [AE hc] at h ⊢
  have ho:(Lc x).op=x / 67108864:=ir x _;have hv:CE (Lc x)=true:=by
   have h2:=hc.2;unfold encI at h2;split at h2
   ·assumption
   ·simp at h2
  obtain⟨k,hg⟩:=(PT (by rw [ho];omega)).1 hv;refine⟨k,hg,?_⟩;have h3:=hg.enc;rw [hc.2] at h3;simpa using h3.symm
 ·rw [A9 hc] at h
  cases h
end
end Go.Proofs.YtlmgkipmfgijiaaGreatDoor
