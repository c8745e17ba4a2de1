/-
  What is proved here: parts bCb.
-/
import Derived.Test.YtlmgkipmfgijiaaGreatDoorVa
import Derived.Test.YtlmgkipmfgijiaaGreatDoorVb
import Derived.Maps.AppendAt
import Derived.Laws.OwnMore
import Derived.WalkSmall
import Derived.Deep.CutBlock
import Derived.Deep.DeepCutAuto
import Derived.IntWalk
import Derived.Laws.MakeOwn
import Derived.RangeFuncBox
import Derived.OneCell
namespace Go.Proofs.YtlmgkipmfgijiaaGreatDoor
set_option linter.unusedVariables false
set_option linter.unusedSimpArgs false
set_option maxRecDepth 100000
set_option maxHeartbeats 8000000
open Go.RowKit
section
def Ints (w:World) (v:Value) (l:List Int):Prop:=
 ∃A cap,v=.slice A l.length cap∧l.length≤cap∧cap≤maxLen∧(0<l.length→∃b off,A=some ⟨b,off,none⟩∧b<w.heap.size∧∀i,i<l.length→w.cell? ⟨b,off+i,none⟩=some (.int .i64 (l.getD i 0)))
theorem Ints.below {w w':World} {v:Value} {l:List Int} (h:Ints w v l) (hb:Below w.heap.size w w'):Ints w' v l:=by
 obtain⟨A,cap,h1,h2,h3,h4⟩:=h;refine⟨A,cap,h1,h2,h3,fun h0=>?_⟩;obtain⟨b,off,ha,hlt,hc⟩:=h4 h0;exact⟨b,off,ha,by have:=hb.size;omega,fun i hi=>(hb.cell (p:=⟨b,off+i,none⟩) hlt).trans (hc i hi)⟩
def CN (i:Ins) (at_:Int):List Int:=if i.op=1 then [] else if i.op=24 then [at_+1+i.AD] else if i.op=22∨i.op=23 then [at_+1,at_+1+i.AD] else [at_+1]
theorem Zc (i:Ins) (at_:Int):(CN i at_).length≤2:=by
 unfold CN;split
 ·simp
 ·split
  ·simp
  ·split<;>simp
theorem qp (w:World) (a:Int) (t:TypeId):Ints (w.alloc (.cells #[.int .i64 a] t)) (.slice (some ⟨w.heap.size,0,none⟩) 1 1) [a]:=by
 refine⟨_,1,rfl,AH _,by unfold maxLen;omega,fun _=>⟨_,0,rfl,by simp,fun i hi=>?_⟩⟩;obtain rfl:i=0:=by simp at hi;omega
 unfold World.cell?;rw [AY];rfl
theorem uu (w:World) (a b:Int) (t:TypeId):Ints (w.alloc (.cells #[.int .i64 a,.int .i64 b] t)) (.slice (some ⟨w.heap.size,0,none⟩) 2 2) [a,b]:=by
 refine⟨_,2,rfl,AH _,by unfold maxLen;omega,fun _=>⟨_,0,rfl,by simp,fun i hi=>?_⟩⟩;obtain rfl|rfl:i=0∨i=1:=by simp at hi;omega
 all_goals
  unfold World.cell?;rw [AY];rfl
theorem Ints.grown {w w':World} {v:Value} {l:List Int} {row:Option Nat} (h:Ints w v l) (hg:w.grownBy w' row) (hne:∀q,v.ownBlock=some q→row≠some q):Ints w' v l:=by
 obtain⟨A,cap,rfl,h2,h3,h4⟩:=h;refine⟨A,cap,rfl,h2,h3,fun h0=>?_⟩;obtain⟨b,off,rfl,hlt,hc⟩:=h4 h0;exact⟨b,off,rfl,by have:=hg.size;omega,fun i hi=>(N3 (w:=w) (a:=⟨b,off+i,none⟩) (hg.block b hlt (ED (hne b rfl)))).trans (hc i hi)⟩
theorem s8 (w:World):Ints w (.slice none 0 0) []:=⟨none,0,rfl,AH _,by unfold maxLen;omega,fun h=>by simp at h⟩
theorem jU (i:Ins) (at_:Int) (w:World) (h1:0≤at_) (h2:at_≤1000000) (h3 : -1000000≤i.AD) (h4:i.AD≤1000000) :
  Calls Tryz.prog 33 #[.agg #[.int .u8 i.op,.int .i64 i.a,.int .i64 i.b,.int .i64 i.c,.int .i64 i.AD],.int .i64 at_] w fun e w'=>(∃v,e=.returned v∧Ints w' v (CN i at_)∧∀q,v.ownBlock=some q→w.heap.size≤q)∧Below w.heap.size w w':=by
 have w1:IntKind.i64.wrap (at_+1)=at_+1:=Dn _ A0;have w2:IntKind.i64.wrap (at_+1+i.AD)=at_+1+i.AD:=Dn _ A0;have HT:=fun W:World=>Y6 i at_ W w1 w2;obtain⟨tg,Nx⟩:=A8 (if Cg i.op=true then at_+1+i.AD else 0);rw [Nx] at HT;have HG:=A3 Nx;clear Nx w2;have fin:∀(y:Ext (w.alloc (.cells #[.int .u8 i.op,.int .i64 i.a,.int .i64 i.b,.int .i64 i.c,.int .i64 i.AD] 67))),Below w.heap.size w y.w:=fun y=>Ext.below ((AV _ _).alloc (AH _) _) AR y;have pF:∀(y:Ext (w.alloc (.cells #[.int .u8 i.op,.int .i64 i.a,.int .i64 i.b,.int .i64 i.c,.int .i64 i.AD] 67))) (o:Obj),Below w.heap.size w (y.w.alloc o):=fun y o=>(fin y).alloc ((fin y).size) _;have⟨Jn,RQ⟩:=AQ fin pF;clear fin pF;obtain⟨op,ia,ib,ic,AD⟩:=i;simp only at HT HG Jn RQ h3 h4 ⊢;have G:=HG.out;by_cases q1:op=1
 ·have d1:(op==1)=true:=by simp [q1]
  have HS:=A3 (show CN ⟨op,ia,ib,ic,AD⟩ at_=[] by simp [CN,q1]);clear G q1 HG;go_enter af,aL;go_wp2_with (go_at_call 62;refine (Calls.ext (HT _)).mono ?_;rintro e w' ⟨rfl,y,rfl⟩);go_ret;rw [HS.out];exact⟨⟨.slice none 0 0,rfl,s8 _,fun q hq=>by cases hq⟩,Jn.out y⟩
 ·have d1:(op==1)=false:=by simp [q1]
  by_cases q2:op=24
  ·have d2:(op==24)=true:=by simp [q2]
   have HS:=A3 (show CN ⟨op,ia,ib,ic,AD⟩ at_=[tg] by rw [←G];simp [CN,q2,Cg]);clear G q1 q2 HG;go_enter af,aL;go_wp2_with (go_at_call 62;refine (Calls.ext (HT _)).mono ?_;rintro e w' ⟨rfl,y,rfl⟩);go_ret;rw [HS.out];exact⟨⟨.slice (some ⟨y.w.heap.size,0,none⟩) 1 1,rfl,qp _ _ _,fun q hq=>by cases hq;exact (Jn.out y).size⟩,RQ.out y _⟩
  ·have d2:(op==24)=false:=by simp [q2]
   by_cases q3:op=22
   ·have d3:(op==22)=true:=by simp [q3]
    have HS:=A3 (show CN ⟨op,ia,ib,ic,AD⟩ at_=[at_+1,tg] by rw [←G];simp [CN,q3,Cg]);clear G q1 q2 q3 HG;go_enter af,aL;go_wp2_with (go_at_call 62;refine (Calls.ext (HT _)).mono ?_;rintro e w' ⟨rfl,y,rfl⟩);go_ret;rw [HS.out];exact⟨⟨.slice (some ⟨y.w.heap.size,0,none⟩) 2 2,rfl,uu _ _ _ _,fun q hq=>by cases hq;exact (Jn.out y).size⟩,RQ.out y _⟩
   ·have d3:(op==22)=false:=by simp [q3]
    by_cases q4:op=23
    ·have d4:(op==23)=true:=by simp [q4]
     have HS:=A3 (show CN ⟨op,ia,ib,ic,AD⟩ at_=[at_+1,tg] by rw [←G];simp [CN,q4,Cg]);clear G q1 q2 q3 q4 HG;go_enter af,aL;go_wp2_with (go_at_call 62;refine (Calls.ext (HT _)).mono ?_;rintro e w' ⟨rfl,y,rfl⟩);go_ret;rw [HS.out];exact⟨⟨.slice (some ⟨y.w.heap.size,0,none⟩) 2 2,rfl,uu _ _ _ _,fun q hq=>by cases hq;exact (Jn.out y).size⟩,RQ.out y _⟩
    ·have d4:(op==23)=false:=by simp [q4]
     have HS:=A3 (show CN ⟨op,ia,ib,ic,AD⟩ at_=[at_+1] by simp [CN,q1,q2,q3,q4]);clear G q1 q2 q3 q4 HG;go_enter af,aL;go_wp2_with (go_at_call 62;refine (Calls.ext (HT _)).mono ?_;rintro e w' ⟨rfl,y,rfl⟩);go_ret;rw [HS.out];exact⟨⟨.slice (some ⟨y.w.heap.size,0,none⟩) 1 1,rfl,qp _ _ _,fun q hq=>by cases hq;exact (Jn.out y).size⟩,RQ.out y _⟩
theorem T8 (n m:Int) (w:World):Calls Tryz.prog 58 #[.int .i64 n,.int .i64 m] w fun e w'=>e=.returned (.bool (decide (0≤n∧n≤m)))∧w=w':=by
 go_enter Tryz.func58,Tryz.ntmps58
 go_wp2
 all_goals
  go_ret;refine⟨F8 ?_,rfl⟩;rename_i h;first|(simp [h];done)|(simp;omega)
theorem uE (s:ByteArray) (w:World) (hs:s.size≤maxLen):Calls Tryz.prog 59 #[.string s] w fun e w'=>e=.returned (.bool (decide (1≤s.size∧s.size≤12)))∧w=w':=by
 unfold maxLen at hs;go_enter Tryz.func59,Tryz.ntmps59
 go_wp2
 all_goals
  go_ret;refine⟨F8 ?_,rfl⟩;rename_i h;have:(1:Int)≤s.size↔1≤s.size:=by omega
  have:(s.size:Int)≤12↔s.size≤12:=by omega
  first|(simp_all;done)|(simp;omega)
theorem apj:∀k,k<30→-131072≤Ge (fm k) 3∧Gj (fm k) 3≤131071:=by decide
theorem jX (x:Int) (h0:0≤x) : -131072≤(Ba x).1.AD∧(Ba x).1.AD≤131071:=by
 unfold Ba;split
 ·rename_i h
  obtain⟨h1,h2⟩:=h;have hv:CW (MC x)=true:=by
   unfold encI at h2;split at h2
   ·assumption
   ·simp at h2
  unfold CW at hv;simp only [Eh,E4] at hv;obtain⟨v1,⟨v2,v3⟩,v4⟩:=hv;have ho:(MC x).op=x / 67108864:=jK x _;obtain⟨k,hk⟩:∃k:Nat,x / 67108864=(k:Int):=⟨(x / 67108864).toNat,by omega⟩;rw [ho,hk] at v4;have aqW:k<30:=by omega
  have:=apj k aqW;unfold Ho at v4;simp only [Cu] at v4;have e:(MC x).at_ 3=(MC x).AD:=rfl;rw [e] at v4;simp only;omega
 ·simp
section
variable (c:Int→Ins) (st en:Int)
def FW (at_:Int) (p:List Int×Int) (s:Int):List Int×Int:=if st≤s∧s<en then (p.1++[s],p.2) else (p.1,if p.2<0∨at_<p.2 then at_ else p.2)
inductive Ek:Int→Prop
 | start:Ek st
 | step {a t:Int}:Ek a→t∈CN (c a) a→st≤t→t<en→Ek t
theorem Ek.range {a:Int} (h:Ek c st en a) (hs:st<en):st≤a∧a<en:=by
 cases h with
 | start=>omega
 | step _ _ h1 h2=>exact⟨h1,h2⟩
def NP (a:Int):Prop:=∃t∈CN (c a) a,¬(st≤t∧t<en)
structure Ex (D W:List Int) (bad:Int):Prop where
 nd:D.Nodup
 dr:∀a∈D,Ek c st en a
 wr:∀a∈W,Ek c st en a
 cl:∀a∈D,∀t∈CN (c a) a,st≤t→t<en→t∈D∨t∈W
 s:st∈D∨st∈W
 b:(bad = -1∧∀a∈D,¬NP c st en a)∨(bad∈D∧NP c st en bad∧∀a∈D,NP c st en a→bad≤a)
variable {c st en}
theorem Ex.first:Ex c st en [] [st] (-1):=
 ⟨by simp,by simp,by simpa using Ek.start,by simp,by simp,.inl ⟨rfl,by simp⟩⟩
theorem Ex.skip {D W:List Int} {bad a:Int} (h:Ex c st en D (W++[a]) bad) (ha:a∈D):Ex c st en D W bad:=
 ⟨h.nd,h.dr,fun x hx=>h.wr x (by simp [hx]),fun x hx t ht h1 h2=>by
   rcases h.cl x hx t ht h1 h2 with h3|h3
   ·exact .inl h3
   ·rcases Ch.1 h3 with h4|h4
    ·exact .inr h4
    ·simp at h4;exact .inl (h4▸ha),by
   rcases h.s with h3|h3
   ·exact .inl h3
   ·rcases Ch.1 h3 with h4|h4
    ·exact .inr h4
    ·simp at h4;exact .inl (h4▸ha),h.b⟩
theorem mS (a:Int) (ha:0≤a):∀(l:List Int) (W:List Int) (bad:Int),(bad = -1∨0≤bad)→
  (∀x,x∈(l.foldl (FW st en a) (W,bad)).1↔x∈W∨(x∈l∧st≤x∧x<en))∧
  ((∀t∈l,st≤t∧t<en)→(l.foldl (FW st en a) (W,bad)).2=bad)∧
  ((∃t∈l,¬(st≤t∧t<en))→(l.foldl (FW st en a) (W,bad)).2=if bad<0∨a<bad then a else bad)∧
  (l.foldl (FW st en a) (W,bad)).1.length≤W.length+l.length:=by
 intro l;induction l with
 | nil=>intro W bad hb;exact⟨by simp,by simp,by simp,by simp⟩
 | cons s l ih=>
  intro W bad hb;rw [LP];by_cases hs:st≤s∧s<en
  ·have e:FW st en a (W,bad) s=(W++[s],bad):=by unfold FW;rw [A9 hs]
   rw [e];obtain⟨i1,i2,i3,i4⟩:=ih (W++[s]) bad hb;refine⟨fun x=>?_,fun h=>i2 (fun t ht=>h t (by simp [ht])),fun ⟨t,ht,hn⟩=>i3 ⟨t,?_,hn⟩,?_⟩
   ·rw [i1]
    constructor
    ·rintro (h|⟨h1,h2⟩)
     ·rcases Ch.1 h with h|h
      ·exact .inl h
      ·simp at h;subst h;exact .inr ⟨by simp,hs⟩
     ·exact .inr ⟨by simp [h1],h2⟩
    ·rintro (h|⟨h1,h2⟩)
     ·exact .inl (by simp [h])
     ·rcases Da.1 h1 with rfl|h1
      ·exact .inl AR
      ·exact .inr ⟨h1,h2⟩
   ·rcases Da.1 ht with rfl|ht
    ·exact absurd hs hn
    ·exact ht
   ·simp at i4 ⊢;omega
  ·have e:FW st en a (W,bad) s=(W,if bad<0∨a<bad then a else bad):=by unfold FW;rw [A6 hs]
   rw [e];obtain⟨i1,i2,i3,i4⟩:=ih W (if bad<0∨a<bad then a else bad) (by split<;>omega);refine⟨fun x=>?_,fun h=>absurd (h s AR) hs,fun _=>?_,?_⟩
   ·rw [i1]
    constructor
    ·rintro (h|⟨h1,h2⟩)
     ·exact .inl h
     ·exact .inr ⟨by simp [h1],h2⟩
    ·rintro (h|⟨h1,h2⟩)
     ·exact .inl h
     ·rcases Da.1 h1 with rfl|h1
      ·exact absurd h2 hs
      ·exact .inr ⟨h1,h2⟩
   ·by_cases hl:∀t∈l,st≤t∧t<en
    ·exact i2 hl
    ·simp only [Classical.not_forall] at hl
     obtain⟨t,ht,hn⟩:=hl;rw [i3 ⟨t,ht,hn⟩];split
     ·rename_i h;split<;>simp
     ·rfl
   ·simp;omega
theorem Ex.push {D W:List Int} {bad a:Int} (h:Ex c st en D (W++[a]) bad) (ha:a∉D) (h0:0≤st) (WA:st<en) :
  Ex c st en (a :: D) ((CN (c a) a).foldl (FW st en a) (W,bad)).1 ((CN (c a) a).foldl (FW st en a) (W,bad)).2:=by
 have ra:=h.wr a AR;have hr:=ra.range c st en WA;have hbd:bad = -1∨0≤bad:=by
  rcases h.b with h1|h1
  ·exact .inl h1.1
  ·have:=(h.dr bad h1.1).range c st en WA
   omega
 obtain⟨p1,p2,p3,p4⟩:=mS (st:=st) (en:=en) a A0 (CN (c a) a) W bad hbd;refine⟨by simp [ha,h.nd],fun x hx=>?_,fun x hx=>?_,fun x hx t ht h1 h2=>?_,?_,?_⟩
 ·rcases Da.1 hx with rfl|hx
  ·exact ra
  ·exact h.dr x hx
 ·rcases (p1 x).1 hx with h1|⟨h1,h2,h3⟩
  ·exact h.wr x (by simp [h1])
  ·exact Ek.step ra h1 h2 h3
 ·rcases Da.1 hx with rfl|hx
  ·exact .inr ((p1 t).2 (.inr ⟨ht,h1,h2⟩))
  ·rcases h.cl x hx t ht h1 h2 with h3|h3
   ·exact .inl (by simp [h3])
   ·rcases Ch.1 h3 with h4|h4
    ·exact .inr ((p1 t).2 (.inl h4))
    ·simp at h4;exact .inl (by simp [h4])
 ·rcases h.s with h3|h3
  ·exact .inl (by simp [h3])
  ·rcases Ch.1 h3 with h4|h4
   ·exact .inr ((p1 _).2 (.inl h4))
   ·simp at h4;exact .inl (by simp [h4])
 ·by_cases hB:NP c st en a
  ·right
   rw [p3 hB];rcases h.b with⟨rfl,h2⟩|⟨h1,h2,h3⟩
   ·rw [A9 A0]
    refine⟨by simp,hB,fun x hx hx2=>?_⟩;rcases Da.1 hx with rfl|hx
    ·omega
    ·exact absurd hx2 (h2 x hx)
   ·have:=(h.dr bad h1).range c st en WA
    split
    ·rename_i hlt
     refine⟨by simp,hB,fun x hx hx2=>?_⟩;rcases Da.1 hx with rfl|hx
     ·omega
     ·have:=h3 x hx hx2;omega
    ·rename_i hlt
     refine⟨by simp [h1],h2,fun x hx hx2=>?_⟩;rcases Da.1 hx with rfl|hx
     ·omega
     ·exact h3 x hx hx2
  ·have hall:∀t∈CN (c a) a,st≤t∧t<en:=fun t ht=>Sw fun hn=>hB ⟨t,ht,hn⟩
   rw [p2 hall];rcases h.b with⟨h1,h2⟩|⟨h1,h2,h3⟩
   ·refine .inl ⟨h1,fun x hx=>?_⟩
    rcases Da.1 hx with rfl|hx
    ·exact hB
    ·exact h2 x hx
   ·refine .inr ⟨by simp [h1],h2,fun x hx hx2=>?_⟩
    rcases Da.1 hx with rfl|hx
    ·exact absurd hx2 hB
    ·exact h3 x hx hx2
theorem Ex.mem {D:List Int} {bad:Int} (h:Ex c st en D [] bad) (WA:st<en) (a:Int):a∈D↔Ek c st en a:=by
 constructor
 ·exact h.dr a
 ·intro ha
  induction ha with
  | start=>rcases h.s with h1|h1;exact h1;cases h1
  | step h1 h2 h3 h4 ih=>rcases h.cl _ ih _ h2 h3 h4 with h5|h5;exact h5;cases h5
theorem Ex.count {D W:List Int} {bad:Int} (h:Ex c st en D W bad) (WA:st<en):D.length≤(en - st).toNat:=by
 have key:∀(n:Nat) (D:List Int),D.Nodup→(∀a∈D,st≤a∧a<st+n)→D.length≤n:=by
  intro n;induction n with
  | zero=>
   intro D _ hD;cases D with
   | nil=>simp
   | cons a D=>have:=hD a AR;omega
  | succ n ih=>
   intro D hn hD;have h1:(D.erase (st+n)).length≤n:=ih _ (hn.erase _) (fun a ha=>by
    have h2:=(hn.mem_erase_iff).1 ha;have:=hD a h2.2;have:=h2.1
    omega)
   rw [List.length_erase] at h1;split at h1<;>omega
 refine key _ D h.nd (fun a ha=>?_);have:=(h.dr a ha).range c st en WA;omega
end
def Gm (c:Int→Ins) (D:List Int):Int→Option Value:=fun k=>if k∈D then some (c k).val else none
theorem ap4 (c:Int→Ins):Gm c []=fun _=>none:=by funext k;simp [Gm]
theorem aph (c:Int→Ins) (D:List Int) (a:Int):Ej (Gm c D) a (c a).val=Gm c (a :: D):=by
 funext k;unfold Ej Gm;by_cases h:k=a
 ·simp [h]
 ·simp [h]
theorem CS {w w':World} {base:Nat} {e:TypeId} {size:Nat} {v:Value} {n:Nat} {xs:List Value} (h:w.ownsRow base e size v n xs) (hb:Below w.heap.size w w'):w'.ownsRow base e size v n xs:=
 h.kept (row:=none) ⟨hb.os,hb.tape,hb.output,hb.size,fun k hk _=>hb.block k hk⟩ (by
  cases hv:v.ownBlock with
  | none=>exact .inl rfl
  | some k=>exact .inr AR)
theorem ownsRow_base {w:World} {base base':Nat} {e:TypeId} {size:Nat} {v:Value} {n:Nat} {xs:List Value} (h:w.ownsRow base e size v n xs) (hb:base'≤base):w.ownsRow base' e size v n xs:=by
 refine⟨h.1,?_⟩;rcases h.2 with h1|⟨g,cap,cur,h1,h2,h3⟩
 ·exact .inl h1
 ·exact .inr ⟨g,cap,cur,h1,by omega,h3⟩
abbrev Aq (l:List Int):List Value:=l.map (Value.int .i64)
structure Words (w:World) (v:Value) (n:Nat) (cd:Nat→Int):Prop where
 le:n≤1000000
 wd:∀i,i<n→0≤cd i∧cd i<4294967296
 at_:∃A cap,v=.slice A n cap∧n≤cap∧cap≤maxLen∧(0<n→∃b off,A=some ⟨b,off,none⟩∧b<w.heap.size∧∀i,i<n→w.cell? ⟨b,off+i,none⟩=some (.int .u32 (cd i)))
theorem Words.below {w w':World} {v:Value} {n:Nat} {cd:Nat→Int} (h:Words w v n cd) (hb:Below w.heap.size w w'):Words w' v n cd:=by
 obtain⟨A,cap,h1,h2,h3,h4⟩:=h.at_;refine⟨h.le,h.wd,A,cap,h1,h2,h3,fun h0=>?_⟩;obtain⟨b,off,ha,hlt,hc⟩:=h4 h0;exact⟨b,off,ha,by have:=hb.size;omega,fun i hi=>(hb.cell (p:=⟨b,off+i,none⟩) hlt).trans (hc i hi)⟩
def AK (cd:Nat→Int) (a:Int):Ins:=(Ba (cd a.toNat)).1
structure RC (w wr:World) (eb mb:Nat) (cv ev:Value) (sh lk:Int) (nm:ByteArray) (st en da:Int) (f:Int→Option Value):Prop where
 e1:eb=w.heap.size+1
 m1:mb=w.heap.size+2
 sz:w.heap.size+3≤wr.heap.size
 AA:Below w.heap.size w wr
 i0:wr.heap[w.heap.size]?=some (.cells #[cv,ev,.int .i64 sh,.int .i64 lk] 25 (0,0))
 e0:wr.heap[eb]?=some (.cells #[.string nm,.int .i64 st,.int .i64 en,.int .i64 da] 75 (0,0))
 map:Im wr mb f
theorem RC.below {w wr wr':World} {eb mb:Nat} {cv ev:Value} {sh lk:Int} {nm:ByteArray} {st en da:Int} {f:Int→Option Value} (h:RC w wr eb mb cv ev sh lk nm st en da f) (hb:Below (w.heap.size+3) wr wr'):RC w wr' eb mb cv ev sh lk nm st en da f:=
 ⟨h.e1,h.m1,by have:=hb.size;have:=h.sz;omega,h.AA.trans (hb.mono A0),(hb.block _ A0).trans h.i0,(hb.block _ (by have:=h.e1;omega)).trans h.e0,h.map.keep (hb.block _ (by have:=h.m1;omega))⟩
theorem RC.put {w wr wr':World} {eb mb:Nat} {cv ev:Value} {sh lk:Int} {nm:ByteArray} {st en da:Int} {f g:Int→Option Value} (h:RC w wr eb mb cv ev sh lk nm st en da f) (hm:Im wr' mb g) (ho:wr'.os=wr.os) (ht:wr'.tape=wr.tape) (hp:wr'.output=wr.output) (hs:wr'.heap.size=wr.heap.size) (hk:∀i,i≠mb→wr'.heap[i]?=wr.heap[i]?):RC w wr' eb mb cv ev sh lk nm st en da g:=
 ⟨h.e1,h.m1,by have:=h.sz;omega,h.AA.trans ⟨ho,ht,hp,by omega,fun k hk'=>hk k (by have:=h.m1;omega)⟩,(hk _ (by have:=h.m1;omega)).trans h.i0,(hk _ (by have:=h.m1;have:=h.e1;omega)).trans h.e0,hm⟩
theorem RC.cells {w wr:World} {eb mb:Nat} {cv ev:Value} {sh lk:Int} {nm:ByteArray} {st en da:Int} {f:Int→Option Value} (h:RC w wr eb mb cv ev sh lk nm st en da f) :
  wr.cell? ⟨w.heap.size,0,none⟩=some cv∧wr.cell? ⟨eb,1,none⟩=some (.int .i64 st)∧wr.cell? ⟨eb,2,none⟩=some (.int .i64 en):=
 ⟨by simp [World.cell?,h.i0],by simp [World.cell?,h.e0],by simp [World.cell?,h.e0]⟩
theorem Et (w:World) (o:Obj) {k:Nat} (h:k=w.heap.size):(w.alloc o).heap[k]?=some o:=by rw [h];exact AY w o
theorem Oy:(Tryz.prog.info? 3).map (fun i=>(i.zero,i.size,i.bytes))=some (some (.int .i64 0),1,8):=by kernel_rfl
theorem iH {w w':World} {b:Nat} (ho:w'.os=w.os) (ht:w'.tape=w.tape) (hp:w'.output=w.output) (hs:w'.heap.size=w.heap.size) (hk:∀i,i≠b→w'.heap[i]?=w.heap[i]?):w.grownBy w' (some b):=
 ⟨ho,ht,hp,by omega,fun k _ hne=>hk k (fun e=>hne (by rw [e]))⟩
theorem qI {st en a:Int} (ha:0≤a) (l W:List Int) (bad:Int) (hb:bad = -1∨0≤bad):(l.foldl (FW st en a) (W,bad)).1.length≤W.length+l.length:=(mS (st:=st) (en:=en) a ha l W bad hb).2.2.2
theorem art {α β:Type} (f:β→α→β) (b:β) (l:List α) (j:Nat) (h:j<l.length):(l.take (j+1)).foldl f b=f ((l.take j).foldl f b) l[j]:=by
 rw [I6,Ab h,Qw];rfl
theorem lz (w:World):(zeroValue 67).run Tryz.prog w=.ok (.agg #[.int .u8 0,.int .i64 0,.int .i64 0,.int .i64 0,.int .i64 0]) w:=by kernel_rfl
theorem uA {α:Type} (l:List α):l=[]∨∃t a,l=t++[a]:=by
 rcases List.eq_nil_or_concat l with h|⟨t,a,h⟩
 ·exact .inl h
 ·exact .inr ⟨t,a,by simpa using h⟩
theorem apq (cv ev:Value) (sh lk:Int) (nm:ByteArray) (st en da:Int) (n:Nat) (cd:Nat→Int) (w:World) (T:CO w) (HW:Words w cv n cd) (h0:0≤st) (h1:st<en) (h2:en≤n) :
  Calls Tryz.prog 31 #[.agg #[cv,ev,.int .i64 sh,.int .i64 lk],.agg #[.string nm,.int .i64 st,.int .i64 en,.int .i64 da]] w fun e w'=>∃D bad mb,e=.returned (.tuple #[.map (some mb),.int .i64 bad])∧w.heap.size≤mb∧Ex (AK cd) st en D [] bad∧Im w' mb (Gm (AK cd) D)∧Below w.heap.size w w':=by
 have hn:=HW.le;obtain⟨A,cap,rfl,hc1,hc2,hrd⟩:=HW.at_;obtain⟨b,off,rfl,hb,hcell⟩:=hrd A0;have⟨HWd,aru,HT⟩:=Bh HW.wd hcell T;clear HW hrd hcell T;obtain⟨i0,hi0,hz0,hz1,hz2⟩:=Dp Oy;have mk:=fun W:World=>(show (Instr.makeMap 96 none).run Tryz.prog W=.ok (.map (some W.heap.size)) (W.alloc (.map #[] 0)) from rfl);go_enter Tryz.func31,Tryz.ntmps31;go_upto_region 4 with fail;obtain⟨V,hV⟩:=A8 ((((w.alloc (.cells #[.slice (some ⟨b,off,none⟩) n cap,ev,.int .i64 sh,.int .i64 lk] 25)).alloc (.cells #[.string nm,.int .i64 st,.int .i64 en,.int .i64 da] 75)).alloc (.map #[] 0)).alloc (.cells #[.int .i64 st] 3));have hr0:RC w V (w.heap.size+1) (w.heap.size+1+1) (.slice (some ⟨b,off,none⟩) n cap) ev sh lk nm st en da (Gm (AK cd) []):=by
  subst hV;refine⟨rfl,rfl,by simp,?_,?_,?_,?_⟩
  ·exact ((((AV _ _).alloc (AH _) _).alloc AR _).alloc CD _).alloc CD _
  ·rw [Bv _ _ CD,Bv _ _ CD,Bv _ _ AR]
   exact AY _ _
  ·rw [Bv _ _ (by simp;try omega),Bv _ _ AR]
   exact Et _ _ AR
  ·rw [ap4]
   have e:w.heap.size+1+1=((w.alloc (.cells #[.slice (some ⟨b,off,none⟩) n cap,ev,.int .i64 sh,.int .i64 lk] 25)).alloc (.cells #[.string nm,.int .i64 st,.int .i64 en,.int .i64 da] 75)).heap.size:=by simp
   rw [e];exact (Im.made _).keep (Bv _ _ AR)
 have hw0:V.ownsRow (w.heap.size+3) 3 1 (.slice (some ⟨w.heap.size+1+1+1,0,none⟩) 1 1) 1 (Aq [st]):=by
  subst hV;refine⟨rfl,.inr ⟨w.heap.size+3,1,#[.int .i64 st],rfl,AH _,?_,AH _,by unfold maxLen;omega,rfl,rfl⟩⟩;exact Et _ _ AR
 rw [hV];obtain⟨eb,heb⟩:=A8 (w.heap.size+1);rw [heb] at hr0 hw0 ⊢;obtain⟨mb,hmb⟩:=A8 (eb+1);rw [hmb] at hr0 hw0 ⊢;have⟨HR0,HW0⟩:=AQ hr0 hw0;clear hV hr0 hw0;have HI0:=A3 (Ex.first (c:=AK cd) (st:=st) (en:=en));go_loopg [7,8,9,10,11,12,13,15] (3*(en - st).toNat+1) (fun gk a7 a8 a9 a10 a11 a12 a13 a15 wr=>∃(D W:List Int) (bad:Int),a7=.int .i64 bad∧gk≤3*(en - st).toNat+1∧3*D.length+gk=3*(en - st).toNat+W.length∧Ex (AK cd) st en D W bad∧wr.ownsRow (w.heap.size+3) 3 1 a8 W.length (Aq W)∧RC w wr eb mb (.slice (some ⟨b,off,none⟩) n cap) ev sh lk nm st en da (Gm (AK cd) D));case atStart=>exact⟨[],[st],-1,rfl,AH _,by simp,HI0.out,HW0.out,HR0.out⟩
 case round=>
  obtain⟨D,W,bad,rfl,auL,Ov,hI,hown,hC⟩:=hrel;have⟨HI,HO,HC⟩:=Bh hI hown hC;clear hI hown HI0 HW0 HR0;obtain⟨c0,c1,c2⟩:=hC.cells;have csz:=hC.sz;clear hC;rcases uA W with rfl|⟨W,at_,rfl⟩
  ·have hv:∃A cap',u8=.slice A 0 cap':=by
    rcases HO.out.2 with⟨h,_⟩|⟨g,cap',cur,h,_⟩
    ·exact⟨_,_,h⟩
    ·exact⟨_,_,h⟩
   obtain⟨A,cap',rfl⟩:=hv;go_wp2_with fail;go_ret2;exact⟨D,bad,mb,rfl,by omega,HI.out,HC.out.map,HC.out.AA⟩
  ·have hat:=(HI.out.wr at_ AR).range _ _ _ h1
   obtain⟨k,rfl⟩:∃k:Nat,at_=(k:Int):=⟨at_.toNat,by omega⟩;have hkn:k<n:=by omega
   obtain⟨g,cap',hv,hg3,Iz,hown',hcl⟩:∃g cap',u8=.slice (some ⟨g,0,none⟩) (W.length+1) cap'∧w.heap.size+3≤g∧(g<wr.heap.size∧W.length+1≤cap'∧cap'≤maxLen)∧wr.ownsRow (w.heap.size+3) 3 1 (.slice (some ⟨g,0,none⟩) W.length cap') W.length (Aq W)∧wr.cell? ⟨g,W.length,none⟩=some (.int .i64 (k:Int)):=by
    have h:=HO.out;have e1:Aq (W++[(k:Int)])=Aq W++[.int .i64 (k:Int)]:=by simp [Aq]
    have e2:(W++[(k:Int)]).length=W.length+1:=by simp
    rw [e1,e2] at h;rcases h.2 with⟨_,hz⟩|⟨g,cap',cur,hv,hg,Iz,hcap,hmax,hs1,hs2⟩
    ·omega
    ·subst hv
     refine⟨g,cap',rfl,hg,⟨(Bl.1 Iz).1,hcap,hmax⟩,ownsRow_pop (by simp [Aq]) h,?_⟩;rw [h.cellAt W.length A0];simp [Aq]
   subst hv;have HO':=A3 hown';unfold maxLen at Iz;clear hown' HO;have hbr:b<wr.heap.size:=by have:=HC.out.AA.size;omega
   have x1:wr.cell? ⟨b,off+k,none⟩=some (.int .u32 (cd k)):=by rw [HC.out.AA.cell (p:=⟨b,off+k,none⟩) hb];exact aru.out k hkn
   obtain⟨i,hi⟩:=A8 (AK cd k);have Nq:(Ba (cd k)).1=i:=by rw [←hi];simp [AK]
   have him:=jX (cd k) (HWd.out k hkn).1;rw [Nq] at him;have Pk:=HI.out.count h1;have dJ:3*D.length+gk=3*(en - st).toNat+(W.length+1):=by simpa using Ov
   clear Ov;by_cases hD:(k:Int)∈D
   ·have l1:=HC.out.map.Tc (P:=Tryz.prog) (kt:=3) (t:=96) (e:=67) Db WO (k:=(k:Int)) (v:=i.val) (by unfold Gm;rw [A9 hD,hi]) true
    simp only [↓reduceIte,Ins.val,kv] at l1;have HG:=A3 (Eg dJ Pk);clear Pk dJ him Nq x1 hat hkn;go_wp2_with fail
    go_roundg (gk - 1)
    case measure=>obtain⟨hq1,hq2⟩:=HG.out;omega
    case rel=>
     refine⟨D,W,bad,rfl,by omega,by obtain⟨hq1,hq2⟩:=HG.out;omega,HI.out.skip hD,CS HO'.out ((AV _ _).alloc (AH _) _),HC.out.below ((AV _ _).alloc csz _)⟩
   ·have l1:=HC.out.map.WH (P:=Tryz.prog) (kt:=3) (t:=96) (e:=67) Db WO (lz wr) (k:=(k:Int)) (JA A0 A0) (by unfold Gm;rw [A6 hD]) true
    simp only [↓reduceIte,kv] at l1;have hWl:W.length≤6000000:=by omega
    have⟨HG,HPI⟩:=AQ (Eg dJ Pk) (HI.out.push hD h0 h1);have Wq:=A3 (HPI.out.count h1);rw [hi] at HPI;have M8:=A3 (fun (W:World) (hW:Below w.heap.size w W)=>VS (cd k) (HWd.out k hkn).1 (HWd.out k hkn).2 W (HT.out.below hW));obtain⟨er,her⟩:=A8 ((Ba (cd k)).2);simp only [Nq,her,Ins.val] at M8;obtain⟨op,ia,ib,ic,AD⟩:=i;simp only at M8 him;clear Pk dJ Nq her;go_upto_region 9 with fail;obtain⟨V1,hV1⟩:=A8 (wr.alloc (.cells #[.int .u8 0,.int .i64 0,.int .i64 0,.int .i64 0,.int .i64 0] 67));have b1:Below wr.heap.size wr V1:=hV1▸(AV _ _).alloc (AH _) _;rw [hV1];clear hV1;have z1:V1.cell? ⟨b,off+k,none⟩=some (.int .u32 (cd k)):=by rw [b1.cell (p:=⟨b,off+k,none⟩) hbr];exact x1
    have z2:V1.cell? ⟨w.heap.size,0,none⟩=some (.slice (some ⟨b,off,none⟩) n cap):=by rw [b1.cell (p:=⟨w.heap.size,0,none⟩) (by show w.heap.size<_;omega)];exact c0
    have HD1:=A3 (M8.out V1 (HC.out.AA.trans (b1.mono A0)));have B1:=A3 b1;clear b1 x1 l1 c0;go_upto_region 10 with (go_at_call 22;refine (Calls.ext HD1.out).mono ?_;rintro e w' ⟨rfl,y,rfl⟩);have b2:Below wr.heap.size wr (y.w.alloc (.cells #[.int .u8 op,.int .i64 ia,.int .i64 ib,.int .i64 ic,.int .i64 AD] 67)):=(Ext.below B1.out B1.out.size y).alloc (FK B1.out.size y.h.size) _;have k2:=AY y.w (.cells #[.int .u8 op,.int .i64 ia,.int .i64 ib,.int .i64 ic,.int .i64 AD] 67);have k3:wr.heap.size≤y.w.heap.size:=FK B1.out.size y.h.size;obtain⟨V2,hV2⟩:=A8 (y.w.alloc (.cells #[.int .u8 op,.int .i64 ia,.int .i64 ib,.int .i64 ic,.int .i64 AD] 67));rw [hV2] at b2 k2 ⊢;obtain⟨q,hq⟩:=A8 y.w.heap.size;rw [hq] at k2 k3 ⊢;clear hV2 hq y z1 z2 HD1 B1;have C2:=A3 (HC.out.below (b2.mono csz));obtain⟨V3,l2,m3,o1,o2,o3,o4,o5⟩:=C2.out.map.put (P:=Tryz.prog) (kt:=3) (t:=96) (e:=67) Db WO (k:=(k:Int)) (JA A0 A0) (.agg #[.int .u8 op,.int .i64 ia,.int .i64 ib,.int .i64 ic,.int .i64 AD]);simp only [kv] at l2;have dy:=aph (AK cd) D (k:Int);rw [hi] at dy;simp only [Ins.val] at dy;rw [dy] at m3;have C3:=A3 (C2.out.put m3 o1 o2 o3 o4 o5);have Sv:q≠mb:=by omega
    have qZ:=A3 ((CS HO'.out b2).kept (iH o1 o2 o3 o4 o5) (.inr au));have y20:V2.cell? ⟨q,0,none⟩=some (.int .u8 op):=by simp [World.cell?,k2]
    have y21:V2.cell? ⟨q,1,none⟩=some (.int .i64 ia):=by simp [World.cell?,k2]
    have y22:V2.cell? ⟨q,2,none⟩=some (.int .i64 ib):=by simp [World.cell?,k2]
    have y23:V2.cell? ⟨q,3,none⟩=some (.int .i64 ic):=by simp [World.cell?,k2]
    have y24:V2.cell? ⟨q,4,none⟩=some (.int .i64 AD):=by simp [World.cell?,k2]
    have We:=(o5 q Sv).trans k2;have y30:V3.cell? ⟨q,0,none⟩=some (.int .u8 op):=by simp [World.cell?,We]
    have y31:V3.cell? ⟨q,1,none⟩=some (.int .i64 ia):=by simp [World.cell?,We]
    have y32:V3.cell? ⟨q,2,none⟩=some (.int .i64 ib):=by simp [World.cell?,We]
    have y33:V3.cell? ⟨q,3,none⟩=some (.int .i64 ic):=by simp [World.cell?,We]
    have y34:V3.cell? ⟨q,4,none⟩=some (.int .i64 AD):=by simp [World.cell?,We]
    have Ml:=A3 (jU ⟨op,ia,ib,ic,AD⟩ (k:Int) V3 A0 A0 GD GD);have s3:g<V3.heap.size:=by have:=b2.size;omega
    clear k2 We o1 o2 o3 o5 m3 b2 dy HO';simp only at Ml;go_upto_region 12 with (go_at_call 33;refine Ml.out.mono ?_;rintro e W4 ⟨⟨v,rfl,⟨SA,I5,rfl,sc1,sc2,sc3⟩,sc4⟩,hb4⟩);obtain⟨L,hL⟩:=A8 (CN ⟨op,ia,ib,ic,AD⟩ (k:Int));have hL2:L.length≤2:=hL▸Zc _ _;rw [hL] at HPI sc1 sc3 sc4 ⊢;have hwb:bad = -1∨0≤bad:=by
     rcases HI.out.b with q1|q1
     ·exact .inl q1.1
     ·have:=(HI.out.dr bad q1.1).range _ _ _ h1
      omega
    have hpl:=qI (st:=st) (en:=en) (a:=(k:Int)) A0 L W bad hwb;have HE:=A3 (show (3*((k:Int) :: D).length+(3*(en - st).toNat+(L.foldl (FW st en k) (W,bad)).1.length - 3*(D.length+1))=3*(en - st).toNat+(L.foldl (FW st en k) (W,bad)).1.length)∧3*(en - st).toNat+(L.foldl (FW st en k) (W,bad)).1.length - 3*(D.length+1)<gk by
     have e1:=HG.out;have e2:=Wq.out;simp only [IQ] at e2 ⊢
     omega)
    have IM:=A3 (show ∀j,((L.take j).foldl (FW st en k) (W,bad)).1.length≤W.length+2 from fun j=>by
     have:=qI (st:=st) (en:=en) (a:=(k:Int)) A0 (L.take j) W bad hwb;have e:(L.take j).length≤L.length:=by simp;omega
     omega)
    have C4:=A3 (C3.out.below (hb4.mono (by have:=C3.out.sz;omega)));have⟨pJ,I4⟩:=AQ (CS qZ.out hb4) (show Ints W4 (.slice SA L.length I5) L from⟨SA,I5,rfl,sc1,sc2,sc3⟩);have dj:∀q,(Value.slice (some ⟨g,0,none⟩) W.length cap').ownBlock=some q→(Value.slice SA L.length I5).ownBlock≠some q:=fun q hq hq2=>by
     have:=sc4 q hq2;simp [Value.ownBlock] at hq;omega
    have DJ:=A3 dj;clear hL sc1 sc2 sc3 sc4 hpl hwb HG Wq dj hb4 C3 qZ C2 l2 y20 y21 y22 y23 y24 y30 y31 y32 y33 y34 Ml M8 HI hcl c1 c2 him hi Sv o4 s3 k3 HC;obtain⟨wo,rfl⟩:∃wo:World,wo=wr:=⟨_,rfl⟩;go_loopw [7,8,15,57] (fun a7 a8 a15 a57 wr=>∃j:Nat,j≤L.length∧a57=.int .i64 (j:Int)∧a7=.int .i64 ((L.take j).foldl (FW st en k) (W,bad)).2∧wr.ownsRow (w.heap.size+3) 3 1 a8 ((L.take j).foldl (FW st en k) (W,bad)).1.length (Aq ((L.take j).foldl (FW st en k) (W,bad)).1)∧RC w wr eb mb (.slice (some ⟨b,off,none⟩) n cap) ev sh lk nm st en da (Gm (AK cd) ((k:Int) :: D))∧Ints wr (.slice SA L.length I5) L∧∀q,a8.ownBlock=some q→(Value.slice SA L.length I5).ownBlock≠some q) (fun _ _ _ a57 _=>L.length - (intOf a57).toNat);case atStart=>exact⟨0,Ca _,rfl,rfl,pJ.out,C4.out,I4.out,DJ.out⟩
    case round=>
     obtain⟨j,hj,rfl,rfl,hown,hC,hI,hdj⟩:=hrel;clear C4 pJ I4 DJ;obtain⟨c0,c1,c2⟩:=hC.cells;have atV:=hC.sz;have⟨HO,HC,HI,HJ⟩:=CU hown hC hI hdj;clear hown hC hI hdj;by_cases hlt:j<L.length
     ·have ft:=art (FW st en k) (W,bad) L j hlt
      have HF:=A3 ft;clear ft;have hpj:=IM.out j;obtain⟨⟨Wj,bj⟩,hWj⟩:∃p,(L.take j).foldl (FW st en k) (W,bad)=p:=⟨_,rfl⟩;rw [hWj] at HF HO hpj ⊢;simp only at HO hpj ⊢;obtain⟨A',EY,hv,i1,i2,i3⟩:=HI.out;cases hv;obtain⟨sb,so,rfl,JK,hsc⟩:=i3 A0;obtain⟨s,hs⟩:=A8 (L[j]);have x1:wr.cell? ⟨sb,so+j,none⟩=some (.int .i64 s):=by rw [hsc j hlt,← hs];simp [List.getD,Ab hlt]
      rw [hs] at HF;have dl:decide ((j:Int)<(L.length:Int))=true:=by simpa using hlt
      unfold maxLen at i2;clear hsc i3 hs;by_cases hin:st≤s∧s<en
      ·have d1:decide (st≤s)=true:=Ac hin.1
       have d2:decide (s<en)=true:=Ac hin.2;have HP:=A3 (show FW st en k (Wj,bj) s=(Wj++[s],bj) by unfold FW;rw [A9 hin]);clear hin;go_wp2_with (at_builtin;refine Lx _ rfl (.tmp 71) (.tmp 73) 38 rfl (w.heap.size+3) 3 i0 (.int .i64 0) 1 8 JJ hi0 hz0 hz1 hz2 rfl AP u8 _ _ rfl (HO.out.alloc _) ⟨wr.heap.size,0,none⟩ 1 1 [.int .i64 s] rfl rfl (Du _ _ _) Bd CJ A0 I7 ?_;intro v' W' hown' hgrow _ DY);have eF:=HF.out.trans HP.out;have bA:=(AV wr.heap.size wr).alloc (AH _) (.cells #[.int .i64 s] 3);have bG:Below (w.heap.size+3) wr W':=((AV _ _).alloc atV _).grown hgrow I7 (fun q hq=>(HO.out.lt q hq).1);go_roundw;case rel=>
        refine⟨j+1,by omega,by go_num,by rw [eF],?_,HC.out.below bG,(HI.out.below bA).grown hgrow (fun q hq hq2=>HJ.out q hq2 hq),fun q hq=>?_⟩
        ·rw [eF]
         simpa [Aq] using hown'
        ·rcases DY with h|h
         ·rw [h] at hq;exact HJ.out q hq
         ·rw [h,F9] at hq
          cases hq;intro h2;simp [Value.ownBlock] at h2;omega
       case measure=>exact Ai
      ·have HP:=A3 (show FW st en k (Wj,bj) s=(Wj,if bj<0∨(k:Int)<bj then (k:Int) else bj) by unfold FW;rw [A6 hin])
       have eF:=A3 (HF.out.trans HP.out);go_wp2_with fail;all_goals
        go_roundw;case rel=>
         refine⟨j+1,by omega,by go_num,?_,?_,HC.out,HI.out,HJ.out⟩
         ·rw [eF.out]
          first
           | (rw [A9 A0];done)
           | (rw [A6 A0];done)
         ·rw [eF.out];exact HO.out
        case measure=>exact Ai
     ·obtain rfl:j=L.length:=by omega
      have dl:decide ((L.length:Int)<(L.length:Int))=false:=by simp
      rw [Gx] at HO ⊢;go_wp2_with fail
      go_roundg (3*(en - st).toNat+(L.foldl (FW st en k) (W,bad)).1.length - 3*(D.length+1))
      case measure=>exact HE.out.2
      case rel=>exact⟨(k:Int) :: D,_,_,rfl,by have:=HE.out.2;omega,HE.out.1,HPI.out,HO.out,HC.out⟩
def Hj (i:Ins) (a:Int):List Int:=if Cg i.op=true then CN i a else if i.op=28 then [a] else if i.op=29 then [a+1] else []
def Pm (c:Int→Ins) (st:Int) (D:List Int) (x:Int):Prop:=x=st∨∃a∈D,x∈Hj (c a) a
structure LK (c:Int→Ins) (st:Int) (D:List Int) (g:Int→Option Value) (left:List Int):Prop where
 sound:∀x,g x=none∨(g x=some (.bool true)∧Pm c st D x)
 start:g st=some (.bool true)
 done:∀a∈D,a∈left∨∀x∈Hj (c a) a,g x=some (.bool true)
theorem LK.add {c:Int→Ins} {st:Int} {D:List Int} {g:Int→Option Value} {left:List Int} (h:LK c st D g left) {x:Int} (hx:Pm c st D x):LK c st D (Ej g x (.bool true)) left:=by
 refine⟨fun y=>?_,?_,fun a ha=>?_⟩
 ·unfold Ej
  by_cases e:y=x
  ·rw [A9 e];exact .inr ⟨rfl,e▸hx⟩
  ·rw [A6 e];exact h.sound y
 ·unfold Ej;split;rfl;exact h.start
 ·rcases h.done a ha with h1|h1
  ·exact .inl h1
  ·refine .inr fun y hy=>?_
   unfold Ej;split;rfl;exact h1 y hy
theorem LK.drop {c:Int→Ins} {st:Int} {D:List Int} {g:Int→Option Value} {left left':List Int} (h:LK c st D g left) {a:Int} (hl:∀x∈left,x=a∨x∈left') (ha:∀x∈Hj (c a) a,g x=some (.bool true)):LK c st D g left':=
 ⟨h.sound,h.start,fun b hb=>by
  rcases h.done b hb with h1|h1
  ·rcases hl b h1 with h2|h2
   ·exact .inr (h2▸ha)
   ·exact .inl h2
  ·exact .inr h1⟩
theorem LK.lead {c:Int→Ins} {st:Int} {D:List Int} {g:Int→Option Value} (h:LK c st D g []) (x:Int):(Pm c st D x∧g x=some (.bool true))∨(¬Pm c st D x∧g x=none):=by
 by_cases hx:Pm c st D x
 ·refine .inl ⟨hx,?_⟩
  rcases hx with rfl|⟨a,ha,hm⟩
  ·exact h.start
  ·rcases h.done a ha with h1|h1
   ·cases h1
   ·exact h1 x hm
 ·refine .inr ⟨hx,?_⟩
  rcases h.sound x with h1|h1
  ·exact h1
  ·exact absurd h1.2 hx
structure LM (w wr:World) (r fb mb:Nat) (f:Int→Option Value) (left:List Int) (g:Int→Option Value):Prop where
 m1:mb=w.heap.size+1
 r1:r=w.heap.size+2
 fb1:fb<w.heap.size
 AA:Below w.heap.size w wr
 it:Ir wr r fb f left
 map:Im wr mb g
theorem LM.below {w wr wr':World} {r fb mb:Nat} {f g:Int→Option Value} {left:List Int} (h:LM w wr r fb mb f left g) (hb:Below wr.heap.size wr wr'):LM w wr' r fb mb f left g:=
 ⟨h.m1,h.r1,h.fb1,h.AA.trans (hb.mono h.AA.size),h.it.keep (hb.block _ h.it.lt.1) (hb.block _ h.it.lt.2.1),h.map.below hb h.map.lt⟩
theorem LM.put {w wr wr':World} {r fb mb:Nat} {f g g':Int→Option Value} {left:List Int} (h:LM w wr r fb mb f left g) (hm:Im wr' mb g') (ho:wr'.os=wr.os) (ht:wr'.tape=wr.tape) (hp:wr'.output=wr.output) (hs:wr'.heap.size=wr.heap.size) (hk:∀i,i≠mb→wr'.heap[i]?=wr.heap[i]?):LM w wr' r fb mb f left g':=
 ⟨h.m1,h.r1,h.fb1,h.AA.trans ⟨ho,ht,hp,by omega,fun k hk'=>hk k (by have:=h.m1;omega)⟩,h.it.keep (hk _ (by have:=h.m1;have:=h.r1;omega)) (hk _ (by have:=h.m1;have:=h.fb1;omega)),hm⟩
theorem LM.step {w wr wr':World} {r fb mb:Nat} {f g:Int→Option Value} {left left':List Int} (h:LM w wr r fb mb f left g) (hi:Ir wr' r fb f left') (ho:wr'.os=wr.os) (ht:wr'.tape=wr.tape) (hp:wr'.output=wr.output) (hs:wr'.heap.size=wr.heap.size) (hk:∀i,i≠r→wr'.heap[i]?=wr.heap[i]?):LM w wr' r fb mb f left' g:=
 ⟨h.m1,h.r1,h.fb1,h.AA.trans ⟨ho,ht,hp,by omega,fun k hk'=>hk k (by have:=h.r1;omega)⟩,hi,h.map.keep (hk _ (by have:=h.m1;have:=h.r1;omega))⟩
theorem zm (w:World):(zeroValue 4).run Tryz.prog w=.ok (.bool false) w:=by kernel_rfl
theorem af6 (nm:ByteArray) (st en da:Int) (fb:Nat) (c:Int→Ins) (D:List Int) (w:World) (hst:0≤st∧st≤1000000) (hD:∀a∈D,(0≤a∧a≤1000000)∧(-1000000≤(c a).AD∧(c a).AD≤1000000)) (hF:Im w fb (Gm c D)) :
  Calls Tryz.prog 32 #[.agg #[.string nm,.int .i64 st,.int .i64 en,.int .i64 da],.map (some fb)] w fun e w'=>∃mb g,e=.returned (.map (some mb))∧w.heap.size≤mb∧LK c st D g []∧Im w' mb g∧Below w.heap.size w w':=by
 have hfb:=hF.lt;have mk:=fun W:World=>(show (Instr.makeMap 99 none).run Tryz.prog W=.ok (.map (some W.heap.size)) (W.alloc (.map #[] 0)) from rfl);obtain⟨V0,l0,m0,o1,o2,o3,o4,o5⟩:=(Im.made (w.alloc (.cells #[.string nm,.int .i64 st,.int .i64 en,.int .i64 da] 75))).put (P:=Tryz.prog) (kt:=3) (t:=99) (e:=4) Db N4 (k:=st) (JA A0 A0) (.bool true);simp only [kv,F9] at l0 m0 o4 o5;have b0:Below w.heap.size w V0:=((((AV _ _).alloc (AH _) _).alloc AR _):Below w.heap.size w ((w.alloc (.cells #[.string nm,.int .i64 st,.int .i64 en,.int .i64 da] 75)).alloc (.map #[] 0))).trans ⟨o1,o2,o3,by simp;omega,fun k hk=>o5 k A0⟩;obtain⟨o,cu,l1,r0,hleft⟩:=(hF.below b0 hfb).range (P:=Tryz.prog) (kt:=3) (t:=96) (e:=67) WO;rw [o4] at l1 r0;have hm0:LK c st D (Ej (fun _=>none) st (.bool true)) cu:=by
  refine⟨fun x=>?_,by simp [Ej],fun a ha=>.inl (hleft a (c a).val (by simp [Gm,ha]))⟩;unfold Ej;by_cases e:x=st
  ·rw [A9 e];exact .inr ⟨rfl,.inl e⟩
  ·rw [A6 e];exact .inl rfl
 have hlm:LM w (V0.alloc o) (w.heap.size+1+1) fb (w.heap.size+1) (Gm c D) cu (Ej (fun _=>none) st (.bool true)):=
  ⟨rfl,rfl,hfb,b0.alloc (by have:=b0.size;omega) _,r0,m0.keep (Bv _ _ A0)⟩
 have⟨Dj,HL0,HDD⟩:=Bh hm0 hlm hD;clear hm0 hlm hD hleft r0 m0 o5 o1 o2 o3 hF b0;go_enter Tryz.func32,Tryz.ntmps32;go_upto_region 3 with fail;obtain⟨V,hV⟩:=A8 (V0.alloc o);rw [hV] at HL0 ⊢;obtain⟨mb,hmb⟩:=A8 (w.heap.size+1);rw [hmb] at HL0 ⊢;obtain⟨r,hr⟩:=A8 (mb+1);rw [hr] at HL0 ⊢;clear hV l0 l1 o4;go_loopg [6,7,9] (cu.length) (fun gk a6 a7 a9 wr=>∃(left:List Int) (g:Int→Option Value),gk=left.length∧LK c st D g left∧LM w wr r fb mb (Gm c D) left g);case atStart=>exact⟨cu,_,rfl,Dj.out,HL0.out⟩
 case round=>
  obtain⟨left,g,rfl,hM,hL⟩:=hrel;have⟨HM,HL⟩:=AQ hM hL;clear Dj HL0 hM hL;rcases HL.out.it.next (P:=Tryz.prog) 0 with⟨hl,hrun⟩|⟨a,v,left',Wn,ha,hv,hlen,wC,hit,hrun,hent,o1,o2,o3,o4,o5⟩
  ·subst hl
   have BK:∀ty,(Instr.next (.pointer (some ⟨r,0,none⟩)) false ty).run Tryz.prog wr=_:=fun _=>hrun;clear hrun;go_wp2_with fail;go_ret;exact⟨mb,g,rfl,by omega,HM.out,HL.out.map,HL.out.AA⟩
  ·have BK:∀ty,(Instr.next (.pointer (some ⟨r,0,none⟩)) false ty).run Tryz.prog wr=_:=fun _=>hrun
   clear hrun;have VA:a∈D:=by
    unfold Gm at hv;split at hv
    ·assumption
    ·cases hv
   have JQ:v=(c a).val:=by
    unfold Gm at hv;rw [A9 VA] at hv;exact (FZ hv).symm
   subst JQ;obtain⟨⟨p1,p2⟩,p3,p4⟩:=HDD.out a VA;have⟨UL,Ni,HLd⟩:=Bh (HL.out.step hit o1 o2 o3 o4 o5) hlen (fun x (hx:x∈Hj (c a) a)=>(show Pm c st D x from .inr ⟨a,VA,hx⟩));obtain⟨i,hi⟩:=A8 (c a);rw [hi] at HLd BK hent p3 p4;have rA:∀g',LK c st D g' left→(∀x∈Hj i a,g' x=some (.bool true))→LK c st D g' left':=fun g' q1 q2=>q1.drop wC (by rw [hi];exact q2);have HDR:=A3 rA;clear hit hv wC hlen hi ha o5 o1 o2 o3 rA HL;simp only [Ins.val,kv] at BK hent;obtain⟨op,ia,ib,ic,AD⟩:=i;simp only at BK hent p3 p4;have HB:=uy op;rcases hb:Cg op
   ·rw [hb] at HB
    by_cases q1:op=28
    ·have d1:(op==28)=true:=by simp [q1]
     have Ng:=A3 (show Hj ⟨op,ia,ib,ic,AD⟩ a=[a] by unfold Hj;rw [A6 (by simp [hb]),A9 q1]);clear hb q1;go_upto_region 12 with (go_at_call 61;refine (HB _).mono ?_;rintro e w' ⟨rfl,rfl⟩);obtain⟨X,hX⟩:=A8 (Wn.alloc (.cells #[.int .u8 op,.int .i64 ia,.int .i64 ib,.int .i64 ic,.int .i64 AD] 67));have OD:=A3 (hX▸UL.out.below ((AV _ _).alloc (AH _) _));rw [hX];obtain⟨V3,l2,m3,o1,o2,o3,Ql,o5⟩:=OD.out.map.put (P:=Tryz.prog) (kt:=3) (t:=99) (e:=4) Db N4 (k:=a) (JA A0 A0) (.bool true);simp only [kv] at l2;have HL3:=A3 (OD.out.put m3 o1 o2 o3 Ql o5);clear hX m3 o1 o2 o3 Ql o5 BK hent;go_wp2_with fail
     go_roundg (left'.length)
     case measure=>exact Ni.out
     case rel=>
      refine⟨left',_,rfl,HDR.out _ (HM.out.add (HLd.out _ ?_)) ?_,HL3.out⟩
      ·rw [Ng.out];simp
      ·rw [Ng.out];simp [Ej]
    ·have d1:(op==28)=false:=by simp [q1]
     by_cases q2:op=29
     ·have d2:(op==29)=true:=by simp [q2]
      have Ng:=A3 (show Hj ⟨op,ia,ib,ic,AD⟩ a=[a+1] by unfold Hj;rw [A6 (by simp [hb]),A6 q1,A9 q2]);have w1:IntKind.i64.wrap (a+1)=a+1:=Dn _ A0;clear hb q1 q2;go_upto_region 14 with (go_at_call 61;refine (HB _).mono ?_;rintro e w' ⟨rfl,rfl⟩);obtain⟨X,hX⟩:=A8 (Wn.alloc (.cells #[.int .u8 op,.int .i64 ia,.int .i64 ib,.int .i64 ic,.int .i64 AD] 67));have OD:=A3 (hX▸UL.out.below ((AV _ _).alloc (AH _) _));rw [hX];obtain⟨V3,l2,m3,o1,o2,o3,Ql,o5⟩:=OD.out.map.put (P:=Tryz.prog) (kt:=3) (t:=99) (e:=4) Db N4 (k:=a+1) (JA A0 A0) (.bool true);simp only [kv] at l2;have HL3:=A3 (OD.out.put m3 o1 o2 o3 Ql o5);clear hX m3 o1 o2 o3 Ql o5 BK hent;go_wp2_with fail
      go_roundg (left'.length)
      case measure=>exact Ni.out
      case rel=>
       refine⟨left',_,rfl,HDR.out _ (HM.out.add (HLd.out _ ?_)) ?_,HL3.out⟩
       ·rw [Ng.out];simp
       ·rw [Ng.out];simp [Ej]
     ·have d2:(op==29)=false:=by simp [q2]
      have Ng:=A3 (show Hj ⟨op,ia,ib,ic,AD⟩ a=[] by unfold Hj;rw [A6 (by simp [hb]),A6 q1,A6 q2]);clear hb q1 q2;go_wp2_with (go_at_call 61;refine (HB _).mono ?_;rintro e w' ⟨rfl,rfl⟩)
      go_roundg (left'.length)
      case measure=>exact Ni.out
      case rel=>exact⟨left',_,rfl,HDR.out _ HM.out (by rw [Ng.out];simp),UL.out.below ((AV _ _).alloc (AH _) _)⟩
   ·rw [hb] at HB
    have Ng:=A3 (show Hj ⟨op,ia,ib,ic,AD⟩ a=CN ⟨op,ia,ib,ic,AD⟩ a by unfold Hj;rw [A9 hb]);have Ml:=A3 (fun W:World=>jU ⟨op,ia,ib,ic,AD⟩ a W p1 p2 p3 p4);clear hb;simp only at Ml;go_upto_region 7 with (first|(go_at_call 61;refine (HB _).mono ?_;rintro e w' ⟨rfl,rfl⟩)|(go_at_call 33;refine (Ml.out _).mono ?_;rintro e W4 ⟨⟨v,rfl,⟨SA,I5,rfl,sc1,sc2,sc3⟩,sc4⟩,hb4⟩));obtain⟨L,hL⟩:=A8 (CN ⟨op,ia,ib,ic,AD⟩ a);have hL2:L.length≤2:=hL▸Zc _ _;rw [hL] at Ng sc1 sc3 sc4 ⊢;have⟨OD,I4⟩:=AQ ((UL.out.below ((AV _ _).alloc (AH _) _)).below hb4) (show Ints W4 (.slice SA L.length I5) L from⟨SA,I5,rfl,sc1,sc2,sc3⟩);have hsz:r<Wn.heap.size:=UL.out.it.lt.1;have DJ:=A3 (show ∀q,(Value.slice SA L.length I5).ownBlock=some q→some mb≠some q from fun q hq e=>by
     have:=sc4 q hq;rw [F9] at this;cases e
     omega)
    have HLW:=A3 (show ∀x∈L,0≤x+2000000∧x≤3000000 from fun x hx=>by
     rw [←hL] at hx;unfold CN at hx;split at hx
     ·cases hx
     ·split at hx
      ·simp at hx;omega
      ·split at hx
       ·simp at hx;omega
       ·simp at hx;omega)
    clear hL sc1 sc2 sc3 sc4 hb4 BK hent Ml HB p1 p2 p3 p4 o4;obtain⟨wo,rfl⟩:∃wo:World,wo=wr:=⟨_,rfl⟩;go_loopw [9,29] (fun a9 a29 wr=>∃(j:Nat) (g':Int→Option Value),j≤L.length∧a29=.int .i64 (j:Int)∧LK c st D g' left∧(∀x∈L.take j,g' x=some (.bool true))∧LM w wr r fb mb (Gm c D) left' g'∧Ints wr (.slice SA L.length I5) L) (fun _ a29 _=>L.length - (intOf a29).toNat);case atStart=>exact⟨0,g,Ca _,rfl,HM.out,by simp,OD.out,I4.out⟩
    case round=>
     obtain⟨j,g',hj,rfl,hM',Dx,hL',hI'⟩:=hrel;have⟨HM',CT,HL',HI'⟩:=CU hM' Dx hL' hI';clear hM' Dx hL' hI' OD I4;by_cases hlt:j<L.length
     ·obtain⟨A',EY,hv,i1,i2,i3⟩:=HI'.out
      cases hv;obtain⟨sb,so,rfl,JK,hsc⟩:=i3 A0;obtain⟨s,hs⟩:=A8 (L[j]);have x1:wr.cell? ⟨sb,so+j,none⟩=some (.int .i64 s):=by rw [hsc j hlt,← hs];simp [List.getD,Ab hlt]
      have hsm:s∈L:=hs▸CQ hlt;have hsr:=HLW.out s hsm;have MS:=A3 (show L.take (j+1)=L.take j++[s] by rw [I6,Ab hlt,hs];rfl);have dl:decide ((j:Int)<(L.length:Int))=true:=by simpa using hlt
      unfold maxLen at i2;obtain⟨V3,l2,m3,o1,o2,o3,Ql,o5⟩:=HL'.out.map.put (P:=Tryz.prog) (kt:=3) (t:=99) (e:=4) Db N4 (k:=s) (JA A0 A0) (.bool true);simp only [kv] at l2;have⟨HL3,JW⟩:=AQ (HL'.out.put m3 o1 o2 o3 Ql o5) (HI'.out.grown (iH o1 o2 o3 Ql o5) DJ.out);have HM3:=A3 (HM'.out.add (HLd.out s (by rw [Ng.out];exact hsm)));clear hsc i3 hs m3 o1 o2 o3 Ql o5;go_wp2_with fail;go_roundw;case rel=>
       refine⟨j+1,_,by omega,by go_num,HM3.out,fun x hx=>?_,HL3.out,JW.out⟩;rw [MS.out] at hx;unfold Ej;split
       ·rfl
       ·rename_i hne
        rcases Ch.1 hx with h|h
        ·exact CT.out x h
        ·simp at h;exact absurd h hne
      case measure=>exact Ai
     ·obtain rfl:j=L.length:=by omega
      have dl:decide ((L.length:Int)<(L.length:Int))=false:=by simp
      rw [Gx] at CT;go_wp2_with fail
      go_roundg (left'.length)
      case measure=>exact Ni.out
      case rel=>exact⟨left',_,rfl,HDR.out _ HM'.out (by rw [Ng.out];exact CT.out),HL'.out⟩
structure Bt where
 nm:ByteArray
 st:Int
 en:Int
 da:Int
structure IZ (w:World) (v:Value) (l:List Bt):Prop where
 nm:∀e∈l,e.nm.size≤maxLen
 at_:∃A cap,v=.slice A l.length cap∧l.length≤cap∧cap≤maxLen∧(0<l.length→∃b off,A=some ⟨b,off,none⟩∧b<w.heap.size∧∀i e,l[i]?=some e→
  w.cell? ⟨b,off+i*4,none⟩=some (.string e.nm)∧w.cell? ⟨b,off+i*4+1,none⟩=some (.int .i64 e.st)∧w.cell? ⟨b,off+i*4+2,none⟩=some (.int .i64 e.en)∧w.cell? ⟨b,off+i*4+3,none⟩=some (.int .i64 e.da))
theorem IZ.below {w w':World} {v:Value} {l:List Bt} (h:IZ w v l) (hb:Below w.heap.size w w'):IZ w' v l:=by
 obtain⟨A,cap,h1,h2,h3,h4⟩:=h.at_;refine⟨h.nm,A,cap,h1,h2,h3,fun h0=>?_⟩;obtain⟨b,off,ha,hlt,hc⟩:=h4 h0;refine⟨b,off,ha,by have:=hb.size;omega,fun i e he=>?_⟩;obtain⟨c0,c1,c2,c3⟩:=hc i e he;exact⟨(hb.cell (p:=⟨b,_,none⟩) hlt).trans c0,(hb.cell (p:=⟨b,_,none⟩) hlt).trans c1,(hb.cell (p:=⟨b,_,none⟩) hlt).trans c2,(hb.cell (p:=⟨b,_,none⟩) hlt).trans c3⟩
structure ZH (cd:Nat→Int) (lk st en a:Int):Prop where
 dec:(Ba (cd a.toNat)).2=0
 tgt:Cg (AK cd a).op=true→st≤a+1+(AK cd a).AD∧a+1+(AK cd a).AD<en
 lock:(AK cd a).op=28∨(AK cd a).op=29→(AK cd a).AD<lk
theorem aps (cv ev:Value) (sh lk:Int) (nm:ByteArray) (st en da:Int) (n:Nat) (cd:Nat→Int) (k:Nat) (hk:k<n) (w:World) (T:CO w) (HW:Words w cv n cd) :
  Calls Tryz.prog 60 #[.agg #[cv,ev,.int .i64 sh,.int .i64 lk],.agg #[.string nm,.int .i64 st,.int .i64 en,.int .i64 da],.int .i64 (k:Int)] w fun e w'=>(∃r,e=.returned (.int .i64 r)∧(r=0↔ZH cd lk st en k))∧Below w.heap.size w w':=by
 have hn:=HW.le;obtain⟨A,cap,rfl,hc1,hc2,hrd⟩:=HW.at_;obtain⟨b,off,rfl,hb,hcell⟩:=hrd A0;have hwd:=HW.wd k hk;have x1:=hcell k hk;clear HW hrd hcell;obtain⟨i,hi⟩:=A8 (AK cd k);have Nq:(Ba (cd k)).1=i:=by rw [←hi];simp [AK]
 have him:=jX (cd k) hwd.1;rw [Nq] at him;have M8:=A3 (fun (W:World) (hW:Below w.heap.size w W)=>VS (cd k) hwd.1 hwd.2 W (T.below hW));obtain⟨er,her⟩:=A8 ((Ba (cd k)).2);simp only [Nq,her,Ins.val] at M8;have HK:=A3 (show ZH cd lk st en k↔(er=0∧(Cg i.op=true→st≤(k:Int)+1+i.AD∧(k:Int)+1+i.AD<en)∧(i.op=28∨i.op=29→i.AD<lk)) from⟨fun h=>⟨by rw [←her];exact h.dec,by rw [←hi];exact h.tgt,by rw [←hi];exact h.lock⟩,fun ⟨a1,a2,a3⟩=>⟨by rw [←her] at a1;exact a1,by rw [hi];exact a2,by rw [hi];exact a3⟩⟩);have w1:IntKind.i64.wrap ((k:Int)+1)=(k:Int)+1:=Dn _ A0;have w2:IntKind.i64.wrap ((k:Int)+1+i.AD)=(k:Int)+1+i.AD:=Dn _ A0;have LN:=A3 (fun W:World=>Y6 i (k:Int) W w1 w2);obtain⟨op,ia,ib,ic,AD⟩:=i;simp only at M8 LN HK him;obtain⟨br,hbr⟩:=A8 (Cg op);rw [hbr] at LN HK;obtain⟨tg,Nx⟩:=A8 (if br=true then (k:Int)+1+AD else 0);rw [Nx] at LN;have HG:=A3 Nx;clear hi Nq her Nx w1 w2 hwd hbr T;have fin:∀W,Below w.heap.size w W→Below w.heap.size w W:=fun _ h=>h;obtain⟨V0,Bq⟩:=A8 ((w.alloc (.cells #[.slice (some ⟨b,off,none⟩) n cap,ev,.int .i64 sh,.int .i64 lk] 25)).alloc (.cells #[.string nm,.int .i64 st,.int .i64 en,.int .i64 da] 75));have b0:Below w.heap.size w V0:=Bq▸((AV _ _).alloc (AH _) _).alloc AR _;have s0:w.heap.size+2=V0.heap.size:=by rw [←Bq];simp
 have k0:V0.heap[w.heap.size]?=some (.cells #[.slice (some ⟨b,off,none⟩) n cap,ev,.int .i64 sh,.int .i64 lk] 25):=by rw [←Bq,Bv _ _ AR];exact AY _ _
 have k1:V0.heap[w.heap.size+1]?=some (.cells #[.string nm,.int .i64 st,.int .i64 en,.int .i64 da] 75):=by rw [←Bq];exact Et _ _ AR
 have y1:V0.cell? ⟨w.heap.size,0,none⟩=some (.slice (some ⟨b,off,none⟩) n cap):=by simp [World.cell?,k0]
 have y2:V0.cell? ⟨b,off+k,none⟩=some (.int .u32 (cd k)):=by rw [b0.cell (p:=⟨b,off+k,none⟩) hb];exact x1
 have HD0:=A3 (M8.out V0 b0);go_enter Tryz.func60,Tryz.ntmps60;go_upto_region 1 with fail;have⟨K0,K1,B0⟩:=Bh k0 k1 b0;clear Bq k0 k1 b0 fin x1 M8;go_upto_region 2 with (go_at_call 22;refine (Calls.ext HD0.out).mono ?_;rintro e w' ⟨rfl,y,rfl⟩);obtain⟨V2,hV2⟩:=A8 (y.w.alloc (.cells #[.int .u8 op,.int .i64 ia,.int .i64 ib,.int .i64 ic,.int .i64 AD] 67));have b2:Below V0.heap.size V0 V2:=hV2▸y.h.alloc y.h.size _;have k2:V2.heap[y.w.heap.size]?=some (.cells #[.int .u8 op,.int .i64 ia,.int .i64 ib,.int .i64 ic,.int .i64 AD] 67):=hV2▸AY _ _;have s2:y.w.heap.size<V2.heap.size:=by rw [←hV2];simp
 have s3:=y.h.size;obtain⟨q,hq⟩:=A8 y.w.heap.size;rw [hV2];rw [hq] at k2 s2 s3 ⊢;have e1:V2.cell? ⟨w.heap.size+1,1,none⟩=some (.int .i64 st):=by rw [b2.cell (p:=⟨w.heap.size+1,1,none⟩) (by show w.heap.size+1<_;omega)];simp [World.cell?,K1.out]
 have e2:V2.cell? ⟨w.heap.size+1,2,none⟩=some (.int .i64 en):=by rw [b2.cell (p:=⟨w.heap.size+1,2,none⟩) (by show w.heap.size+1<_;omega)];simp [World.cell?,K1.out]
 have e3:V2.cell? ⟨w.heap.size,3,none⟩=some (.int .i64 lk):=by rw [b2.cell (p:=⟨w.heap.size,3,none⟩) (by show w.heap.size<_;omega)];simp [World.cell?,K0.out]
 have g0:V2.cell? ⟨q,0,none⟩=some (.int .u8 op):=by simp [World.cell?,k2]
 have g1:V2.cell? ⟨q,1,none⟩=some (.int .i64 ia):=by simp [World.cell?,k2]
 have g2:V2.cell? ⟨q,2,none⟩=some (.int .i64 ib):=by simp [World.cell?,k2]
 have g3:V2.cell? ⟨q,3,none⟩=some (.int .i64 ic):=by simp [World.cell?,k2]
 have g4:V2.cell? ⟨q,4,none⟩=some (.int .i64 AD):=by simp [World.cell?,k2]
 have B2:=A3 (B0.out.trans (b2.mono A0));have s4:V0.heap.size≤V2.heap.size:=b2.size;have s5:w.heap.size+1<V2.heap.size:=by omega
 have s6:w.heap.size<V2.heap.size:=by omega
 clear hV2 hq k2 y b2 y1 y2 HD0 K0 K1 B0;go_wp2_with (go_at_call 62;refine (Calls.ext (LN.out _)).mono ?_;rintro e w' ⟨rfl,y,rfl⟩);all_goals
  go_ret;refine⟨⟨_,rfl,?_⟩,?_⟩
  ·rw [HK.out]
   have hG:=HG.out;first
    | (simp_all;done)
    | (simp_all;omega)
  ·first
    | exact B2.out
    | exact Ext.below B2.out A0 y
def ET:Int→List Bt→Int→Prop
 | a,[],z=>a=z
 | a,e :: es,z=>e.st=a∧e.st<e.en∧ET e.en es z
theorem ET.append {l2:List Bt}:∀ {l1:List Bt} {a z:Int},ET a (l1++l2) z↔∃m,ET a l1 m∧ET m l2 z
 | [],a,z=>⟨fun h=>⟨a,rfl,h⟩,fun ⟨m,h1,h2⟩=>by cases h1;exact h2⟩
 | e :: l1,a,z=>by
  constructor
  ·rintro⟨h1,h2,h3⟩
   obtain⟨m,h4,h5⟩:=ET.append.1 h3;exact⟨m,⟨h1,h2,h4⟩,h5⟩
  ·rintro⟨m,⟨h1,h2,h3⟩,h4⟩
   exact⟨h1,h2,ET.append.2 ⟨m,h3,h4⟩⟩
theorem ET.RP:∀ {l:List Bt} {a z z':Int},ET a l z→ET a l z'→z=z'
 | [],a,z,z',h,h'=>by cases h;exact h'
 | e :: l,a,z,z',h,h'=>ET.RP h.2.2 h'.2.2
theorem ET.le:∀ {l:List Bt} {a z:Int},ET a l z→a≤z
 | [],a,z,h=>by cases h;exact EJ _
 | e :: l,a,z,⟨h1,h2,h3⟩=>by have:=ET.le h3;omega
theorem ET.bounds:∀ {l:List Bt} {a z:Int},ET a l z→∀e∈l,a≤e.st∧e.st<e.en∧e.en≤z
 | [],a,z,h,e,he=>by cases he
 | e :: l,a,z,⟨h1,h2,h3⟩,e',he=>by
  rcases Da.1 he with rfl|he
  ·have:=ET.le h3;omega
  ·have:=ET.bounds h3 e' he;omega
theorem ET.snoc {l:List Bt} {e:Bt} {a m:Int} (h:ET a l m) (h1:e.st=m) (h2:e.st<e.en):ET a (l++[e]) e.en:=
 ET.append.2 ⟨m,h,h1,h2,rfl⟩
structure Q6 (n:Nat) (cd:Nat→Int) (AO:List Bt) (sh lk:Int):Prop where
 code:n≤4096
 cnt:AO.length≤8
 shB:0≤sh∧sh≤64
 lkB:0≤lk∧lk≤4
 da:∀e∈AO,0≤e.da∧e.da≤512
 nm:∀e∈AO,1≤e.nm.size∧e.nm.size≤12
 ch:ET 0 AO n
 ins:∀e∈AO,∀k:Nat,e.st≤k→(k:Int)<e.en→ZH cd lk e.st e.en k
theorem I2 {α:Type} {l:List α} {j:Nat} {e:α} (h:l[j]?=some e):l.take (j+1)=l.take j++[e]:=by
 rw [I6,h];rfl
theorem IZ.cells {w wr:World} {A:Option Addr} {cap:Nat} {l:List Bt} (h:IZ w (.slice A l.length cap) l) (hb:Below w.heap.size w wr) {j:Nat} (hj:j<l.length) :
  ∃e b off,l[j]?=some e∧A=some ⟨b,off,none⟩∧b<w.heap.size∧wr.cell? ⟨b,off+j*4,none⟩=some (.string e.nm)∧wr.cell? ⟨b,off+j*4+1,none⟩=some (.int .i64 e.st)∧wr.cell? ⟨b,off+j*4+2,none⟩=some (.int .i64 e.en)∧wr.cell? ⟨b,off+j*4+3,none⟩=some (.int .i64 e.da):=by
 obtain⟨A',cap',hv,h2,h3,h4⟩:=(h.below hb).at_;cases hv;obtain⟨A',cap',hv,h2',h3',h4'⟩:=h.at_;cases hv;obtain⟨b,off,rfl,hlt,hc⟩:=h4 A0;obtain⟨b',off',hA,hlt',_⟩:=h4' A0;cases hA;have he:l[j]?=some l[j]:=Ab hj;obtain⟨c0,c1,c2,c3⟩:=hc j _ he;exact⟨l[j],b,off,he,rfl,hlt',c0,c1,c2,c3⟩
theorem akT (cv ev:Value) (sh lk:Int) (n:Nat) (cd:Nat→Int) (AO:List Bt) (w:World) (T:CO w) (HW:Words w cv n cd) (HE:IZ w ev AO) :
  Calls Tryz.prog 30 #[.agg #[cv,ev,.int .i64 sh,.int .i64 lk]] w fun e w'=>(∃r,e=.returned (.int .i64 r)∧(r=0↔Q6 n cd AO sh lk))∧Below w.heap.size w w':=by
 have hn:=HW.le;obtain⟨A,cap,hcv,hc1,hc2,hrd⟩:=HW.at_;obtain⟨EA,CV,hev,he1,he2,N5⟩:=HE.at_;have h63:AO.length≤2 ^ 63 - 1:=by unfold maxLen at he2;omega
 have⟨Mw,N0,HT⟩:=Bh HW HE T;clear hrd N5 HW HE T;subst hcv hev;have HBT:=T8;obtain⟨V0,Bq⟩:=A8 (w.alloc (.cells #[.slice A n cap,.slice EA AO.length CV,.int .i64 sh,.int .i64 lk] 25));have b0:Below w.heap.size w V0:=Bq▸(AV _ _).alloc (AH _) _;have s0:w.heap.size<V0.heap.size:=by rw [←Bq];simp
 have k0:V0.heap[w.heap.size]?=some (.cells #[.slice A n cap,.slice EA AO.length CV,.int .i64 sh,.int .i64 lk] 25):=by rw [←Bq];exact AY _ _
 have y0:V0.cell? ⟨w.heap.size,0,none⟩=some (.slice A n cap):=by simp [World.cell?,k0]
 have y1:V0.cell? ⟨w.heap.size,1,none⟩=some (.slice EA AO.length CV):=by simp [World.cell?,k0]
 have y2:V0.cell? ⟨w.heap.size,2,none⟩=some (.int .i64 sh):=by simp [World.cell?,k0]
 have y3:V0.cell? ⟨w.heap.size,3,none⟩=some (.int .i64 lk):=by simp [World.cell?,k0]
 have⟨K0,B0⟩:=AQ k0 b0;clear k0 b0;by_cases q1:n≤4096;case neg=>
  have d1:decide ((4096:Int)<(n:Int))=true:=by simp;omega
  go_enter ZT,di;go_wp2_with fail;go_ret;exact⟨⟨2,rfl,by simp;intro h;exact q1 h.code⟩,B0.out⟩
 have d1:decide ((4096:Int)<(n:Int))=false:=by simp;omega
 by_cases q2:AO.length≤8;case neg=>
  have d2:decide ((8:Int)<(AO.length:Int))=true:=by simp;omega
  go_enter ZT,di;go_wp2_with fail;go_ret;exact⟨⟨2,rfl,by simp;intro h;exact q2 h.cnt⟩,B0.out⟩
 have d2:decide ((8:Int)<(AO.length:Int))=false:=by simp;omega
 by_cases q3:0≤sh∧sh≤64;case neg=>
  have d3:decide (0≤sh∧sh≤64)=false:=Ad q3;have H3:∀W:World,Calls Tryz.prog 58 #[.int .i64 sh,.int .i64 64] W fun e w'=>e=.returned (.bool false)∧W=w':=fun W=>by have:=T8 sh 64 W;rwa [d3] at this
  clear d3 HBT;go_enter ZT,di;go_wp2_with (go_at_call 58;refine (H3 _).mono ?_;rintro e w' ⟨rfl,rfl⟩);go_ret;exact⟨⟨2,rfl,by simp;intro h;exact q3 h.shB⟩,B0.out⟩
 have H3:∀W:World,Calls Tryz.prog 58 #[.int .i64 sh,.int .i64 64] W fun e w'=>e=.returned (.bool true)∧W=w':=fun W=>by have:=T8 sh 64 W;rwa [Ac q3] at this
 by_cases q4:0≤lk∧lk≤4;case neg=>
  have H4:∀W:World,Calls Tryz.prog 58 #[.int .i64 lk,.int .i64 4] W fun e w'=>e=.returned (.bool false)∧W=w':=fun W=>by have:=T8 lk 4 W;rwa [Ad q4] at this
  clear HBT;go_enter ZT,di;go_wp2_with (go_at_call 58;(first|(with_reducible refine (H3 _).mono ?_)|(with_reducible refine (H4 _).mono ?_));rintro e w' ⟨rfl,rfl⟩);go_ret;exact⟨⟨2,rfl,by simp;intro h;exact q4 h.lkB⟩,B0.out⟩
 have H4:∀W:World,Calls Tryz.prog 58 #[.int .i64 lk,.int .i64 4] W fun e w'=>e=.returned (.bool true)∧W=w':=fun W=>by have:=T8 lk 4 W;rwa [Ac q4] at this
 go_enter ZT,di;go_upto_region 5 with (go_at_call 58;(first|(with_reducible refine (H3 _).mono ?_)|(with_reducible refine (H4 _).mono ?_));rintro e w' ⟨rfl,rfl⟩);clear H3 H4 Bq d1 d2;go_loopw [5,42] (fun a5 a42 wr=>∃j:Nat,j≤AO.length∧a42=.int .i64 (j:Int)∧(∀e∈AO.take j,0≤e.da∧e.da≤512)∧Below V0.heap.size V0 wr) (fun _ a42 _=>AO.length - (intOf a42).toNat);case atStart=>exact⟨0,Ca _,rfl,by simp,AV _ _⟩
 case round=>
  obtain⟨j,hj,rfl,hda,hb⟩:=hrel;have⟨HDA,HB⟩:=AQ hda hb;have BW:=A3 (B0.out.trans (hb.mono A0));have s1:=hb.size;clear hda hb;by_cases hlt:j<AO.length
  ·obtain⟨e,b,off,he,rfl,hbl,c0,c1,c2,c3⟩:=N0.out.cells BW.out hlt
   have⟨CT,Ke⟩:=AQ (I2 he) (Bj he);have dl:decide ((j:Int)<(AO.length:Int))=true:=by simpa using hlt
   clear he;by_cases q5:0≤e.da∧e.da≤512
   ·have H5:∀W:World,Calls Tryz.prog 58 #[.int .i64 e.da,.int .i64 512] W fun e w'=>e=.returned (.bool true)∧W=w':=fun W=>by have:=T8 e.da 512 W;rwa [Ac q5] at this
    go_wp2_with (go_at_call 58;refine (H5 _).mono ?_;rintro e w' ⟨rfl,rfl⟩);go_roundw;case rel=>
     refine⟨j+1,by omega,by go_num,fun x hx=>?_,HB.out.alloc A0 _⟩;rw [CT.out] at hx;rcases Ch.1 hx with h|h
     ·exact HDA.out x h
     ·simp at h;rw [h];exact q5
    case measure=>exact Ai
   ·have H5:∀W:World,Calls Tryz.prog 58 #[.int .i64 e.da,.int .i64 512] W fun e w'=>e=.returned (.bool false)∧W=w':=fun W=>by have:=T8 e.da 512 W;rwa [Ad q5] at this
    go_wp2_with (go_at_call 58;refine (H5 _).mono ?_;rintro e w' ⟨rfl,rfl⟩);go_ret;exact⟨⟨2,rfl,by simp;intro h;exact q5 (h.da e Ke.out)⟩,BW.out.alloc A0 _⟩
  ·obtain rfl:j=AO.length:=by omega
   have dl:decide ((AO.length:Int)<(AO.length:Int))=false:=by simp
   rw [Gx] at HDA;obtain⟨V1,rfl⟩:∃V1:World,V1=wr:=⟨_,rfl⟩;have z0:V1.cell? ⟨w.heap.size,0,none⟩=some (.slice A n cap):=by rw [HB.out.cell (p:=⟨w.heap.size,0,none⟩) s0];exact y0
   have z1:V1.cell? ⟨w.heap.size,1,none⟩=some (.slice EA AO.length CV):=by rw [HB.out.cell (p:=⟨w.heap.size,1,none⟩) s0];exact y1
   clear hlt;go_upto_region 11 with fail;go_loopw [7,55] (fun a7 a55 wr=>∃j:Nat,j≤AO.length∧a55=.int .i64 (j:Int)∧(∀e∈AO.take j,1≤e.nm.size∧e.nm.size≤12)∧Below V0.heap.size V0 wr) (fun _ a55 _=>AO.length - (intOf a55).toNat);case atStart=>exact⟨0,Ca _,rfl,by simp,HB.out⟩
   case round=>
    obtain⟨j,hj,rfl,hnm,hb⟩:=hrel;have HNM:=A3 hnm;clear HB BW z0 z1;have HB:=A3 hb;have BW:=A3 (B0.out.trans (hb.mono A0));have s1:=hb.size;clear hnm hb dl;by_cases hlt:j<AO.length
    ·obtain⟨e,b,off,he,rfl,hbl,c0,c1,c2,c3⟩:=N0.out.cells BW.out hlt
     have⟨CT,Ke⟩:=AQ (I2 he) (Bj he);have hnl:=N0.out.nm e Ke.out;have dl:decide ((j:Int)<(AO.length:Int))=true:=by simpa using hlt
     clear he;by_cases q5:1≤e.nm.size∧e.nm.size≤12
     ·have H5:∀W:World,Calls Tryz.prog 59 #[.string e.nm] W fun e w'=>e=.returned (.bool true)∧W=w':=fun W=>by have:=uE e.nm W hnl;rwa [Ac q5] at this
      go_wp2_with (go_at_call 59;refine (H5 _).mono ?_;rintro e w' ⟨rfl,rfl⟩);go_roundw;case rel=>
       refine⟨j+1,by omega,by go_num,fun x hx=>?_,HB.out.alloc A0 _⟩;rw [CT.out] at hx;rcases Ch.1 hx with h|h
       ·exact HNM.out x h
       ·simp at h;rw [h];exact q5
      case measure=>exact Ai
     ·have H5:∀W:World,Calls Tryz.prog 59 #[.string e.nm] W fun e w'=>e=.returned (.bool false)∧W=w':=fun W=>by have:=uE e.nm W hnl;rwa [Ad q5] at this
      go_wp2_with (go_at_call 59;refine (H5 _).mono ?_;rintro e w' ⟨rfl,rfl⟩);go_ret;exact⟨⟨6,rfl,by simp;intro h;exact q5 (h.nm e Ke.out)⟩,BW.out.alloc A0 _⟩
    ·obtain rfl:j=AO.length:=by omega
     have dl:decide ((AO.length:Int)<(AO.length:Int))=false:=by simp
     rw [Gx] at HNM;obtain⟨V2,rfl⟩:∃V2:World,V2=wr:=⟨_,rfl⟩;have z0:V2.cell? ⟨w.heap.size,0,none⟩=some (.slice A n cap):=by rw [HB.out.cell (p:=⟨w.heap.size,0,none⟩) s0];exact y0
     have z1:V2.cell? ⟨w.heap.size,1,none⟩=some (.slice EA AO.length CV):=by rw [HB.out.cell (p:=⟨w.heap.size,1,none⟩) s0];exact y1
     clear hlt;go_upto_region 18 with fail;go_loopw [8,10,67] (fun a8 a10 a67 wr=>∃(j:Nat) (m:Int),j≤AO.length∧a67=.int .i64 (j:Int)∧a8=.int .i64 m∧ET 0 (AO.take j) m∧Below V0.heap.size V0 wr) (fun _ _ a67 _=>AO.length - (intOf a67).toNat);case atStart=>exact⟨0,0,Ca _,rfl,rfl,rfl,HB.out⟩
     case round=>
      obtain⟨j,m,hj,rfl,rfl,hch,hb⟩:=hrel;have WX:=A3 hch;clear HB BW z0 z1;have HB:=A3 hb;have BW:=A3 (B0.out.trans (hb.mono A0));have s1:=hb.size;clear hch hb dl;by_cases hlt:j<AO.length
      ·obtain⟨e,b,off,he,rfl,hbl,c0,c1,c2,c3⟩:=N0.out.cells BW.out hlt
       have CT:=A3 (I2 he);have D6:=A3 (show ¬(e.st=m∧e.st<e.en)→∀z,¬ET 0 AO z from fun hno z hz=>by
        have e1:AO=AO.take j++(e :: AO.drop (j+1)):=by
         have:=Ul j AO;rw [ZX hlt] at this;have e2:AO[j]=e:=by rw [Ab hlt] at he;exact FZ he
         rw [e2] at this;exact this.symm
        rw [e1] at hz;obtain⟨m',h1,h2⟩:=ET.append.1 hz;have:=ET.RP WX.out h1
        exact hno ⟨by rw [this];exact h2.1,h2.2.1⟩)
       have dl:decide ((j:Int)<(AO.length:Int))=true:=by simpa using hlt
       clear he;by_cases q5:e.st=m
       ·by_cases q6:e.st<e.en
        ·have d5:(e.st != m)=false:=by simp [q5]
         have d6:decide (e.en≤e.st)=false:=by simp;omega
         have HQ:=A3 (Eg q5 q6);clear q5 q6;go_wp2_with fail;go_roundw;case rel=>
          refine⟨j+1,e.en,by omega,by go_num,rfl,?_,HB.out.alloc A0 _⟩;rw [CT.out];exact WX.out.snoc HQ.out.1 HQ.out.2
         case measure=>exact Ai
        ·have d5:(e.st != m)=false:=by simp [q5]
         have d6:decide (e.en≤e.st)=true:=by simp;omega
         have HQ:=A3 (D6.out (fun h=>q6 h.2));clear q5 q6;go_wp2_with fail;go_ret;exact⟨⟨14,rfl,by simp;intro h;exact HQ.out _ h.ch⟩,BW.out.alloc A0 _⟩
       ·have d5:(e.st != m)=true:=by simp [q5]
        have HQ:=A3 (D6.out (fun h=>q5 h.1));clear q5;go_wp2_with fail;go_ret;exact⟨⟨14,rfl,by simp;intro h;exact HQ.out _ h.ch⟩,BW.out.alloc A0 _⟩
      ·obtain rfl:j=AO.length:=by omega
       have dl:decide ((AO.length:Int)<(AO.length:Int))=false:=by simp
       rw [Gx] at WX;obtain⟨V3,rfl⟩:∃V3:World,V3=wr:=⟨_,rfl⟩;have z0:V3.cell? ⟨w.heap.size,0,none⟩=some (.slice A n cap):=by rw [HB.out.cell (p:=⟨w.heap.size,0,none⟩) s0];exact y0
       have z1:V3.cell? ⟨w.heap.size,1,none⟩=some (.slice EA AO.length CV):=by rw [HB.out.cell (p:=⟨w.heap.size,1,none⟩) s0];exact y1
       clear hlt;by_cases q7:m=(n:Int)
       ·have d7:(m != (n:Int))=false:=by simp [q7]
        have Jp:=A3 (show ET 0 AO n by rw [←q7];exact WX.out);clear q7 WX;go_upto_region 27 with fail;go_loopw [12,13,14,93] (fun a12 a13 a14 a93 wr=>∃j:Nat,j≤AO.length∧a93=.int .i64 (j:Int)∧(∀e∈AO.take j,∀k:Nat,e.st≤k→(k:Int)<e.en→ZH cd lk e.st e.en k)∧Below V0.heap.size V0 wr) (fun _ _ _ a93 _=>AO.length - (intOf a93).toNat);case atStart=>exact⟨0,Ca _,rfl,by simp,HB.out⟩
        case round=>
         obtain⟨j,hj,rfl,hins,hb⟩:=hrel;have G4:=A3 hins;clear HB BW z0 z1 d7;have HB:=A3 hb;have BW:=A3 (B0.out.trans (hb.mono A0));have s1:=hb.size;clear hins hb dl;by_cases hlt:j<AO.length
         ·obtain⟨e,b,off,he,rfl,hbl,c0,c1,c2,c3⟩:=N0.out.cells BW.out hlt
          have⟨CT,Ke⟩:=AQ (I2 he) (Bj he);obtain⟨g1,g2,g3⟩:=Jp.out.bounds e Ke.out;have dl:decide ((j:Int)<(AO.length:Int))=true:=by simpa using hlt
          clear he;go_upto_region 30 with fail;obtain⟨X,hX⟩:=A8 (wr.alloc (.cells #[.string e.nm,.int .i64 e.st,.int .i64 e.en,.int .i64 e.da] 75));have bX:Below V0.heap.size V0 X:=hX▸HB.out.alloc A0 _;have kX:X.heap[wr.heap.size]?=some (.cells #[.string e.nm,.int .i64 e.st,.int .i64 e.en,.int .i64 e.da] 75):=hX▸AY _ _;have sX:wr.heap.size<X.heap.size:=by rw [←hX];simp
          rw [hX];have⟨BX,KX⟩:=AQ bX kX;obtain⟨q,hq⟩:=A8 wr.heap.size;rw [hq] at KX sX s1 ⊢;clear hX bX kX HB BW c0 c1 c2 c3 hq dl;obtain⟨p0,hp0⟩:∃p0:Nat,e.st=(p0:Int):=⟨e.st.toNat,by omega⟩;have Ld:=A3 hp0;clear hp0;obtain⟨wo,rfl⟩:∃wo:World,wo=wr:=⟨_,rfl⟩;go_loopw [13,14] (fun a13 a14 wr=>∃p:Nat,a13=.int .i64 (p:Int)∧e.st≤(p:Int)∧(p:Int)≤e.en∧(∀k:Nat,e.st≤k→k<p→ZH cd lk e.st e.en k)∧Below X.heap.size X wr) (fun a13 _ _=>(e.en - intOf a13).toNat);case atStart=>exact⟨p0,by rw [Ld.out],by have:=Ld.out;omega,by have:=Ld.out;omega,fun k h1 h2=>by have:=Ld.out;omega,AV _ _⟩
          case round=>
           obtain⟨p,rfl,hp1,hp2,hok,hb⟩:=hrel;have⟨Ea,Ds⟩:=AQ hok hb;have Hl:=A3 (BX.out.trans (hb.mono A0));have BW:=A3 (B0.out.trans (Hl.out.mono A0));have s2:=hb.size;have v0:wr.cell? ⟨q,0,none⟩=some (.string e.nm):=by rw [hb.cell (p:=⟨q,0,none⟩) sX];simp [World.cell?,KX.out]
           have v1:wr.cell? ⟨q,1,none⟩=some (.int .i64 e.st):=by rw [hb.cell (p:=⟨q,1,none⟩) sX];simp [World.cell?,KX.out]
           have v2:wr.cell? ⟨q,2,none⟩=some (.int .i64 e.en):=by rw [hb.cell (p:=⟨q,2,none⟩) sX];simp [World.cell?,KX.out]
           have v3:wr.cell? ⟨q,3,none⟩=some (.int .i64 e.da):=by rw [hb.cell (p:=⟨q,3,none⟩) sX];simp [World.cell?,KX.out]
           have z0:wr.cell? ⟨w.heap.size,0,none⟩=some (.slice A n cap):=by rw [Hl.out.cell (p:=⟨w.heap.size,0,none⟩) s0];exact y0
           have z1:wr.cell? ⟨w.heap.size,1,none⟩=some (.slice (some ⟨b,off,none⟩) AO.length CV):=by rw [Hl.out.cell (p:=⟨w.heap.size,1,none⟩) s0];exact y1
           have z2:wr.cell? ⟨w.heap.size,2,none⟩=some (.int .i64 sh):=by rw [Hl.out.cell (p:=⟨w.heap.size,2,none⟩) s0];exact y2
           have z3:wr.cell? ⟨w.heap.size,3,none⟩=some (.int .i64 lk):=by rw [Hl.out.cell (p:=⟨w.heap.size,3,none⟩) s0];exact y3
           clear hok hb;by_cases hpe:(p:Int)<e.en
           ·have dp:decide ((p:Int)<e.en)=true:=Ac hpe
            have HCI:=A3 (aps (.slice A n cap) (.slice (some ⟨b,off,none⟩) AO.length CV) sh lk e.nm e.st e.en e.da n cd p A0 wr (HT.out.below BW.out) (Mw.out.below BW.out));go_wp2_with (go_at_call 60;refine HCI.out.mono ?_;rintro e' W5 ⟨⟨r,rfl,hr⟩,hb5⟩)
            ·rename_i hne
             have hr0:¬(r=0):=by simpa using hne
             go_ret;exact⟨⟨r,rfl,by simp only [hr0,false_iff];intro h;exact hr0 (hr.2 (h.ins e Ke.out p A0 hpe))⟩,BW.out.trans (hb5.mono (by have:=BW.out.size;omega))⟩
            ·rename_i hne
             have hr0:r=0:=by simpa using hne
             go_roundw;case rel=>
              refine⟨p+1,by go_num,by omega,by omega,fun k h1 h2=>?_,Ds.out.trans (hb5.mono A0)⟩;by_cases hkp:k=p
              ·rw [hkp];exact hr.1 hr0
              ·exact Ea.out k h1 A0
             case measure=>exact Ai
           ·have dp:decide ((p:Int)<e.en)=false:=Ad hpe
            go_wp2_with fail;go_roundw;case rel=>
             refine⟨j+1,by omega,by go_num,fun x hx k h1 h2=>?_,Hl.out⟩;rw [CT.out] at hx;rcases Ch.1 hx with h|h
             ·exact G4.out x h k h1 h2
             ·simp at h
              subst h;exact Ea.out k h1 A0
            case measure=>exact Ai
         ·obtain rfl:j=AO.length:=by omega
          have dl:decide ((AO.length:Int)<(AO.length:Int))=false:=by simp
          rw [Gx] at G4;go_wp2_with fail;go_ret;exact⟨⟨0,rfl,by simp;exact⟨q1,q2,q3,q4,HDA.out,HNM.out,Jp.out,G4.out⟩⟩,BW.out⟩
       ·have d7:(m != (n:Int))=true:=by simp [q7]
        go_wp2_with fail;go_ret;exact⟨⟨14,rfl,by simp;intro h;exact q7 (ET.RP WX.out h.ch)⟩,BW.out⟩
theorem ae0 (v:Value) (l:List Int) (x:Int) (w:World) (H:Ints w v l) :
  Calls Tryz.prog 63 #[v,.int .i64 x] w fun e w'=>(∃r:Int,e=.returned (.int .i64 r)∧(0≤r↔x∈l))∧w=w':=by
 obtain⟨A,cap,rfl,h2,h3,h4⟩:=H;have HC:=A3 h4;unfold maxLen at h3;clear h4;go_enter Tryz.func63,Tryz.ntmps63;go_upto_region 2 with fail;go_loopw [5,8] (fun a5 a8 wr=>∃j:Nat,j≤l.length∧a8=.int .i64 (j:Int)∧x∉l.take j∧wr=w) (fun _ a8 _=>l.length - (intOf a8).toNat);case atStart=>exact⟨0,Ca _,rfl,by simp,rfl⟩
 case round=>
  obtain⟨j,hj,rfl,hno,hw⟩:=hrel;subst hw;have D6:=A3 hno;clear hno;by_cases hlt:j<l.length
  ·obtain⟨b,off,rfl,hb,hc⟩:=HC.out A0
   obtain⟨s,hs⟩:=A8 (l[j]);have x1:wr.cell? ⟨b,off+j,none⟩=some (.int .i64 s):=by rw [hc j hlt,← hs];simp [List.getD,Ab hlt]
   have HS:=A3 (show l[j]?=some s by rw [Ab hlt,hs]);have dl:decide ((j:Int)<(l.length:Int))=true:=by simpa using hlt
   clear hc hs;by_cases q:x=s
   ·have d:(x==s)=true:=by simp [q]
    have HM:=A3 (show x∈l by rw [q];exact Bj HS.out);clear q;go_wp2_with fail;go_ret;exact⟨⟨(j:Int),rfl,by simp [HM.out]⟩,rfl⟩
   ·have d:(x==s)=false:=by simp [q]
    have HQ:=A3 q;clear q;go_wp2_with fail;go_roundw;case rel=>
     refine⟨j+1,by omega,by go_num,?_,by first|rfl|trivial⟩;rw [I2 HS.out];intro h;rcases Ch.1 h with h|h
     ·exact D6.out h
     ·simp at h;exact HQ.out h
    case measure=>exact Ai
  ·obtain rfl:j=l.length:=by omega
   have dl:decide ((l.length:Int)<(l.length:Int))=false:=by simp
   rw [Gx] at D6;go_wp2_with fail;go_ret;exact⟨⟨-1,rfl,by simp;exact D6.out⟩,rfl⟩
theorem wU (v:Value) (l:List Int) (x:Int) (w:World) (H:Ints w v l) :
  Calls Tryz.prog 34 #[v,.int .i64 x] w fun e w'=>e=.returned (.bool (decide (x∈l)))∧w=w':=by
 have HI:=ae0 v l x w H;go_enter Tryz.func34,Tryz.ntmps34;go_wp2_with (go_at_call 63;refine HI.mono ?_;rintro e w' ⟨⟨r,rfl,hr⟩,rfl⟩);go_ret;refine⟨F8 ?_,rfl⟩;first|rfl|exact decide_eq_decide.2 hr
section
variable (c:Int→Ins) (st:Int) (D:List Int)
def Ei (x:Int):Bool:=decide (x=st) || D.any (fun a=>decide (x∈Hj (c a) a))
theorem SC (x:Int):Ei c st D x=true↔Pm c st D x:=by
 unfold Ei Pm;simp
def Mr (L:List (Int×Int)) (t:Int):List (Int×Int):=match L.reverse with | []=>[]|(a,_) :: r=>(r.reverse)++[(a,t)]
def blk:Nat→List (Int×Int)
 | 0=>[]
 | m+1=>if st+m∈D then (if Ei c st D (st+m)=true then blk m++[(st+m,st+m+1)] else Mr (blk m) (st+m+1)) else blk m
end
theorem Yp (L:List (Int×Int)) (a b t:Int):Mr (L++[(a,b)]) t=L++[(a,t)]:=by simp [Mr]
theorem jz (L:List (Int×Int)) (h:L≠[]):∃M a b,L=M++[(a,b)]:=by
 rcases uA L with h'|⟨t,p,h'⟩
 ·exact absurd h' h
 ·exact⟨t,p.1,p.2,h'⟩
structure oT (c:Int→Ins) (st:Int) (D:List Int) (m:Nat) (L:List (Int×Int)):Prop where
 lo:∀p∈L,st≤p.1∧p.1<p.2∧p.2≤st+m
 Px:L.Pairwise (fun p q=>p.2≤q.1)
 last:∀p∈L,p.2 - 1∈D
 lead:∀p∈L,p.1∈D∧Ei c st D p.1=true
 cl:∀p∈L,p.2<st+m→p.2∈D→Ei c st D p.2=true
 num:∀x,st≤x→x<st+m→x∈D→Ei c st D x=true→∃p∈L,p.1=x
 ne:st∈D→0<m→L≠[]
theorem eA (c:Int→Ins) (st:Int) (D:List Int):Ei c st D st=true:=by simp [Ei]
theorem X9 (c:Int→Ins) (st:Int) (D:List Int):∀m,oT c st D m (blk c st D m)
 | 0=>⟨by simp [blk],by simp [blk],by simp [blk],by simp [blk],by simp [blk],fun x h1 h2=>by omega,fun _ h=>by omega⟩
 | m+1=>by
  have h:=X9 c st D m;unfold blk;by_cases hD:st+(m:Int)∈D
  ·rw [A9 hD]
   by_cases hl:Ei c st D (st+m)=true
   ·rw [A9 hl]
    refine⟨fun p hp=>?_,?_,fun p hp=>?_,fun p hp=>?_,fun p hp h1 h2=>?_,fun x h1 h2 h3 h4=>?_,fun _ _=>by simp⟩
    ·rcases Ch.1 hp with hp|hp
     ·have:=h.lo p hp;omega
     ·simp at hp;subst hp;simp;omega
    ·rw [r7]
     refine⟨h.Px,by simp,fun p hp q hq=>?_⟩;simp at hq;subst hq;have:=h.lo p hp;simp;omega
    ·rcases Ch.1 hp with hp|hp
     ·exact h.last p hp
     ·simp at hp;subst hp;simp only;rw [show st+(m:Int)+1 - 1=st+m by omega];exact hD
    ·rcases Ch.1 hp with hp|hp
     ·exact h.lead p hp
     ·simp at hp;subst hp;exact⟨hD,hl⟩
    ·rcases Ch.1 hp with hp|hp
     ·by_cases e:p.2=st+m
      ·rw [e];exact hl
      ·exact h.cl p hp A0 h2
     ·simp at hp;subst hp;simp at h1;omega
    ·by_cases e:x=st+m
     ·exact⟨(st+m,st+m+1),by simp,e.symm⟩
     ·obtain⟨p,hp,e⟩:=h.num x h1 A0 h3 h4
      exact⟨p,by simp [hp],e⟩
   ·rw [A6 hl]
    have hm:0<m:=by
     rcases UC m with e|e
     ·subst e
      exact absurd (by simpa using eA c st D) hl
     ·exact e
    by_cases hE:blk c st D m=[]
    ·rw [hE] at h ⊢
     refine⟨by simp [Mr],by simp [Mr],by simp [Mr],by simp [Mr],by simp [Mr],fun x h1 h2 h3 h4=>?_,fun h1 h2=>absurd rfl (h.ne h1 hm)⟩;by_cases e:x=st+m
     ·rw [e] at h4;exact absurd h4 hl
     ·obtain⟨p,hp,_⟩:=h.num x h1 A0 h3 h4
      cases hp
    ·obtain⟨M,a,b,hL⟩:=jz _ hE
     rw [hL,Yp];rw [hL] at h;have hab:=h.lo (a,b) AR;simp only at hab;have Q4:=h.Px;rw [r7] at Q4;refine⟨fun p hp=>?_,?_,fun p hp=>?_,fun p hp=>?_,fun p hp h1 h2=>?_,fun x h1 h2 h3 h4=>?_,fun _ _=>by simp⟩
     ·rcases Ch.1 hp with hp|hp
      ·have:=h.lo p (by simp [hp]);omega
      ·simp at hp;subst hp;simp only;omega
     ·rw [r7]
      refine⟨Q4.1,by simp,fun p hp q hq=>?_⟩;simp at hq;subst hq;exact Q4.2.2 p hp (a,b) AR
     ·rcases Ch.1 hp with hp|hp
      ·exact h.last p (by simp [hp])
      ·simp at hp;subst hp;simp only;rw [show st+(m:Int)+1 - 1=st+m by omega];exact hD
     ·rcases Ch.1 hp with hp|hp
      ·exact h.lead p (by simp [hp])
      ·simp at hp;subst hp;exact h.lead (a,b) AR
     ·rcases Ch.1 hp with hp|hp
      ·have:=Q4.2.2 p hp (a,b) AR
       simp only at this;exact h.cl p (by simp [hp]) A0 h2
      ·simp at hp;subst hp;simp at h1;omega
     ·by_cases e:x=st+m
      ·rw [e] at h4;exact absurd h4 hl
      ·obtain⟨p,hp,e⟩:=h.num x h1 A0 h3 h4
       rcases Ch.1 hp with hp|hp
       ·exact⟨p,by simp [hp],e⟩
       ·simp at hp;subst hp;exact⟨(a,st+m+1),by simp,e⟩
  ·rw [A6 hD]
   refine⟨fun p hp=>?_,h.Px,h.last,h.lead,fun p hp h1 h2=>?_,fun x h1 h2 h3 h4=>?_,fun h1 h2=>?_⟩
   ·have:=h.lo p hp;omega
   ·by_cases e:p.2=st+m
    ·rw [e] at h2;exact absurd h2 hD
    ·exact h.cl p hp A0 h2
   ·by_cases e:x=st+m
    ·rw [e] at h3;exact absurd h3 hD
    ·exact h.num x h1 A0 h3 h4
   ·rcases UC m with e|e
    ·subst e
     exact absurd (by simpa using h1) hD
    ·exact h.ne h1 e
theorem eG (c:Int→Ins) (st:Int) (D:List Int):∀m,(blk c st D m).length≤m
 | 0=>by simp [blk]
 | m+1=>by
  have h:=eG c st D m;unfold blk;split
  ·split
   ·simp;omega
   ·by_cases hE:blk c st D m=[]
    ·rw [hE];simp [Mr]
    ·obtain⟨M,a,b,hL⟩:=jz _ hE
     rw [hL] at h ⊢;rw [Yp];simp at h ⊢;omega
  ·omega
def LG (L:List (Int×Int)):Int→Option Value:=fun x=>(L.findIdx? (fun p=>p.1==x)).map (fun i=>.int .i64 (i:Int))
theorem at2:LG []=fun _=>none:=by funext x;simp [LG]
theorem yc (L:List (Int×Int)) (a b t:Int):LG (L++[(a,b)])=LG (L++[(a,t)]):=by
 funext x;unfold LG;simp [List.findIdx?_append]
theorem atG (L:List (Int×Int)) (a b:Int) (h:∀p∈L,p.1≠a):Ej (LG L) a (.int .i64 (L.length:Int))=LG (L++[(a,b)]):=by
 funext x;unfold Ej LG;rw [List.findIdx?_append];by_cases e:x=a
 ·subst e
  have:L.findIdx? (fun p=>p.1==x)=none:=by
   rw [List.findIdx?_eq_none_iff];intro p hp;simpa using h p hp
  rw [A9 rfl,this];simp
 ·rw [A6 e]
  have:([(a,b)]:List (Int×Int)).findIdx? (fun p=>p.1==x)=none:=by
   simp;exact fun h=>e h.symm
  rw [this];simp
def idx (L:List (Int×Int)) (x:Int):Nat:=(L.findIdx? (fun p=>p.1==x)).getD 0
theorem fT {L:List (Int×Int)} {x:Int} (h:∃p∈L,p.1=x):LG L x=some (.int .i64 (idx L x:Int))∧idx L x<L.length∧(L.getD (idx L x) (0,0)).1=x:=by
 obtain⟨p,hp,e⟩:=h;have hs:(L.findIdx? (fun p=>p.1==x)).isSome:=by
  rw [List.findIdx?_isSome];simp only [tX];exact⟨p,hp,by simp [e]⟩
 obtain⟨i,hi⟩:=Option.isSome_iff_exists.1 hs;have h2:=yA.1 hi;obtain⟨h3,h4,_⟩:=h2;unfold LG idx;rw [hi];refine⟨rfl,h3,?_⟩;simp only [nw,List.getD_eq_getElem?_getD,Ab h3];simpa using h4
theorem Fs {w:World} {B B':Nat} {e e':TypeId} {s s' n n':Nat} {v v':Value} {xs xs':List Value} (h:w.ownsRow B e s v n xs) (h':w.ownsRow B' e' s' v' n' xs') (hne:e≠e') (q:Nat) (hq:v.ownBlock=some q):v'.ownBlock≠some q:=by
 intro hq';rcases h.2 with⟨rfl,_⟩|⟨g,cap,cur,rfl,_,hg,_⟩
 ·cases hq
 ·rcases h'.2 with⟨rfl,_⟩|⟨g',cap',cur',rfl,_,hg',_⟩
  ·cases hq'
  ·simp [Value.ownBlock] at hq hq'
   subst hq hq';rw [hg] at hg';cases hg';exact hne rfl
theorem grown_of {w w2 W':World} {row:Option Nat} (hb:Below w.heap.size w w2) (hg:w2.grownBy W' row):w.grownBy W' row:=
 ⟨hg.os.trans hb.os,hg.tape.trans hb.tape,hg.output.trans hb.output,FK hb.size hg.size,fun k hk hne=>(hg.block k (by have:=hb.size;omega) hne).trans (hb.block k hk)⟩
theorem Hz (w:World) (g o:Nat) (u:Value):w.grownBy (w.setCell ⟨g,o,none⟩ u) (some g):=
 ⟨rfl,rfl,rfl,by simp,fun k _ hne=>Bb _ _ _ _ (fun e=>hne (by rw [e]))⟩
def upd {α:Type} (f:Nat→α) (i:Nat) (x:α):Nat→α:=fun j=>if j=i then x else f j
def O4 (L:List (Int×Int)) (val:Nat→Value):List Value:=(List.range L.length).flatMap fun i=>[.int .i64 (L.getD i (0,0)).1,.int .i64 (L.getD i (0,0)).2,val i]
theorem vz {f:Nat→List Value} (hf:∀i,(f i).length=3):∀(n i j:Nat),i<n→j<3→((List.range n).flatMap f)[i*3+j]?=(f i)[j]?
 | n+1,i,j,hi,hj=>by
  rw [JT,Qu];have hl:((List.range n).flatMap f).length=n*3:=by
   clear hi;induction n with
   | zero=>rfl
   | succ n ih=>rw [JT,Qu,G5,ih];simp [hf];omega
  by_cases e:i<n
  ·rw [Kr A0]
   exact vz hf n i j e hj
  ·obtain rfl:i=n:=by omega
   rw [Jg A0,hl];simp
theorem ase {f:Nat→List Value} (hf:∀i,(f i).length=3) (n:Nat):((List.range n).flatMap f).length=n*3:=by
 induction n with
 | zero=>rfl
 | succ n ih=>rw [JT,Qu,G5,ih];simp [hf];omega
theorem aR (L:List (Int×Int)) (val:Nat→Value):(O4 L val).length=L.length*3:=ase (fun _=>rfl) _
theorem Rj (L:List (Int×Int)) (val:Nat→Value) {i j:Nat} (hi:i<L.length) (hj:j<3):(O4 L val)[i*3+j]?=[.int .i64 (L.getD i (0,0)).1,.int .i64 (L.getD i (0,0)).2,val i][j]?:=vz (f:=fun i=>[.int .i64 (L.getD i (0,0)).1,.int .i64 (L.getD i (0,0)).2,val i]) (fun _=>rfl) _ _ _ hi hj
theorem alj (L:List (Int×Int)) (val:Nat→Value) {i:Nat} (hi:i<L.length) (v:Value):(O4 L val).set (i*3+2) v=O4 L (upd val i v):=by
 apply JR;intro q;by_cases hq:q<L.length*3
 ·obtain⟨a,b,hb,rfl⟩:∃a b,b<3∧q=a*3+b:=⟨q / 3,q % 3,dW _ A0,by omega⟩
  have ha:a<L.length:=by omega
  rw [Gv,aR,Rj L _ ha hb,Rj L _ ha hb];by_cases e:i*3+2=a*3+b
  ·obtain rfl:a=i:=by omega
   obtain rfl:b=2:=by omega
   rw [A9 rfl,A9 A0];simp [upd]
  ·rw [A6 e]
   obtain rfl|rfl|rfl:b=0∨b=1∨b=2:=by omega
   ·rfl
   ·rfl
   ·have:a≠i:=by omega
    simp [upd,this]
 ·rw [Dy (by rw [LB,aR];omega),Dy (by rw [aR];omega)]
theorem adI (n:Nat) (val:Nat→Value) {p:Nat} (hp:p<n) (v:Value):((List.range n).map fun i=>val (n+i)).set p v=(List.range n).map fun i=>upd val (n+p) v (n+i):=by
 apply JR;intro q;rw [Gv];simp only [FQ,gm,D8];by_cases e:p=q
 ·subst e
  rw [A9 rfl,A9 hp,FI hp];simp [upd]
 ·rw [A6 e]
  by_cases hq:q<n
  ·rw [FI hq]
   simp [upd];intro h;omega
  ·rw [Dy (by simpa using hq)]
   rfl
structure BN (V wr:World) (gb nb g BH pg:Nat) (L:List (Int×Int)) (val:Nat→Value) (Ah:Nat→List Int):Prop where
 gV:gb<V.heap.size
 nV:nb<V.heap.size
 gn:gb≠nb
 os:wr.os=V.os
 tape:wr.tape=V.tape
 output:wr.output=V.output
 sz:V.heap.size≤wr.heap.size
 blk:∀k,k<V.heap.size→k≠gb→k≠nb→wr.heap[k]?=V.heap[k]?
 gg:wr.heap[gb]?=some (.cells #[.slice (some ⟨g,0,none⟩) L.length BH,.slice (some ⟨pg,0,none⟩) L.length L.length] 31 (0,0))
 num:Im wr nb (LG L)
 Na:wr.ownsRow V.heap.size 78 3 (.slice (some ⟨g,0,none⟩) L.length BH) L.length (O4 L val)
 C8:wr.ownsRow V.heap.size 38 1 (.slice (some ⟨pg,0,none⟩) L.length L.length) L.length ((List.range L.length).map fun i=>val (L.length+i))
 own:∀i,i<2*L.length→wr.ownsRow V.heap.size 3 1 (val i) (Ah i).length (Aq (Ah i))
 FR:∀i j,i<2*L.length→j<2*L.length→i≠j→∀q,(val i).ownBlock=some q→(val j).ownBlock≠some q
section
variable {V wr:World} {gb nb g BH pg:Nat} {L:List (Int×Int)} {val:Nat→Value} {Ah:Nat→List Int}
theorem BN.below {wr':World} (h:BN V wr gb nb g BH pg L val Ah) (hb:Below wr.heap.size wr wr'):BN V wr' gb nb g BH pg L val Ah:=
 ⟨h.gV,h.nV,h.gn,hb.os.trans h.os,hb.tape.trans h.tape,hb.output.trans h.output,FK h.sz hb.size,fun k h1 h2 h3=>(hb.block k ZL).trans (h.blk k h1 h2 h3),(hb.block _ (by have:=h.sz;have:=h.gV;omega)).trans h.gg,h.num.below hb h.num.lt,CS h.Na hb,CS h.C8 hb,fun i hi=>CS (h.own i hi) hb,h.FR⟩
theorem BN.im (h:BN V wr gb nb g BH pg L val Ah) {x:Nat} {f:Int→Option Value} (hx:Im V x f) (h1:x≠gb) (h2:x≠nb):Im wr x f:=hx.keep (h.blk x hx.lt h1 h2)
theorem BN.rg (h:BN V wr gb nb g BH pg L val Ah):(V.heap.size≤g∧g<wr.heap.size)∧(V.heap.size≤pg∧pg<wr.heap.size)∧g≠pg:=
 ⟨h.Na.lt g rfl,h.C8.lt pg rfl,fun e=>Fs h.Na h.C8 AP g rfl NF⟩
theorem BN.app {w2 W':World} {i x:Nat} {y:Int} {v':Value} (h:BN V wr gb nb g BH pg L val Ah) (hi:i<2*L.length) (hb:Below wr.heap.size wr w2) (hg:w2.grownBy W' (val i).ownBlock)
  (hown:W'.ownsRow V.heap.size 3 1 v' ((Ah i).length+1) (Aq (Ah i++[y]))) (DY:v'.ownBlock=(val i).ownBlock∨v'.ownBlock=some w2.heap.size) (r o:Nat) (hr:(i<L.length∧r=g∧o=i*3+2)∨(L.length≤i∧r=pg∧o=i - L.length)) :
  BN V (W'.setCell ⟨r,o,none⟩ v') gb nb g BH pg L (upd val i v') (upd Ah i (Ah i++[y])):=by
 have G:=grown_of hb hg;have S:=Hz W' r o v';obtain⟨⟨g1,g2⟩,⟨p1,p2⟩,gp⟩:=h.rg;have Sj:=h.gV;have Nn:=h.nV;have Iz:=G.size;have oi:=h.own i hi;have ob:∀q,(val i).ownBlock=some q→V.heap.size≤q∧q≠g∧q≠pg:=fun q hq=>⟨(oi.lt q hq).1,fun e=>Fs oi h.Na AP q hq NF,fun e=>Fs oi h.C8 AP q hq NF⟩;have rV:V.heap.size≤r∧(r=g∨r=pg):=by rcases hr with⟨_,rfl,_⟩|⟨_,rfl,_⟩;exact⟨g1,.inl rfl⟩;exact⟨p1,.inr rfl⟩
 have small:∀k,k<V.heap.size→(W'.setCell ⟨r,o,none⟩ v').heap[k]?=wr.heap[k]?:=fun k hk=>by
  rw [Bb _ _ _ _ (by show k≠r;omega)];exact G.block k A0 (fun e=>by have:=(ob k e.symm).1;omega)
 have PG:∀q,v'.ownBlock=some q→q≠r∧V.heap.size≤q:=fun q hq=>by
  have h1:=(hown.lt q hq).1;refine⟨fun e=>?_,h1⟩;have:W'.ownsRow V.heap.size 78 3 (.slice (some ⟨g,0,none⟩) L.length BH) L.length (O4 L val):=h.Na.kept G (.inr (fun e'=>(ob g e'.symm).2.1 rfl));have h2:W'.ownsRow V.heap.size 38 1 (.slice (some ⟨pg,0,none⟩) L.length L.length) L.length ((List.range L.length).map fun i=>val (L.length+i)):=h.C8.kept G (.inr (fun e'=>(ob pg e'.symm).2.2 rfl));rcases rV.2 with e2|e2
  ·exact Fs hown this AP q hq (by rw [e,e2];rfl)
  ·exact Fs hown h2 AP q hq (by rw [e,e2];rfl)
 have b':W'.ownsRow V.heap.size 78 3 (.slice (some ⟨g,0,none⟩) L.length BH) L.length (O4 L val):=h.Na.kept G (.inr (fun e'=>(ob g e'.symm).2.1 rfl));have p':W'.ownsRow V.heap.size 38 1 (.slice (some ⟨pg,0,none⟩) L.length L.length) L.length ((List.range L.length).map fun i=>val (L.length+i)):=h.C8.kept G (.inr (fun e'=>(ob pg e'.symm).2.2 rfl));have h2V:V.heap.size≤W'.heap.size:=by omega
 refine⟨h.gV,h.nV,h.gn,G.os.trans h.os,G.tape.trans h.tape,G.output.trans h.output,by simpa using h2V,fun k h1 h2 h3=>(small k h1).trans (h.blk k h1 h2 h3),(small gb Sj).trans h.gg,h.num.keep (small nb Nn),?_,?_,fun j hj=>?_,fun a c ha hc hac q hq=>?_⟩
 ·rcases hr with⟨hl,rfl,rfl⟩|⟨hl,rfl,rfl⟩
  ·rw [←alj L val hl v']
   exact (b'.stored (i*3+2) v').1
  ·have e:O4 L (upd val i v')=O4 L val:=by
    unfold O4;rw [List.flatMap_def,List.flatMap_def];congr 1
    apply SI;intro a ha;have:a≠i:=by have:=Gp.1 ha;omega
    simp [upd,this]
   rw [e];exact b'.kept S (.inr (by simp [Value.ownBlock];exact gp))
 ·rcases hr with⟨hl,rfl,rfl⟩|⟨hl,rfl,rfl⟩
  ·have e:((List.range L.length).map fun a=>upd val i v' (L.length+a))=(List.range L.length).map fun a=>val (L.length+a):=by
    apply SI;intro a ha;have:L.length+a≠i:=by omega
    simp [upd,this]
   rw [e];exact p'.kept S (.inr (by simp [Value.ownBlock];exact ED gp))
  ·have e:upd val i v'=upd val (L.length+(i - L.length)) v':=by rw [show L.length+(i - L.length)=i by omega]
   rw [e,← adI L.length val A0 v'];exact (p'.stored (i - L.length) v').1
 ·unfold upd
  by_cases e:j=i
  ·subst e
   rw [A9 rfl,A9 rfl];rw [show (Ah j++[y]).length=(Ah j).length+1 by simp];exact hown.kept S (by
    cases hv:v'.ownBlock with
    | none=>exact .inl rfl
    | some q=>exact .inr (fun e'=>(PG q hv).1 bg))
  ·rw [A6 e,A6 e]
   refine ((h.own j hj).kept G ?_).kept S ?_
   ·cases hv:(val j).ownBlock with
    | none=>exact .inl rfl
    | some q=>exact .inr (fun e'=>h.FR i j hi hj (fun e2=>e e2.symm) q e'.symm hv)
   ·cases hv:(val j).ownBlock with
    | none=>exact .inl rfl
    | some q=>
     refine .inr (fun e'=>?_);have SJ:q=r:=by simpa using e'
     rcases rV.2 with e2|e2
     ·exact Fs (h.own j hj) h.Na AP q hv (by rw [SJ,e2];rfl)
     ·exact Fs (h.own j hj) h.C8 AP q hv (by rw [SJ,e2];rfl)
 ·have new:∀a,a<2*L.length→a≠i→∀q,v'.ownBlock=some q→(val a).ownBlock≠some q:=fun a ha hai q hq hq2=>by
   rcases DY with h1|h1
   ·rw [h1] at hq
    exact h.FR i a hi ha (fun e=>hai e.symm) q hq hq2
   ·rw [h1] at hq
    cases hq;have:=((h.own a ha).lt _ hq2).2;have:=hb.size;omega
  unfold upd at hq ⊢;by_cases e1:a=i
  ·rw [A9 e1] at hq
   rw [A6 (fun e=>hac (e1.trans e.symm))];exact new c hc (fun e=>hac (e1.trans e.symm)) q hq
  ·rw [A6 e1] at hq
   by_cases e2:c=i
   ·rw [A9 e2]
    exact fun hq2=>new a ha e1 q hq2 hq
   ·rw [A6 e2]
    exact h.FR a c ha hc hac q hq
end
def Fq (l:List Int) (x:Int):List Int:=if x∈l then l else l++[x]
def Gf (L:List (Int×Int)) (S:List Int):List Int:=S.foldl (fun l s=>Fq l (idx L s:Int)) []
def JV (L:List (Int×Int)) (k:Nat):Int:=(L.getD k (0,0)).2 - 1
def EX (c:Int→Ins) (L:List (Int×Int)) (k:Nat):List Int:=Gf L (CN (c (JV L k)) (JV L k))
def SG (c:Int→Ins) (L:List (Int×Int)) (k p:Nat):List Int:=((List.range k).filter (fun b=>decide ((p:Int)∈EX c L b))).map (fun (b:Nat)=>(b:Int))
def FM (c:Int→Ins) (L:List (Int×Int)) (k:Nat) (l:List Int):Nat→List Int:=fun i=>
 if i<L.length then (if i<k then EX c L i else if i=k then l else []) else SG c L k (i - L.length)++if ((i - L.length:Nat):Int)∈l then [(k:Int)] else []
theorem aaJ (c:Int→Ins) (L:List (Int×Int)):FM c L 0 []=fun _=>[]:=by
 funext i;unfold FM SG;split
 ·simp
 ·simp
theorem wm (c:Int→Ins) (L:List (Int×Int)) (k:Nat):FM c L k (EX c L k)=FM c L (k+1) []:=by
 funext i;unfold FM;by_cases h:i<L.length
 ·rw [A9 h,A9 h]
  by_cases h1:i<k
  ·rw [A9 h1,A9 A0]
  ·rw [A6 h1]
   by_cases h2:i=k
   ·rw [A9 h2,A9 A0,h2]
   ·rw [A6 h2,A6 A0]
    split<;>rfl
 ·rw [A6 h,A6 h]
  unfold SG;rw [JT,Zz,Qh];by_cases h3:((i - L.length:Nat):Int)∈EX c L k
  ·simp [h3]
  ·simp [h3]
theorem aq3 (c:Int→Ins) (L:List (Int×Int)) (k p:Nat) (l:List Int) (hk:k<L.length) (hp:p<L.length) (hx:(p:Int)∉l):FM c L k (l++[(p:Int)])=upd (upd (FM c L k l) k (l++[(p:Int)])) (L.length+p) (FM c L k l (L.length+p)++[(k:Int)]):=by
 funext i;unfold upd;by_cases h1:i=L.length+p
 ·subst h1
  rw [A9 rfl];unfold FM;have e:¬(L.length+p<L.length):=by omega
  have e2:L.length+p - L.length=p:=by omega
  simp [e,e2,hx]
 ·rw [A6 h1]
  by_cases h2:i=k
  ·subst h2
   rw [A9 rfl];unfold FM;rw [A9 hk,A6 A0,A9 rfl]
  ·rw [A6 h2]
   unfold FM;by_cases h:i<L.length
   ·rw [A9 h,A9 h,A6 h2,A6 h2]
   ·rw [A6 h,A6 h]
    congr 1
    have:((i - L.length:Nat):Int)≠(p:Int):=by omega
    simp [this]
theorem jM (c:Int→Ins) (L:List (Int×Int)) (k:Nat) (l:List Int) (hk:k<L.length):FM c L k l k=l:=by
 unfold FM;rw [A9 hk,A6 A0,A9 rfl]
theorem asL (L:List (Int×Int)) (S:List Int) (j:Nat) (s:Int) (h:S[j]?=some s):Gf L (S.take (j+1))=Fq (Gf L (S.take j)) (idx L s:Int):=by
 unfold Gf;rw [I2 h,Qw];rfl
theorem qX (L:List (Int×Int)) (S:List Int):(Gf L S).length≤S.length:=by
 have:∀(S l:List Int),(S.foldl (fun l s=>Fq l (idx L s:Int)) l).length≤l.length+S.length:=by
  intro S;induction S with
  | nil=>intro l;simp
  | cons s S ih=>
   intro l;rw [LP];have:=ih (Fq l (idx L s:Int));have h2:(Fq l (idx L s:Int)).length≤l.length+1:=by unfold Fq;split<;>simp
   simp;omega
 have h:=this S [];simp only [bk,Er] at h;exact h
theorem atx (c:Int→Ins) (L:List (Int×Int)) (k p:Nat):(SG c L k p).length≤k:=by
 unfold SG;rw [FQ];exact FK (ko _ _) AR
structure AU where
 lo:Int
 hi:Int
 nx:List Int
deriving DecidableEq
def E7 (w:World) (v:Value) (G:List AU):Prop:=
 ∃A cap,v=.slice A G.length cap∧G.length≤cap∧cap≤maxLen∧(0<G.length→∃b off,A=some ⟨b,off,none⟩∧b<w.heap.size∧∀i x,G[i]?=some x→
  w.cell? ⟨b,off+i*3,none⟩=some (.int .i64 x.lo)∧w.cell? ⟨b,off+i*3+1,none⟩=some (.int .i64 x.hi)∧∃nv,w.cell? ⟨b,off+i*3+2,none⟩=some nv∧Ints w nv x.nx)
def Dk (w:World) (v:Value) (P:List (List Int)):Prop:=
 ∃A cap,v=.slice A P.length cap∧P.length≤cap∧cap≤maxLen∧(0<P.length→∃b off,A=some ⟨b,off,none⟩∧b<w.heap.size∧∀i x,P[i]?=some x→
  ∃nv,w.cell? ⟨b,off+i,none⟩=some nv∧Ints w nv x)
theorem E7.below {w w':World} {v:Value} {G:List AU} (h:E7 w v G) (hb:Below w.heap.size w w'):E7 w' v G:=by
 obtain⟨A,cap,h1,h2,h3,h4⟩:=h;refine⟨A,cap,h1,h2,h3,fun h0=>?_⟩;obtain⟨b,off,ha,hlt,hc⟩:=h4 h0;refine⟨b,off,ha,by have:=hb.size;omega,fun i x hx=>?_⟩;obtain⟨c0,c1,nv,c2,hn⟩:=hc i x hx;exact⟨(hb.cell (p:=⟨b,_,none⟩) hlt).trans c0,(hb.cell (p:=⟨b,_,none⟩) hlt).trans c1,nv,(hb.cell (p:=⟨b,_,none⟩) hlt).trans c2,hn.below hb⟩
theorem Dk.below {w w':World} {v:Value} {P:List (List Int)} (h:Dk w v P) (hb:Below w.heap.size w w'):Dk w' v P:=by
 obtain⟨A,cap,h1,h2,h3,h4⟩:=h;refine⟨A,cap,h1,h2,h3,fun h0=>?_⟩;obtain⟨b,off,ha,hlt,hc⟩:=h4 h0;refine⟨b,off,ha,by have:=hb.size;omega,fun i x hx=>?_⟩;obtain⟨nv,c2,hn⟩:=hc i x hx;exact⟨nv,(hb.cell (p:=⟨b,_,none⟩) hlt).trans c2,hn.below hb⟩
theorem NT {w:World} {B:Nat} {v:Value} {l:List Int} (h:w.ownsRow B 3 1 v l.length (Aq l)):Ints w v l:=by
 rcases h.2 with⟨rfl,h0⟩|⟨g,cap,cur,rfl,_,hg,h1,h2,_,_⟩
 ·have:l=[]:=iQ.1 h0
  subst this;exact s8 _
 ·refine⟨_,cap,rfl,h1,h2,fun _=>⟨g,0,rfl,(Bl.1 hg).1,fun i hi=>?_⟩⟩
  rw [Er,h.cellAt i A0];simp [Aq,List.getD,Ab hi]
def BP (c:Int→Ins) (L:List (Int×Int)):List AU:=(List.range L.length).map fun k=>⟨(L.getD k (0,0)).1,(L.getD k (0,0)).2,EX c L k⟩
def Jc (c:Int→Ins) (L:List (Int×Int)):List (List Int):=(List.range L.length).map fun p=>SG c L L.length p
theorem BN.graph {V wr wf:World} {gb nb g BH pg rb:Nat} {c:Int→Ins} {L:List (Int×Int)} {val:Nat→Value} (h:BN V wr gb nb g BH pg L val (FM c L L.length [])) (G:wr.grownBy wf (some rb)) (hrb:rb<V.heap.size) :
  E7 wf (.slice (some ⟨g,0,none⟩) L.length BH) (BP c L)∧Dk wf (.slice (some ⟨pg,0,none⟩) L.length L.length) (Jc c L):=by
 obtain⟨⟨g1,g2⟩,⟨p1,p2⟩,gp⟩:=h.rg;have gs:=G.size;have b':=h.Na.kept G (.inr au);have p':=h.C8.kept G (.inr au);have PG:∀i,i<2*L.length→wf.ownsRow V.heap.size 3 1 (val i) (FM c L L.length [] i).length (Aq (FM c L L.length [] i)):=fun i hi=>(h.own i hi).kept G (by
  cases hv:(val i).ownBlock with
  | none=>exact .inl rfl
  | some q=>exact .inr (fun e=>by have:=((h.own i hi).lt q hv).1;simp at e;omega))
 have bc:L.length≤BH∧BH≤maxLen:=by
  rcases b'.2 with⟨e,_⟩|⟨_,_,_,e,_,_,h1,h2,_⟩
  ·cases e
  ·cases e;exact⟨h1,h2⟩
 have pc:L.length≤maxLen:=by
  rcases p'.2 with⟨e,_⟩|⟨_,_,_,e,_,_,h1,h2,_⟩
  ·cases e
  ·cases e;exact h2
 refine⟨⟨_,BH,by simp [BP],by simp [BP];exact bc.1,bc.2,fun _=>⟨g,0,rfl,by omega,fun i x hx=>?_⟩⟩,⟨_,L.length,by simp [Jc],by simp [Jc],pc,fun _=>⟨pg,0,rfl,by omega,fun i x hx=>?_⟩⟩⟩
 ·unfold BP at hx
  rw [D8] at hx;have hi:i<L.length:=by
   by_cases hi:i<L.length
   ·exact hi
   ·rw [Dy WV] at hx;cases hx
  rw [FI hi] at hx;simp only [YS,MG] at hx;subst hx;refine⟨?_,?_,val i,?_,?_⟩
  ·rw [Er,b'.cellAt _ A0,show i*3=i*3+0 from rfl,Rj L val hi A0];rfl
  ·rw [Er,b'.cellAt _ A0,Rj L val hi A0];rfl
  ·rw [Er,b'.cellAt _ A0,Rj L val hi A0];rfl
  ·have:=NT (PG i A0)
   unfold FM at this
   rwa [A9 hi,A9 hi] at this
 ·unfold Jc at hx
  rw [D8] at hx;have hi:i<L.length:=by
   by_cases hi:i<L.length
   ·exact hi
   ·rw [Dy WV] at hx;cases hx
  rw [FI hi] at hx;simp only [YS,MG] at hx;subst hx;refine⟨val (L.length+i),?_,?_⟩
  ·rw [Er,p'.cellAt _ A0,D8,FI hi];rfl
  ·have:=NT (PG (L.length+i) A0)
   unfold FM at this;rw [A6 A0,show L.length+i - L.length=i by omega] at this;simpa using this
theorem Ints.len {w:World} {v:Value} {l:List Int} (h:Ints w v l):l.length≤2 ^ 63 - 1:=by
 obtain⟨A,cap,_,h2,h3,_⟩:=h;unfold maxLen at h3;omega
theorem wY {l1 l2:List Int} {j:Nat} {a b:Int} (h1:l1[j]?=some a) (h2:l2[j]?=some b) (h:l1.take j=l2.take j) (hab:a=b):l1.take (j+1)=l2.take (j+1):=by
 rw [I2 h1,I2 h2,h,hab]
theorem atJ (u v:Value) (l1 l2:List Int) (w:World) (H1:Ints w u l1) (H2:Ints w v l2) :
  Calls Tryz.prog 65 #[u,v] w fun e w'=>e=.returned (.bool (decide (l1=l2)))∧Below w.heap.size w w':=by
 obtain⟨A,cap,rfl,h2,h3,h4⟩:=H1;obtain⟨A2,EY,rfl,k2,k3,k4⟩:=H2;have⟨HC,HK⟩:=AQ h4 k4;unfold maxLen at h3 k3;clear h4 k4;go_enter Tryz.func65,Tryz.ntmps65;by_cases hl:l1.length=l2.length;case neg=>
  have d:((l1.length:Int) != (l2.length:Int))=true:=by simp;omega
  have HL:=A3 hl;clear hl;go_wp2_with fail;go_ret;exact⟨F8 (by symm;simp;intro h;exact HL.out (by rw [h])),AV _ _⟩
 have d:((l1.length:Int) != (l2.length:Int))=false:=by simp;omega
 have HL:=A3 hl;clear hl;go_upto_region 4 with fail;go_loopw [5,13] (fun a5 a13 wr=>∃j:Nat,j≤l1.length∧a13=.int .i64 (j:Int)∧l1.take j=l2.take j∧Below w.heap.size w wr) (fun _ a13 _=>l1.length - (intOf a13).toNat);case atStart=>exact⟨0,Ca _,rfl,by simp,AV _ _⟩
 case round=>
  obtain⟨j,hj,rfl,Dx,hb⟩:=hrel;have⟨CT,HB⟩:=AQ Dx hb;have hs:=hb.size;clear Dx hb;by_cases hlt:j<l1.length
  ·have hlt2:j<l2.length:=by have:=HL.out;omega
   obtain⟨b,off,rfl,hb1,hc⟩:=HC.out A0;obtain⟨b2,off2,rfl,hb2,hc2⟩:=HK.out A0;obtain⟨s,hs1⟩:=A8 (l1[j]);obtain⟨t,hs2⟩:=A8 (l2[j]);have x1:wr.cell? ⟨b,off+j,none⟩=some (.int .i64 s):=by rw [HB.out.cell (p:=⟨b,off+j,none⟩) hb1,hc j hlt,← hs1];simp [List.getD,Ab hlt]
   have x2:wr.cell? ⟨b2,off2+j,none⟩=some (.int .i64 t):=by rw [HB.out.cell (p:=⟨b2,off2+j,none⟩) hb2,hc2 j hlt2,← hs2];simp [List.getD,Ab hlt2]
   have WN:=A3 (show l1[j]?=some s by rw [Ab hlt,hs1]);have Pc:=A3 (show l2[j]?=some t by rw [Ab hlt2,hs2]);have dl:decide ((j:Int)<(l1.length:Int))=true:=by simpa using hlt
   have g1:b<wr.heap.size:=by omega
   have g2:b2<wr.heap.size:=by omega
   clear hc hc2 hs1 hs2;by_cases q:s=t
   ·have dq:(s != t)=false:=by simp [q]
    have HQ:=A3 q;clear q;go_upto_region 6 with fail;refine C7 A4 A4 ?_;repeat (go_big_quiet_step (fail))
    refine BD ?_;rintro _ ⟨y,rfl⟩;go_wp2_with fail;go_roundw;case rel=>exact⟨j+1,by omega,by go_num,wY WN.out Pc.out CT.out HQ.out,Ext.below HB.out hs y⟩
    case measure=>exact Ai
   ·have dq:(s != t)=true:=by simp [q]
    have HQ:=A3 q;clear q;go_upto_region 6 with fail;refine C7 A4 A4 ?_;repeat (go_big_quiet_step (fail))
    refine BD ?_;rintro _ ⟨y,rfl⟩;go_wp2_with fail;go_ret;refine⟨F8 api,Ext.below HB.out hs y⟩
  ·obtain rfl:j=l1.length:=by omega
   have dl:decide ((l1.length:Int)<(l1.length:Int))=false:=by simp
   have e:l1=l2:=by
    have h:=CT.out;have hL:=HL.out;rw [Gx,hL,Gx] at h;exact h
   have HE:=A3 e;clear e;go_wp2_with fail;go_ret;exact⟨F8 (by symm;simp;exact HE.out),HB.out⟩
theorem Dk.at_ {w wr:World} {A:Option Addr} {cap:Nat} {P:List (List Int)} (h:Dk w (.slice A P.length cap) P) (hb:Below w.heap.size w wr) {j:Nat} (hj:j<P.length) :
  ∃l nv b off,P[j]?=some l∧A=some ⟨b,off,none⟩∧b<w.heap.size∧wr.cell? ⟨b,off+j,none⟩=some nv∧Ints wr nv l:=by
 obtain⟨A',cap',hv,_,_,h4⟩:=h;cases hv;obtain⟨b,off,rfl,hlt,hc⟩:=h4 A0;obtain⟨nv,c1,c2⟩:=hc j _ (Ab hj);exact⟨P[j],nv,b,off,Ab hj,rfl,hlt,(hb.cell (p:=⟨b,_,none⟩) hlt).trans c1,c2.below hb⟩
theorem Dk.slice {w:World} {v:Value} {P:List (List Int)} (h:Dk w v P):∃A cap,v=.slice A P.length cap∧P.length≤cap∧cap≤2 ^ 63 - 1:=by
 obtain⟨A,cap,h1,h2,h3,_⟩:=h;unfold maxLen at h3;exact⟨A,cap,h1,h2,h3⟩
theorem xU (u v:Value) (P1 P2:List (List Int)) (w:World) (H1:Dk w u P1) (H2:Dk w v P2) :
  Calls Tryz.prog 64 #[u,v,.func (.func 65) #[] #[]] w fun e w'=>e=.returned (.bool (decide (P1=P2)))∧Below w.heap.size w w':=by
 obtain⟨A,cap,rfl,h2,h3⟩:=H1.slice;obtain⟨A2,EY,rfl,k2,k3⟩:=H2.slice;have⟨HC,HK⟩:=AQ H1 H2;clear H1 H2;go_enter Tryz.func64,Tryz.ntmps64;by_cases hl:P1.length=P2.length;case neg=>
  have d:((P1.length:Int) != (P2.length:Int))=true:=by simp;omega
  have HL:=A3 hl;clear hl;go_wp2_with fail;go_ret;exact⟨F8 (by symm;simp;intro h;exact HL.out (by rw [h])),AV _ _⟩
 have d:((P1.length:Int) != (P2.length:Int))=false:=by simp;omega
 have HL:=A3 hl;clear hl;go_upto_region 4 with fail;go_loopw [7,8,9,17] (fun a7 a8 a9 a17 wr=>∃j:Nat,j≤P1.length∧a17=.int .i64 (j:Int)∧P1.take j=P2.take j∧Below w.heap.size w wr) (fun _ _ _ a17 _=>P1.length - (intOf a17).toNat);case atStart=>exact⟨0,Ca _,rfl,by simp,AV _ _⟩
 case round=>
  obtain⟨j,hj,rfl,Dx,hb⟩:=hrel;have⟨CT,HB⟩:=AQ Dx hb;have hs:=hb.size;clear Dx hb;by_cases hlt:j<P1.length
  ·have hlt2:j<P2.length:=by have:=HL.out;omega
   obtain⟨l1,nv,b,off,g1,rfl,hb1,x1,EN⟩:=HC.out.at_ HB.out hlt;obtain⟨l2,nv2,b2,off2,g2,rfl,hb2,x2,FN⟩:=HK.out.at_ HB.out hlt2;have⟨WN,Pc⟩:=AQ g1 g2;have dl:decide ((j:Int)<(P1.length:Int))=true:=by simpa using hlt
   have HE:=A3 (atJ nv nv2 l1 l2 wr EN FN);clear g1 g2 EN FN;by_cases q:l1=l2
   ·rw [Ac q] at HE
    have HQ:=A3 q;clear q;go_wp2_with (go_at_call 65;refine HE.out.mono ?_;rintro e w' ⟨rfl,hb5⟩);go_roundw;case rel=>exact⟨j+1,by omega,by go_num,by rw [I2 WN.out,I2 Pc.out,CT.out,HQ.out],HB.out.trans (hb5.mono hs)⟩
    case measure=>exact Ai
   ·rw [Ad q] at HE
    have HQ:=A3 q;clear q;go_wp2_with (go_at_call 65;refine HE.out.mono ?_;rintro e w' ⟨rfl,hb5⟩);go_ret;refine⟨F8 api,HB.out.trans (hb5.mono hs)⟩
  ·obtain rfl:j=P1.length:=by omega
   have dl:decide ((P1.length:Int)<(P1.length:Int))=false:=by simp
   have e:P1=P2:=by
    have h:=CT.out;have hL:=HL.out;rw [Gx,hL,Gx] at h;exact h
   have HE:=A3 e;clear e;go_wp2_with fail;go_ret;exact⟨F8 (by symm;simp;exact HE.out),HB.out⟩
theorem oh:(Tryz.prog.info? 38).map (fun i=>(i.zero,i.size,i.bytes))=some (some (.slice none 0 0),1,24):=by kernel_rfl
structure PM (V wr:World) (pg n:Nat) (val:Nat→Value) (Ah:Nat→List Int):Prop where
 AA:Below V.heap.size V wr
 C8:wr.ownsRow V.heap.size 38 1 (.slice (some ⟨pg,0,none⟩) n n) n ((List.range n).map fun i=>val i)
 own:∀i,i<n→wr.ownsRow V.heap.size 3 1 (val i) (Ah i).length (Aq (Ah i))
 FR:∀i j,i<n→j<n→i≠j→∀q,(val i).ownBlock=some q→(val j).ownBlock≠some q
theorem kJ (n:Nat) (val:Nat→Value) {p:Nat} (hp:p<n) (v:Value):((List.range n).map fun i=>val i).set p v=(List.range n).map fun i=>upd val p v i:=by
 apply JR;intro q;rw [Gv];simp only [FQ,gm,D8];by_cases e:p=q
 ·subst e
  rw [A9 rfl,A9 hp,FI hp];simp [upd]
 ·rw [A6 e]
  by_cases hq:q<n
  ·rw [FI hq]
   simp [upd];intro h;omega
  ·rw [Dy (by simpa using hq)]
   rfl
section
variable {V wr:World} {pg n:Nat} {val:Nat→Value} {Ah:Nat→List Int}
theorem PM.below {wr':World} (h:PM V wr pg n val Ah) (hb:Below wr.heap.size wr wr'):PM V wr' pg n val Ah:=
 ⟨h.AA.trans (hb.mono h.AA.size),CS h.C8 hb,fun i hi=>CS (h.own i hi) hb,h.FR⟩
theorem PM.rg (h:PM V wr pg n val Ah):V.heap.size≤pg∧pg<wr.heap.size:=h.C8.lt pg rfl
theorem PM.cells (h:PM V wr pg n val Ah) {i:Nat} (hi:i<n):wr.cell? ⟨pg,i,none⟩=some (val i)∧wr.frozen? ⟨pg,i,none⟩=false:=
 ⟨by rw [h.C8.cellAt _ A0,D8,FI hi];rfl,h.C8.frozenAt _⟩
theorem PM.made {W':World} (hg:wr.grownBy W' none) (hb:Below V.heap.size V wr) (hr:W'.ownsRow V.heap.size 38 1 (.slice (some ⟨pg,0,none⟩) n n) n (List.replicate n (.slice none 0 0))):PM V W' pg n (fun _=>.slice none 0 0) (fun _=>[]):=by
 refine⟨hb.grown hg hb.size (fun k hk=>by cases hk),?_,fun i hi=>NK _ _ _ _,fun i j hi hj _ q hq=>by cases hq⟩;have e:((List.range n).map fun _=>Value.slice none 0 0)=List.replicate n (Value.slice none 0 0):=by
  apply JR;intro q;by_cases hq:q<n
  ·simp [hq]
  ·simp [hq]
 rw [e];exact hr
theorem PM.app {w2 W':World} {i:Nat} {y:Int} {v':Value} (h:PM V wr pg n val Ah) (hi:i<n) (hb:Below wr.heap.size wr w2) (hg:w2.grownBy W' (val i).ownBlock)
  (hown:W'.ownsRow V.heap.size 3 1 v' ((Ah i).length+1) (Aq (Ah i++[y]))) (DY:v'.ownBlock=(val i).ownBlock∨v'.ownBlock=some w2.heap.size) :
  PM V (W'.setCell ⟨pg,i,none⟩ v') pg n (upd val i v') (upd Ah i (Ah i++[y])):=by
 have G:=grown_of hb hg;have S:=Hz W' pg i v';obtain⟨p1,p2⟩:=h.rg;have Iz:=G.size;have MJ:=h.AA.size;have oi:=h.own i hi;have ob:∀q,(val i).ownBlock=some q→V.heap.size≤q∧q≠pg:=fun q hq=>⟨(oi.lt q hq).1,fun e=>Fs oi h.C8 AP q hq NF⟩;have p':W'.ownsRow V.heap.size 38 1 (.slice (some ⟨pg,0,none⟩) n n) n ((List.range n).map fun i=>val i):=h.C8.kept G (.inr (fun e'=>(ob pg e'.symm).2 rfl));have PG:∀q,v'.ownBlock=some q→q≠pg:=fun q hq e=>Fs hown p' AP q hq NF;refine⟨?_,?_,fun j hj=>?_,fun a c ha hc hac q hq=>?_⟩
 ·exact ((h.AA.grown G MJ (fun k hk=>(ob k hk).1)).grown S A0 (fun k hk=>by cases hk;exact p1))
 ·rw [←kJ n val hi v']
  exact (p'.stored i v').1
 ·unfold upd
  by_cases e:j=i
  ·subst e
   rw [A9 rfl,A9 rfl];rw [show (Ah j++[y]).length=(Ah j).length+1 by simp];exact hown.kept S (by
    cases hv:v'.ownBlock with
    | none=>exact .inl rfl
    | some q=>exact .inr (fun e'=>PG q hv bg))
  ·rw [A6 e,A6 e]
   refine ((h.own j hj).kept G ?_).kept S ?_
   ·cases hv:(val j).ownBlock with
    | none=>exact .inl rfl
    | some q=>exact .inr (fun e'=>h.FR i j hi hj (fun e2=>e e2.symm) q e'.symm hv)
   ·cases hv:(val j).ownBlock with
    | none=>exact .inl rfl
    | some q=>
     refine .inr (fun e'=>?_);have SJ:q=pg:=by simpa using e'
     exact Fs (h.own j hj) h.C8 AP q hv (by rw [SJ];rfl)
 ·have new:∀a,a<n→a≠i→∀q,v'.ownBlock=some q→(val a).ownBlock≠some q:=fun a ha hai q hq hq2=>by
   rcases DY with h1|h1
   ·rw [h1] at hq
    exact h.FR i a hi ha (fun e=>hai e.symm) q hq hq2
   ·rw [h1] at hq
    cases hq;have:=((h.own a ha).lt _ hq2).2;have:=hb.size;omega
  unfold upd at hq ⊢;by_cases e1:a=i
  ·rw [A9 e1] at hq
   rw [A6 (fun e=>hac (e1.trans e.symm))];exact new c hc (fun e=>hac (e1.trans e.symm)) q hq
  ·rw [A6 e1] at hq
   by_cases e2:c=i
   ·rw [A9 e2]
    exact fun hq2=>new a ha e1 q hq2 hq
   ·rw [A6 e2]
    exact h.FR a c ha hc hac q hq
theorem PM.lls (h:PM V wr pg n val Ah):Dk wr (.slice (some ⟨pg,0,none⟩) n n) ((List.range n).map Ah):=by
 have pc:n≤maxLen:=by
  rcases h.C8.2 with⟨e,_⟩|⟨_,_,_,e,_,_,h1,h2,_⟩
  ·cases e
  ·cases e;exact h2
 refine⟨_,n,by simp,by simp,pc,fun _=>⟨pg,0,rfl,h.rg.2,fun i x hx=>?_⟩⟩;rw [D8] at hx;have hi:i<n:=by
  by_cases hi:i<n
  ·exact hi
  ·rw [Dy WV] at hx;cases hx
 rw [FI hi] at hx;simp only [YS,MG] at hx;subst hx;exact⟨val i,by rw [Er];exact (h.cells hi).1,NT (h.own i hi)⟩
end
def Ku (nx:List Int) (p k:Nat):List Int:=(nx.filter (fun x=>decide (x=(p:Int)))).map (fun _=>(k:Int))
def QU (G:List AU) (k:Nat) (p:Nat):List Int:=(List.range k).flatMap fun b=>Ku (G.getD b ⟨0,0,[]⟩).nx p b
def J6 (G:List AU) (k:Nat) (l:List Int):Nat→List Int:=fun p=>QU G k p++Ku l p k
theorem aqV (G:List AU):J6 G 0 []=fun _=>[]:=by funext p;simp [J6,QU,Ku]
theorem atl (G:List AU) (k p:Nat) (l:List Int):J6 G k (l++[(p:Int)])=upd (J6 G k l) p (J6 G k l p++[(k:Int)]):=by
 funext i;unfold upd J6;by_cases h:i=p
 ·subst h
  rw [A9 rfl];simp [Ku]
 ·rw [A6 h]
  have:(p:Int)≠(i:Int):=by omega
  simp [Ku,this]
theorem r9 (G:List AU) (k:Nat) (x:AU) (h:G[k]?=some x):J6 G k x.nx=J6 G (k+1) []:=by
 funext i;unfold J6 QU;rw [JT,Qu];simp [List.getD,h,Ku]
theorem abh (G:List AU) (hn:∀x∈G,x.nx.length≤5000) (k:Nat) (hk:k≤G.length) (l:List Int) (p:Nat):(J6 G k l p).length≤5000*k+l.length:=by
 have c1:∀(nx:List Int) (b:Nat),(Ku nx p b).length≤nx.length:=fun nx b=>by
  unfold Ku;rw [FQ];exact ko _ _
 have c2:(QU G k p).length≤5000*k:=by
  unfold QU;induction k with
  | zero=>simp
  | succ k ih=>
   have:=ih A0;rw [JT,Qu,G5];have h1:=c1 (G.getD k ⟨0,0,[]⟩).nx k;have h2:(G.getD k ⟨0,0,[]⟩).nx.length≤5000:=by
    have hk':k<G.length:=by omega
    rw [show G.getD k ⟨0,0,[]⟩=G[k] by simp [List.getD,Ab hk']];exact hn _ (CQ hk')
   simp only [Jy,eB,Jz];omega
 unfold J6;rw [G5];have:=c1 l k;omega
def O0 (i:Ins):Int:=i.op*67108864+i.a*4194304+i.b*262144+i.c*16384+(if i.AD<0 then i.AD+262144 else i.AD)
theorem lK (n:Int) (h0:0≤n) (h1:n<2 ^ 32):IntKind.u32.wrap n=n:=by
 have:(2:Int) ^ 32=4294967296:=by decide
 exact IntWalk.u32_in _ A0
theorem Uo (x:Int) (h0:0≤x) (h1:x<4294967296):bits .and .u32 x 15=x % 16:=by
 have p32:x<(2:Int) ^ 32:=by rw [show (2:Int) ^ 32=4294967296 by decide];exact h1
 have:=bits_mask .u32 32 AP lK 4 AP x h0 p32;simpa using this
theorem tJ (x:Int) (h0:0≤x) (h1:x<4294967296):bits .and .u32 x 262143=x % 262144:=by
 have p32:x<(2:Int) ^ 32:=by rw [show (2:Int) ^ 32=4294967296 by decide];exact h1
 have:=bits_mask .u32 32 AP lK 18 AP x h0 p32;simpa using this
theorem aO (i:Nat) (m:Int) (hm:(2:Int) ^ i=m) (x y:Int) (h0:0≤x) (hx:x % m=0) (h1:x<4294967296) (h2:0≤y) (h3:y<m) (h4:y<4294967296):bits .or .u32 x y=x+y:=by
 exact bits_join .u32 32 AP lK i x y h0 (by rw [hm];exact hx) A0 h2 (by rw [hm];exact h3) A0
theorem fD (i:Ins) (x:Int) (h0:0≤x) (hx:x % 67108864=0) (h1:x<4294967296) (ha:0≤i.a) (ha':i.a≤15):Kt i x 65=x+i.a*4194304:=by
 have e:Kt i x 65=bits .or .u32 x (bits .and .u32 (i.a % 4294967296) 15*4194304 % 4294967296):=by
  unfold Kt letVal S8 Su;simp
 rw [e,Uo _ A0 A0,show i.a % 4294967296 % 16*4194304 % 4294967296=i.a*4194304 by omega];exact aO 26 67108864 AP x _ h0 hx h1 A0 A0 A0
theorem qP (i:Ins) (x:Int) (h0:0≤x) (hx:x % 4194304=0) (h1:x<4294967296) (ha:0≤i.b) (ha':i.b≤15):Kt i x 66=x+i.b*262144:=by
 have e:Kt i x 66=bits .or .u32 x (bits .and .u32 (i.b % 4294967296) 15*262144 % 4294967296):=by
  unfold Kt letVal S8 Su;simp
 rw [e,Uo _ A0 A0,show i.b % 4294967296 % 16*262144 % 4294967296=i.b*262144 by omega];exact aO 22 4194304 AP x _ h0 hx h1 A0 A0 A0
theorem adX (i:Ins) (x:Int) (h0:0≤x) (hx:x % 262144=0) (h1:x<4294967296) (ha:0≤i.c) (ha':i.c≤15):Kt i x 67=x+i.c*16384:=by
 have e:Kt i x 67=bits .or .u32 x (bits .and .u32 (i.c % 4294967296) 15*16384 % 4294967296):=by
  unfold Kt letVal S8 Su;simp
 rw [e,Uo _ A0 A0,show i.c % 4294967296 % 16*16384 % 4294967296=i.c*16384 by omega];exact aO 18 262144 AP x _ h0 hx h1 A0 A0 A0
theorem ie (i:Ins) (x:Int) (h0:0≤x) (hx:x % 262144=0) (h1:x<4294967296) (ha : -131072≤i.AD) (ha':i.AD≤131071):Kt i x 73=x+(if i.AD<0 then i.AD+262144 else i.AD):=by
 have e:Kt i x 73=bits .or .u32 x (bits .and .u32 (i.AD % 4294967296) 262143 % 4294967296):=by
  unfold Kt letVal S8 Su;simp
 rw [e,tJ _ A0 A0,show i.AD % 4294967296 % 262144 % 4294967296=(if i.AD<0 then i.AD+262144 else i.AD) by split<;>omega];exact aO 18 262144 AP x _ h0 hx h1 (by split<;>omega) (by split<;>omega) (by split<;>omega)
theorem abS (x:Int) (h0:0≤x) (h1:x<4294967296):rawVal x 65=x / 4194304 % 16:=by
 unfold rawVal;rw [A9 rfl,Uo _ A0 A0];exact aW _ A0
theorem yG (x:Int) (h0:0≤x) (h1:x<4294967296):rawVal x 66=x / 262144 % 16:=by
 unfold rawVal;rw [A6 AP,A9 rfl,Uo _ A0 A0];exact aW _ A0
theorem aqb (x:Int) (h0:0≤x) (h1:x<4294967296):rawVal x 67=x / 16384 % 16:=by
 unfold rawVal;rw [A6 AP,A6 AP,A9 rfl,Uo _ A0 A0];exact aW _ A0
theorem aay (x:Int) (h0:0≤x) (h1:x<4294967296):rawVal x 73=if 131072≤x % 262144 then x % 262144 - 262144 else x % 262144:=by
 unfold rawVal;rw [A6 AP,A6 AP,A6 AP,tJ _ A0 A0,aW (x % 262144) A0];split
 ·exact aW _ A0
 ·rfl
inductive Fb:Type
 | YN|abc|abi|ai|i
def Fb.ops:Fb→List UInt8
 | .YN=>[] | .abc=>[65,66,67] | .abi=>[65,66,73] | .ai=>[65,73] | .i=>[73]
def FO (k:Nat):Fb:=if k<2 then .YN else if k<14 then .abc else if k=14 then .ai else if k<22 then .abi else if k=22∨k=23 then .ai else if k=24 then .i else if k<28 then .ai else .i
def Fb.PE:Fb→Int | .YN=>0 | .abc=>15 | .abi=>15 | .ai=>15 | .i=>0
def Fb.Oz:Fb→Int | .YN=>0 | .abc=>15 | .abi=>15 | .ai=>0 | .i=>0
def Fb.Nw:Fb→Int | .YN=>0 | .abc=>15 | .abi=>0 | .ai=>0 | .i=>0
def OM (k:Nat):Int:=if k<14 then 0 else if k=16∨k=17∨26≤k then 0 else if k=25 then 1 else -131072
def PB (k:Nat):Int:=if k<14 then 0 else if k=16 then 31 else if k=17 then 16383 else if k<26 then 131071 else if k<28 then 7 else 3
theorem dN:∀k,k<30→(fm k).ops=(FO k).ops∧Ge (fm k) 0=0∧Gj (fm k) 0=(FO k).PE∧Ge (fm k) 1=0∧Gj (fm k) 1=(FO k).Oz∧Ge (fm k) 2=0∧Gj (fm k) 2=(FO k).Nw∧Ge (fm k) 3=OM k∧Gj (fm k) 3=PB k:=by decide +kernel
theorem cz:∀k,k<30→-131072≤OM k∧PB k≤131071:=by decide
theorem iw:∀k,k<30→((FO k).ops=[]∨(FO k).ops=[65,66,67])→OM k=0∧PB k=0:=by decide
structure Good (i:Ins) (k:Nat):Prop where
 op:i.op=(k:Int)
 lt:k<30
 a:0≤i.a∧i.a≤(FO k).PE
 b:0≤i.b∧i.b≤(FO k).Oz
 c:0≤i.c∧i.c≤(FO k).Nw
 AD:OM k≤i.AD∧i.AD≤PB k
theorem QJ {i:Ins} (h0:0≤i.op):CW i=true↔∃k,Good i k:=by
 constructor
 ·intro hv
  unfold CW at hv;simp only [Eh,E4] at hv;obtain⟨v0,⟨⟨v1,v2⟩,v3⟩,v4⟩:=hv;have ek:i.op=(i.op.toNat:Int):=by omega
  have hk:i.op.toNat<30:=by omega
  obtain⟨_,e1,e2,e3,e4,e5,e6,e7,e8⟩:=dN _ hk;unfold Ho at v1 v2 v3 v4;rw [e1,e2] at v1;rw [e3,e4] at v2;rw [e5,e6] at v3;rw [e7,e8] at v4;exact⟨_,ek,hk,v1,v2,v3,v4⟩
 ·rintro⟨k,h⟩
  have ho:i.op.toNat=k:=by have:=h.op;omega
  have hl:=h.lt;obtain⟨_,e1,e2,e3,e4,e5,e6,e7,e8⟩:=dN _ hl;refine rY (by have:=h.op;omega) fun j hj=>?_;rw [ho];unfold Ho;obtain rfl|rfl|rfl|rfl:j=0∨j=1∨j=2∨j=3:=by omega
  ·rw [e1,e2];exact h.a
  ·rw [e3,e4];exact h.b
  ·rw [e5,e6];exact h.c
  ·rw [e7,e8];exact h.AD
theorem Good.ae7 {i:Ins} {k:Nat} (h:Good i k):0≤O0 i∧O0 i<4294967296:=by
 have hk:=h.lt;have hi:=cz _ hk;have ha:=h.a;have hb:=h.b;have hc:=h.c;have hm:=h.AD;have hz:=iw _ hk;unfold O0;rw [h.op];cases hs:FO k<;>rw [hs] at ha hb hc hz<;>simp only [Fb.PE,Fb.Oz,Fb.Nw,Fb.ops,true_or,or_true,jh] at ha hb hc hz<;>split<;>omega
theorem Good.enc {i:Ins} {k:Nat} (h:Good i k):encI i=(O0 i,0):=by
 have hk:=h.lt;have hi:=cz _ hk;have ha:=h.a;have hb:=h.b;have hc:=h.c;have hm:=h.AD;have hz:=iw _ hk;have hop:=h.op;have ho:i.op.toNat=k:=by omega
 unfold encI;rw [A9 ((QJ A0).2 ⟨k,h⟩),ho,(dN k hk).1];congr 1
 unfold TJ O0;have e65:((65:UInt8).toNat:Int)=65:=rfl;have e66:((66:UInt8).toNat:Int)=66:=rfl;have e67:((67:UInt8).toNat:Int)=67:=rfl;have e73:((73:UInt8).toNat:Int)=73:=rfl;cases hs:FO k<;>rw [hs] at ha hb hc hz<;>simp only [Fb.PE,Fb.Oz,Fb.Nw,Fb.ops,true_or,or_true,jh,List.cons_ne_nil,false_or,SL,LP,List.foldl_nil,e65,e66,e67,e73] at ha hb hc hz ⊢
 ·split<;>omega
 ·rw [fD i _ A0 A0 A0 A0 A0,qP i _ A0 A0 A0 A0 A0,adX i _ A0 A0 A0 A0 A0]
  split<;>omega
 ·rw [fD i _ A0 A0 A0 A0 A0,qP i _ A0 A0 A0 A0 A0,ie i _ A0 A0 A0 A0 A0]
  split<;>omega
 ·rw [fD i _ A0 A0 A0 A0 A0,ie i _ A0 A0 A0 A0 A0]
  split<;>omega
 ·rw [ie i _ A0 A0 A0 A0 A0]
  split<;>omega
theorem Good.dec {i:Ins} {k:Nat} (h:Good i k):Ba (O0 i)=(i,0):=by
 have hk:=h.lt;have hi:=cz _ hk;have ha:=h.a;have hb:=h.b;have hc:=h.c;have hm:=h.AD;have hz:=iw _ hk;have hop:=h.op;have hin:=h.ae7;have hd:O0 i / 67108864=(k:Int):=by
  unfold O0;cases hs:FO k<;>rw [hs] at ha hb hc hz<;>simp only [Fb.PE,Fb.Oz,Fb.Nw,Fb.ops,true_or,or_true,jh] at ha hb hc hz<;>split<;>omega
 have hdo:MC (O0 i)=i:=by
  unfold MC Pb;rw [hd];rw [show ((k:Int)).toNat=k from rfl,(dN k hk).1];have e65:((65:UInt8).toNat:Int)=65:=rfl;have e66:((66:UInt8).toNat:Int)=66:=rfl;have e67:((67:UInt8).toNat:Int)=67:=rfl;have e73:((73:UInt8).toNat:Int)=73:=rfl;obtain⟨op,a,b,c,AD⟩:=i;simp only at hop ha hb hc hm;cases hs:FO k<;>rw [hs] at ha hb hc hz<;>simp only [Fb.PE,Fb.Oz,Fb.Nw,Fb.ops,true_or,or_true,jh,List.cons_ne_nil,false_or,SL,LP,List.foldl_nil,e65,e66,e67,e73,UO,QW,Lc,Int.reduceEq,abS _ hin.1 hin.2,yG _ hin.1 hin.2,aqb _ hin.1 hin.2,aay _ hin.1 hin.2] at ha hb hc hz ⊢;all_goals
   simp only [O0,Ins.mk.injEq];refine⟨by omega,?_,?_,?_,?_⟩;all_goals first|omega|(split<;>omega)|(split<;>split<;>omega)
 unfold Ba;rw [hdo,h.enc,A9 ⟨by omega,rfl⟩]
theorem UU {x:Int} (h0:0≤x) (h:(Ba x).2=0):∃k,Good (Ba x).1 k∧O0 (Ba x).1=x:=by
 unfold Ba at h ⊢;by_cases hc:x / 67108864<30∧encI (MC x)=(x,0)
 ·rw [A9 hc] at h ⊢
  have ho:(MC x).op=x / 67108864:=jK x _;have hv:CW (MC x)=true:=by
   have h2:=hc.2;unfold encI at h2;split at h2
   ·assumption
   ·simp at h2
  obtain⟨k,hg⟩:=(QJ (by rw [ho];omega)).1 hv;refine⟨k,hg,?_⟩;have h3:=hg.enc;rw [hc.2] at h3;simpa using h3.symm
 ·rw [A6 hc] at h
  cases h
end
end Go.Proofs.YtlmgkipmfgijiaaGreatDoor
