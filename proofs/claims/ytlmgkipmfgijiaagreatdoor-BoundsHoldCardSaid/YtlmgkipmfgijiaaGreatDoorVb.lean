/-
  What is proved here: parts bT, bCa.
-/
import Derived.Test.YtlmgkipmfgijiaaGreatDoorVa
import Derived.Test.YtlmgkipmfgijiaaGreatDoorRows
import Derived.WalkKit
import Derived.WalkSpells
import Derived.WalkLawsBesides
import Derived.Deep.QuietTactic
import Derived.BigQuiet
import Derived.Lib.Hide
import Derived.StillTail
import Derived.Deep.RegionHeld3
import Derived.Deep.RegionLaw
import Derived.Maps.AppendAt
import Derived.WideKeyEntry
import Derived.Maps.RangeRun
import Derived.Maps.Keyed
import Derived.Carry
import Derived.ProofKit
import Derived.OpenShut
import Derived.Below
import Derived.Lib.SmallJoins
import Derived.Deep.Slices
import Derived.Deep.MidRow
import Derived.Lib.Bytealg
import Derived.Lib.Strings
import Derived.MapViews
namespace Go.Proofs.YtlmgkipmfgijiaaGreatDoor
set_option linter.unusedVariables false
set_option linter.unusedSimpArgs false
set_option maxRecDepth 100000
set_option maxHeartbeats 8000000
open Go.RowKit
section
open Go.RowKit Go.MapKept Go.ChangeMaps
open Go.ChangeShapes Go.WideShapes Go.ChangeAt Go.RowKit
structure Ext (w0:World) where
 w:World
 h:Below w0.heap.size w0 w
instance (w0:World):Nonempty (Ext w0):=⟨⟨w0,AV _ _⟩⟩
theorem Ext.cell {w0:World} (x:Ext w0) (b o:Nat) (hb:b<w0.heap.size):x.w.cell? ⟨b,o,none⟩=w0.cell? ⟨b,o,none⟩:=x.h.cell (p:=⟨b,o,none⟩) hb
theorem Ext.frozen {w0:World} (x:Ext w0) (b o:Nat) (hb:b<w0.heap.size):x.w.frozen? ⟨b,o,none⟩=w0.frozen? ⟨b,o,none⟩:=x.h.frozen (p:=⟨b,o,none⟩) hb
theorem Ext.lt {w0:World} (x:Ext w0) (b:Nat) (hb:b<w0.heap.size):(b<x.w.heap.size)=True:=by have:=x.h.size;simp;omega
theorem Ext.le {w0:World} (x:Ext w0) (b:Nat) (hb:b≤w0.heap.size):(b≤x.w.heap.size)=True:=by have:=x.h.size;simp;omega
attribute [go_sem] Ext.cell Ext.frozen Ext.lt Ext.le
attribute [simp] Ext.lt Ext.le
theorem Ext.below {w0 w:World} {B:Nat} (h:Below B w0 w) (hB:B≤w.heap.size) (x:Ext w):Below B w0 x.w:=h.trans (x.h.mono hB)
theorem Calls.ext {P:Program} {f:FuncId} {args:Array Value} {w:World} {v:Value} (h:Calls P f args w fun e w'=>e=.returned v∧Below w.heap.size w w') :
  Calls P f args w fun e w'=>e=.returned v∧∃y:Ext w,y.w=w':=
 h.mono fun _ w' ⟨he,hb⟩=>⟨he,⟨w',hb⟩,rfl⟩
theorem Calls.AW {P:Program} {f:FuncId} {args:Array Value} {w0:World} {x:Ext w0} {v:Value} (h:Calls P f args x.w fun e w'=>e=.returned v∧Below x.w.heap.size x.w w') :
  Calls P f args x.w fun e w''=>e=.returned v∧∃y:Ext w0,w''=y.w:=
 h.mono fun _ w' ⟨he,hb⟩=>⟨he,⟨w',x.h.trans (hb.mono x.h.size)⟩,rfl⟩
theorem Calls.Tu {P:Program} {f:FuncId} {args:Array Value} {w0:World} {x:Ext w0} {v:Value} (h:Calls P f args x.w fun e w'=>e=.returned v∧x.w=w') :
  Calls P f args x.w fun e w''=>e=.returned v∧∃y:Ext w0,w''=y.w:=
 h.mono fun _ _ ⟨he,hb⟩=>⟨he,x,hb.symm⟩
theorem C7 {P:Program} {id:Nat} {Q:Exit→Act→World→Prop} {a:Act} {w:World} {l:List Oper} (hm:P.follows .mixedOrders=true) (hB:Region.lexB .any l.toArray=true)
  (h:wpQuiet P l.toArray (fun w'=>∃x:Ext w,w'=x.w) (fun a'=>∀w',(∃x:Ext w,w'=x.w)→Q .normal a' w') l a):(Code.region id l.toArray true).wp P Q a w:=
 wp_region_quiet (C:=fun w'=>∃x:Ext w,w'=x.w) hm hB ⟨⟨{ w with drawn:=w.drawn+1 },⟨rfl,rfl,rfl,AH _,fun _ _=>rfl⟩⟩,rfl⟩ Nv
theorem j7 {P:Program} {id:Nat} {Q:Exit→Act→World→Prop} {a:Act} {w:World} {x:Ext w} {l:List Oper} (hm:P.follows .mixedOrders=true) (hB:Region.lexB .any l.toArray=true)
  (h:wpQuiet P l.toArray (fun w'=>∃y:Ext w,w'=y.w) (fun a'=>∀w',(∃y:Ext w,w'=y.w)→Q .normal a' w') l a):(Code.region id l.toArray true).wp P Q a x.w:=
 wp_region_quiet (C:=fun w'=>∃y:Ext w,w'=y.w) hm hB ⟨⟨{ x.w with drawn:=x.w.drawn+1 },x.h.trans ⟨rfl,rfl,rfl,AH _,fun _ _=>rfl⟩⟩,rfl⟩ Nv
theorem aej {k:IntKind} {a b:Int} (h:a=b):Ending.returned (.int k a)=.returned (.int k b):=by rw [h]
theorem F8 {a b:Bool} (h:a=b):Ending.returned (.bool a)=.returned (.bool b):=by rw [h]
section
variable {P:Program} {ops:Array Oper} {md:Region.Mode} {C:World→Prop}
def RI (P:Program) (md:Region.Mode) (ops:Array Oper) (C:World→Prop) (n:Nat) (L:Array Bool→Act→Prop):Nat→Array Bool→Act→Prop
 | 0,listed,a=>L listed a
 | f+1,listed,a=>
  Region.ready md ops listed≠[]∧∀i∈Region.ready md ops listed,i<n∧qOp P ops C i (RI P md ops C n L f (listed.setIfInBounds i true)) a
theorem eu {n g:Nat} {L:Array Bool→Act→Prop} {Q':Exit→Act→World→Prop} (hL:∀listed a w,C w→L listed a→wpAny P md ops Q' g listed a w) :
  ∀(f:Nat) (listed:Array Bool) (a:Act) (w:World),C w→RI P md ops C n L f listed a→wpAny P md ops Q' (f+g) listed a w
 | 0,_,_,_,hw,h=>by rw [Er];exact hL _ _ _ hw h
 | f+1,_,_,_,hw,h=>by
  rw [show f+1+g=(f+g)+1 by omega];exact⟨fun h0=>absurd h0 h.1,fun i hi=>wpOp_of_qOp hw (fun a' w' hw' h'=>eu hL f _ a' w' hw' h') (h.2 i hi).2⟩
theorem ar7 {n i:Nat} {oi:Oper} {v:Value} {L:Array Bool→Act→Prop} (hi:ops[i]?=some oi) (hsel:∀(j:Nat) (o:Oper) cs b,ops[j]?=some o→o.op≠.select cs b)
  (hs:Region.sinkB md ops n=true) (hc:Region.chainB md ops n=true) (hn:n<ops.size) (hin:i<n)
  (hdone:∀listed a,L listed a→∀j∈Region.ready md ops listed,n≤j) :
  ∀(f:Nat) (listed:Array Bool) (a:Act),HeadInv md ops n listed→
   (∀j oj,ops[j]?=some oj→j≠i→listed.getD j true=false→(∀e∈oj.after,Region.binds md e=true→e.on≠i)→oi.apart ops oj=true)→
   i∈Region.ready md ops listed→YieldsIn P ops C oi v a→
   RI P md ops C n L f (listed.setIfInBounds i true) (a.put oi.dst v)→RI P md ops C n L (f+1) listed a:=by
 intro f;induction f with
 | zero=>
  intro listed a inv _ hr hy H;have hun:=(Te.1 hr).1;refine⟨fun h=>fP,fun j hj=>?_⟩;have hjn:j<n:=by
   rcases KP j n with h|h
   ·exact h
   ·exact absurd hj (tail_waits hs hc hn inv _ i rfl hin hun j h)
  refine⟨hjn,?_⟩;by_cases hji:j=i
  ·subst hji;exact hy.qOp hi H
  ·have:=hdone _ _ H j (YL hj hji)
   omega
 | succ f ih=>
  intro listed a inv hfree hr hy H;have hun:=(Te.1 hr).1;refine⟨fun h=>fP,fun j hj=>?_⟩;have hjn:j<n:=by
   rcases KP j n with h|h
   ·exact h
   ·exact absurd hj (tail_waits hs hc hn inv _ i rfl hin hun j h)
  refine⟨hjn,?_⟩;by_cases hji:j=i
  ·subst hji;exact hy.qOp hi H
  ·have h1:=(H.2 j (YL hj hji)).2
   obtain⟨Yy,oj,Pn,hall⟩:=Te.1 hj;have hnot:∀e∈oj.after,Region.binds md e=true→e.on≠i:=fun e he hb heq=>by
    have h1:=hall e he hb;rw [heq,getD_both hun] at h1;cases h1
   have h2:=qOp_put Pn (hfree j oj Pn hji Yy hnot) (fun cs b=>hsel i oi cs b hi) (fun cs b=>hsel j oj cs b Pn) hy h1;have eL:∀k ok,ops[k]?=some ok→k≠i→(listed.setIfInBounds j true).getD k true=false→
     (∀e∈ok.after,Region.binds md e=true→e.on≠i)→oi.apart ops ok=true:=fun k ok hk hki hun hno=>by
    refine hfree k ok hk hki ?_ hno;by_cases hjk:j=k
    ·subst hjk;exact Yy
    ·rw [U4 true hjk] at hun;exact hun
   refine qOp_mono (fun a' h3=>ih (listed.setIfInBounds j true) a' (inv.set hj hjn) eL (YL hr (ED hji)) h3.1 ?_) h2;rw [Array.setIfInBounds_comm _ _ hji];exact h3.2
theorem oq {n g:Nat} {Lq:Act→Prop} (hsel:Region.noSelect ops=true) (hs:Region.sinkB md ops n=true) (hc:Region.chainB md ops n=true) (hn:n<ops.size) :
  ∀(l:List Oper) (k:Nat) (listed:Array Bool) (a:Act),(∀j,j<l.length→l[j]?=ops[k+j]?)→k+l.length=n→HeadInv md ops n listed→
  Region.lexHead md ops g l.length k listed=true→wpQuiet P ops C Lq l a→
  RI P md ops C n (fun listed' a'=>Region.seqB md ops g n listed'=true∧Lq a') l.length listed a
 | [],k,listed,a,_,hk,_,hB,h=>by
  have:k=n:=by simpa using hk
  subst this;exact⟨by simpa [Region.lexHead] using hB,h⟩
 | o :: l,k,listed,a,hl,hk,inv,hB,h=>by
  have h0:ops[k]?=some o:=by simpa using (hl 0 AR).symm
  simp only [IQ,Region.lexHead,Eh] at hB;obtain⟨⟨hr,hf⟩,hB'⟩:=hB;have hkn:k<n:=by simp only [IQ] at hk;omega
  have hr':k∈Region.ready md ops listed:=by simpa using hr
  have hst:qOp P ops C k (wpQuiet P ops C Lq l) a:=by unfold qOp;simp only [h0];exact h
  obtain⟨v,hy,hK⟩:=yieldsIn_of_qOp h0 hst;exact ar7 h0 (Region.noSelect_spec hsel) hs hc hn hkn (fun listed' a' hL=>seqB_ready hL.1) l.length listed a inv (Region.free_spec h0 hf) hr' hy
   (oq hsel hs hc hn l (k+1) _ _ (fun j hj=>by have:=hl (j+1) CD;simpa [YT,TT 1 j] using this) (by simp only [IQ] at hk;omega) (inv.set hr' hkn) hB' hK)
theorem ux {id:Nat} {Q:Exit→Act→World→Prop} {a:Act} {w:World} {l:List Oper} (n:Nat) (hm:P.follows .mixedOrders=true) (hB:Region.lexTailB .any l.toArray n=true) (hC:C { w with drawn:=w.drawn+1 })
  (h:wpQuiet P l.toArray C (fun a'=>∀w',C w'→wpList P l.toArray Q (l.drop n) a' w') (l.take n) a):(Code.region id l.toArray true).wp P Q a w:=by
 simp only [Region.lexTailB,Eh,E4] at hB;obtain⟨⟨⟨⟨hsel,hn⟩,hs⟩,hc⟩,Za⟩:=hB;have hn':n<l.length:=by simpa using hn
 have htl:(l.take n).length=n:=by simp;omega
 have hdl:(l.drop n).length=l.toArray.size - n:=by simp
 have gR:HeadInv .any l.toArray n (Array.replicate l.toArray.size false):=
  ⟨by simp,fun j oj _ hl=>(by rw [gW] at hl;cases hl),fun t _ ht=>getD_in (by simpa using ht) (gW _ _)⟩
 have H:=oq (md:=.any) (g:=l.toArray.size - n) hsel hs hc hn (l.take n) 0 _ a (fun j hj=>by
  have hj':j<n:=by rw [htl] at hj;exact hj
  simp [hj']) (by simpa using htl) gR (by rw [htl];exact Za) h
 refine wp_region_any hm ?_;have:=eu (Q':=Q) (g:=l.toArray.size - n) (fun listed a' w' hw' hL=>by
  have hl:=wpAny_of_seq (l.drop n) n listed a' w' (fun j=>by simp) (by rw [hdl];exact hL.1) (hL.2 w' hw');rw [hdl] at hl
  exact hl) (l.take n).length _ a _ hC H
 rw [htl,show n+(l.toArray.size - n)=l.toArray.size by omega] at this;exact this
theorem YI {id:Nat} {Q:Exit→Act→World→Prop} {a:Act} {w:World} {x:Ext w} {l:List Oper} (n:Nat) (hm:P.follows .mixedOrders=true) (hB:Region.lexTailB .any l.toArray n=true)
  (h:wpQuiet P l.toArray (fun w'=>∃y:Ext w,w'=y.w) (fun a'=>∀w',(∃y:Ext w,w'=y.w)→wpList P l.toArray Q (l.drop n) a' w') (l.take n) a):(Code.region id l.toArray true).wp P Q a x.w:=
 ux (C:=fun w'=>∃y:Ext w,w'=y.w) n hm hB ⟨⟨{ x.w with drawn:=x.w.drawn+1 },x.h.trans ⟨rfl,rfl,rfl,AH _,fun _ _=>rfl⟩⟩,rfl⟩ h
theorem KA {id:Nat} {Q:Exit→Act→World→Prop} {a:Act} {w:World} {l:List Oper} (n:Nat) (hm:P.follows .mixedOrders=true) (hB:Region.lexTailB .any l.toArray n=true)
  (h:wpQuiet P l.toArray (fun w'=>∃y:Ext w,w'=y.w) (fun a'=>∀w',(∃y:Ext w,w'=y.w)→wpList P l.toArray Q (l.drop n) a' w') (l.take n) a):(Code.region id l.toArray true).wp P Q a w:=
 ux (C:=fun w'=>∃y:Ext w,w'=y.w) n hm hB ⟨⟨{ w with drawn:=w.drawn+1 },⟨rfl,rfl,rfl,AH _,fun _ _=>rfl⟩⟩,rfl⟩ h
end
section
variable {P:Program} {ops:Array Oper} {md:Region.Mode} {C:World→Prop}
def dV (md:Region.Mode) (ops:Array Oper) (n m:Nat):Bool:=
 (List.range m).all fun t=>decide (t≤n) || Region.waitsFor md ops t (t - 1)
structure RZ (md:Region.Mode) (ops:Array Oper) (n m:Nat) (listed:Array Bool):Prop where
 size:listed.size=ops.size
 closed:∀j oj,ops[j]?=some oj→listed.getD j false=true→∀e∈oj.after,Region.binds md e=true→listed.getD e.on false=true
 tail:∀t,n≤t→t<m→listed.getD t true=false
 last:∀t,m≤t→t<ops.size→listed.getD t true=true
theorem RZ.set {n m i:Nat} {listed:Array Bool} (inv:RZ md ops n m listed) (hi:i∈Region.ready md ops listed) (hin:i<n) (hnm:n<m):RZ md ops n m (listed.setIfInBounds i true):=by
 obtain⟨_,oi,hoi,hall⟩:=Te.1 hi;refine⟨by simp [inv.size],fun j oj hj hl e he hb=>?_,fun t ht ht'=>by rw [U4 true A0];exact inv.tail t ht ht',fun t ht ht'=>by rw [U4 true A0];exact inv.last t ht ht'⟩;by_cases hij:i=j
 ·subst hij
  have:oj=oi:=FZ (hj.symm.trans hoi);subst this;exact getD_set_true (hall e he hb)
 ·rw [U4 false hij] at hl
  exact getD_set_true (inv.closed j oj hj hl e he hb)
theorem oQ {n m:Nat} {listed:Array Bool} (hs:Region.sinkB md ops n=true) (hc:dV md ops n m=true) (hn:n<m) (inv:RZ md ops n m listed) :
  ∀(d i:Nat),n - i=d→i<n→listed.getD i true=false→∀t,n≤t→t∉Region.ready md ops listed:=by
 intro d;induction d using Nat.strongRecOn with
 | _ d ih=>
  intro i hd hi hun t ht hr;obtain⟨w9,ot,hot,hall⟩:=Te.1 hr;have htlt:t<ops.size:=(Bl.1 hot).1;have htm:t<m:=by
   rcases KP t m with h|h
   ·exact h
   ·rw [inv.last t h htlt] at w9;cases w9
  by_cases htn:t=n
  ·subst htn
   have h1:=Mm.1 hs i (Gp.2 hi);obtain⟨j,hj,hj2⟩:=tX.1 h1;simp only [Eh,E4] at hj2;obtain⟨oj,Pn,e,he,hb,hon⟩:=Region.waitsFor_spec hj2.2;have hjle:j≤t:=by have:=Gp.1 hj;omega
   by_cases hjt:j=t
   ·subst hjt
    have:oj=ot:=FZ (Pn.symm.trans hot);subst this;have h2:=hall e he hb;rw [hon,getD_both hun] at h2;cases h2
   ·cases hl:listed.getD j false with
    | true=>
     have h2:=inv.closed j oj Pn hl e he hb;rw [hon,getD_both hun] at h2;cases h2
    | false=>
     have UZ:j<listed.size:=by rw [inv.size];omega
     exact ih (t - j) A0 j rfl A0 (getD_in UZ hl) t (AH _) hr
  ·have h1:=Mm.1 hc t (Gp.2 htm)
   simp only [Yu,E4] at h1;rcases h1 with h1|h1
   ·omega
   ·obtain⟨o',ho',e,he,hb,hon⟩:=Region.waitsFor_spec h1
    have:o'=ot:=FZ (ho'.symm.trans hot);subst this;have h2:=hall e he hb;rw [hon,getD_both (inv.tail (t - 1) A0 A0)] at h2;cases h2
theorem anb {n m i:Nat} {oi:Oper} {v:Value} {L:Array Bool→Act→Prop} (hi:ops[i]?=some oi) (hsel:∀(j:Nat) (o:Oper) cs b,ops[j]?=some o→o.op≠.select cs b)
  (hs:Region.sinkB md ops n=true) (hc:dV md ops n m=true) (hn:n<m) (hin:i<n)
  (hdone:∀listed a,L listed a→∀j∈Region.ready md ops listed,n≤j) :
  ∀(f:Nat) (listed:Array Bool) (a:Act),RZ md ops n m listed→
   (∀j oj,ops[j]?=some oj→j≠i→listed.getD j true=false→(∀e∈oj.after,Region.binds md e=true→e.on≠i)→oi.apart ops oj=true)→
   i∈Region.ready md ops listed→YieldsIn P ops C oi v a→
   RI P md ops C n L f (listed.setIfInBounds i true) (a.put oi.dst v)→RI P md ops C n L (f+1) listed a:=by
 intro f;induction f with
 | zero=>
  intro listed a inv _ hr hy H;have hun:=(Te.1 hr).1;refine⟨fun h=>fP,fun j hj=>?_⟩;have hjn:j<n:=by
   rcases KP j n with h|h
   ·exact h
   ·exact absurd hj (oQ hs hc hn inv _ i rfl hin hun j h)
  refine⟨hjn,?_⟩;by_cases hji:j=i
  ·subst hji;exact hy.qOp hi H
  ·have:=hdone _ _ H j (YL hj hji)
   omega
 | succ f ih=>
  intro listed a inv hfree hr hy H;have hun:=(Te.1 hr).1;refine⟨fun h=>fP,fun j hj=>?_⟩;have hjn:j<n:=by
   rcases KP j n with h|h
   ·exact h
   ·exact absurd hj (oQ hs hc hn inv _ i rfl hin hun j h)
  refine⟨hjn,?_⟩;by_cases hji:j=i
  ·subst hji;exact hy.qOp hi H
  ·have h1:=(H.2 j (YL hj hji)).2
   obtain⟨Yy,oj,Pn,hall⟩:=Te.1 hj;have hnot:∀e∈oj.after,Region.binds md e=true→e.on≠i:=fun e he hb heq=>by
    have h1:=hall e he hb;rw [heq,getD_both hun] at h1;cases h1
   have h2:=qOp_put Pn (hfree j oj Pn hji Yy hnot) (fun cs b=>hsel i oi cs b hi) (fun cs b=>hsel j oj cs b Pn) hy h1;have eL:∀k ok,ops[k]?=some ok→k≠i→(listed.setIfInBounds j true).getD k true=false→
     (∀e∈ok.after,Region.binds md e=true→e.on≠i)→oi.apart ops ok=true:=fun k ok hk hki hun hno=>by
    refine hfree k ok hk hki ?_ hno;by_cases hjk:j=k
    ·subst hjk;exact Yy
    ·rw [U4 true hjk] at hun;exact hun
   refine qOp_mono (fun a' h3=>ih (listed.setIfInBounds j true) a' (inv.set hj hjn hn) eL (YL hr (ED hji)) h3.1 ?_) h2;rw [Array.setIfInBounds_comm _ _ hji];exact h3.2
theorem mP {n m g:Nat} {Lq:Act→Prop} (hsel:Region.noSelect ops=true) (hs:Region.sinkB md ops n=true) (hc:dV md ops n m=true) (hn:n<m) :
  ∀(l:List Oper) (k:Nat) (listed:Array Bool) (a:Act),(∀j,j<l.length→l[j]?=ops[k+j]?)→k+l.length=n→RZ md ops n m listed→
  Region.lexHead md ops g l.length k listed=true→wpQuiet P ops C Lq l a→
  RI P md ops C n (fun listed' a'=>Region.seqB md ops g n listed'=true∧Lq a') l.length listed a
 | [],k,listed,a,_,hk,_,hB,h=>by
  have:k=n:=by simpa using hk
  subst this;exact⟨by simpa [Region.lexHead] using hB,h⟩
 | o :: l,k,listed,a,hl,hk,inv,hB,h=>by
  have h0:ops[k]?=some o:=by simpa using (hl 0 AR).symm
  simp only [IQ,Region.lexHead,Eh] at hB;obtain⟨⟨hr,hf⟩,hB'⟩:=hB;have hkn:k<n:=by simp only [IQ] at hk;omega
  have hr':k∈Region.ready md ops listed:=by simpa using hr
  have hst:qOp P ops C k (wpQuiet P ops C Lq l) a:=by unfold qOp;simp only [h0];exact h
  obtain⟨v,hy,hK⟩:=yieldsIn_of_qOp h0 hst;exact anb h0 (Region.noSelect_spec hsel) hs hc hn hkn (fun listed' a' hL=>seqB_ready hL.1) l.length listed a inv (Region.free_spec h0 hf) hr' hy
   (mP hsel hs hc hn l (k+1) _ _ (fun j hj=>by have:=hl (j+1) CD;simpa [YT,TT 1 j] using this) (by simp only [IQ] at hk;omega) (inv.set hr' hkn hn) hB' hK)
def fH (md:Region.Mode) (ops:Array Oper) (n m:Nat):Bool:=
 Region.noSelect ops && decide (n<m) && decide (ops.size=m+1) && Region.free md ops (Array.replicate ops.size false) m && (Region.ready md ops (Array.replicate ops.size false)).contains m && (match ops[m]? with|some o=>o.after.isEmpty|none=>false) &&
 Region.sinkB md ops n && dV md ops n m && Region.lexHead md ops (m - n) n 0 ((Array.replicate ops.size false).setIfInBounds m true)
theorem sM {Q':Exit→Act→World→Prop}:∀(l:List Oper) (k:Nat) (listed:Array Bool) (a:Act) (w:World),(∀j,j<l.length→l[j]?=ops[k+j]?)→
  Region.seqB md ops l.length k listed=true→wpList P ops Q' l a w→wpAny P md ops Q' l.length listed a w
 | [],_,_,_,_,_,hB,h=>⟨by simpa [Region.seqB] using hB,h⟩
 | o :: l,k,listed,a,w,hl,hB,h=>by
  have h0:ops[k]?=some o:=by simpa using (hl 0 AR).symm
  simp only [IQ,Region.seqB,Eh,E4] at hB;refine⟨fun h1=>(by rw [hB.1] at h1;cases h1),fun i hi=>?_⟩;rw [hB.1] at hi;have hik:i=k:=by simpa using hi
  subst hik;have hw:wpOp P ops Q' i (wpList P ops Q' l) a w:=by unfold wpOp;simp only [h0];exact h
  exact wpOp_mono (fun a' w' h'=>sM l (i+1) _ a' w' (fun j hj=>by have:=hl (j+1) CD;simpa [YT,TT 1 j] using this) hB.2 h') hw
theorem alf {o:Oper} {c:Value} {a:Act} (hop:o.op=.move (.const c)) (hg:o.guard=none):Yields P ops o c a:=by
 left;refine⟨by simp [Region.wanted,hg],fun w=>?_⟩;simp [execOp,hop,go_sem,Act.eval]
theorem apY {id:Nat} {Q:Exit→Act→World→Prop} {a:Act} {w:World} {l:List Oper} (n m:Nat) (o:Oper) (c:Value) (ho:l[m]?=some o) (hop:o.op=.move (.const c)) (hg:o.guard=none) (hm:P.follows .mixedOrders=true) (hB:fH .any l.toArray n m=true) (hC:C { w with drawn:=w.drawn+1 })
  (h:wpQuiet P l.toArray C (fun a'=>∀w',C w'→wpList P l.toArray (NoPanic Q) ((l.drop n).take (m - n)) a' w') (l.take n) (a.put o.dst c)):(Code.region id l.toArray true).wp P Q a w:=by
 simp only [fH,Eh,E4] at hB;obtain⟨⟨⟨⟨⟨⟨⟨⟨hsel,hn⟩,hsz⟩,hfree⟩,pG⟩,wE⟩,hs⟩,hc⟩,Za⟩:=hB;have hl:l.length=m+1:=by simpa using hsz
 have ho':l.toArray[m]?=some o:=by simpa using ho
 rw [ho'] at wE;have hnone:o.after=#[]:=by simpa using wE
 refine Yl ?_;refine wp_region_any hm ?_;have hsz':l.toArray.size=m+1:=hsz;rw [hsz'] at hfree pG Za ⊢;refine wpAny_take ho' hsel hfree pG (fun _ _ _ h=>h) (alf hop hg) ?_;have htl:(l.take n).length=n:=by simp;omega
 have hdl:((l.drop n).take (m - n)).length=m - n:=by simp;omega
 have gR:RZ .any l.toArray n m ((Array.replicate (m+1) false).setIfInBounds m true):=by
  refine⟨by simp [hl],fun j oj hj hlj e he _=>?_,fun t ht ht'=>?_,fun t ht ht'=>?_⟩
  ·by_cases hjm:m=j
   ·subst hjm
    have:oj=o:=FZ (hj.symm.trans ho');subst this;rw [hnone] at he;simp at he
   ·rw [U4 false hjm,gW] at hlj
    cases hlj
  ·rw [U4 true A0]
   exact getD_in CD (gW _ _)
  ·have:t=m:=by rw [hsz'] at ht';omega
   subst this;simp
 have H:=mP (md:=.any) (g:=m - n) hsel hs hc hn (l.take n) 0 _ (a.put o.dst c) (fun j hj=>by
  have hj':j<n:=by rw [htl] at hj;exact hj
  simp [hj']) (by simpa using htl) gR (by rw [htl];exact Za) h
 have:=eu (Q':=NoPanic Q) (g:=m - n) (fun listed a' w' hw' hL=>by
  have hq:=sM ((l.drop n).take (m - n)) n listed a' w' (fun j hj=>by
   rw [hdl] at hj
   simp [jH,hj]) (by rw [hdl];exact hL.1) (hL.2 w' hw')
  rw [hdl] at hq
  exact hq) (l.take n).length _ _ _ hC H
 rw [htl,show n+(m - n)=m by omega] at this;exact this
theorem as5 {id:Nat} {Q:Exit→Act→World→Prop} {a:Act} {w:World} {l:List Oper} (n m:Nat) (o:Oper) (c:Value) (ho:l[m]?=some o) (hop:o.op=.move (.const c)) (hg:o.guard=none) (hm:P.follows .mixedOrders=true) (hB:fH .any l.toArray n m=true)
  (h:wpQuiet P l.toArray (fun w'=>∃y:Ext w,w'=y.w) (fun a'=>∀w',(∃y:Ext w,w'=y.w)→wpList P l.toArray (NoPanic Q) ((l.drop n).take (m - n)) a' w') (l.take n) (a.put o.dst c)):(Code.region id l.toArray true).wp P Q a w:=
 apY (C:=fun w'=>∃y:Ext w,w'=y.w) n m o c ho hop hg hm hB ⟨⟨{ w with drawn:=w.drawn+1 },⟨rfl,rfl,rfl,AH _,fun _ _=>rfl⟩⟩,rfl⟩ h
end
section
variable {P:Program} {ops:Array Oper} {md:Region.Mode} {C:World→Prop}
structure eV (md:Region.Mode) (ops:Array Oper) (k n m:Nat) (listed:Array Bool):Prop where
 base:RZ md ops n m listed
 low:∀t,t<k→t<ops.size→listed.getD t true=true
theorem eV.set {k n m i:Nat} {listed:Array Bool} (inv:eV md ops k n m listed) (hi:i∈Region.ready md ops listed) (hin:i<n) (hnm:n<m):eV md ops k n m (listed.setIfInBounds i true):=by
 refine⟨inv.base.set hi hin hnm,fun t ht ht'=>?_⟩;by_cases h:i=t
 ·subst h
  simp [inv.base.size,ht']
 ·rw [U4 true h];exact inv.low t ht ht'
end
theorem eN {P:Program} {ops:Array Oper} {o:Oper} {a:Act} {w:World} {K:Act→World→Prop} {Q:Exit→Act→World→Prop} {E:Prop} (hgd:o.guard=none) (s x:Operand) (t:TypeId)
  (ho:o.op=.call { callee:=.builtin .append,args:=#[s,x],argTypes:=#[t,t] })
  (base:Nat) (e:TypeId) (i:TypeInfo) (z:Value) (size bytes:Nat) (ht:P.underlying t=some (.slice e)) (hi:P.info? e=some i) (hz:i.zero=some z)
  (hsize:i.size=size) (hby:i.bytes=bytes) (hzs:z.cells.size=size) (hsz:0<size)
  (v:Value) (n:Nat) (xs:List Value) (hs:a.eval s=v) (hown:w.ownsRow base e size v n xs)
  (ad:Addr) (m c:Nat) (news:List Value) (hx:a.eval x=.slice (some ad) m c) (hl:news.length=m*size) (hnews:∀j u,news[j]?=some u→w.cell? (ad.add j)=some u) (h1:∀u∈news,u.oneCell'=true)
  (h63:n+m≤maxLen) (hbytes:(n+m)*bytes≤140737488355328) (hbase:base≤w.heap.size)
  (h:∀v' w',w'.ownsRow base e size v' (n+m) (xs++news)→w.grownBy w' v.ownBlock→(v'.ownBlock=v.ownBlock∨v'.ownBlock=some w.heap.size)→K (a.put o.dst v') w') :
  if Region.wanted o (yielded ops a.tmps)=true then Oper.wp P o a w K Q else E:=by
 have hw:Region.wanted o (yielded ops a.tmps)=true:=by simp [Region.wanted,hgd]
 rw [A9 hw];obtain⟨v',w',hr,h2,h3,h4,h5⟩:=run_append_own_at (P:=P) w base t o.type e i z size bytes ht hi hz hsize hby hzs hsz v n xs hown ad m c news hl hnews h1 h63 hbytes hbase;unfold Oper.wp;simp [execOp,ho,resolve,invoke,builtin,hs,hx,hr,Result.andThen];exact h v' w' h2 h3 h5
def Qv (k:Int):Prop:=(Lit.int .i64 k).wf=true
abbrev kv (k:Int):Value:=.int .i64 k
theorem JA {k:Int} (h0 : -9223372036854775808≤k) (h1:k≤9223372036854775807):Qv k:=by
 unfold Qv;have e1:IntKind.i64.min = -9223372036854775808:=by decide
 have e2:IntKind.i64.max=9223372036854775807:=by decide
 simp [Lit.wf,e1,e2,h0,h1]
structure Iq (f:Int→Option Value) (es:Array MapEntry) (clock:Nat):Prop where
 stamped:Stamped es clock
 vals:∀x∈es.toList,∃k,Qv k∧x.key=kv k∧f k=some x.val
 rest:∀k v,f k=some v→∃x∈es.toList,x.key=kv k
def Im (w:World) (b:Nat) (f:Int→Option Value):Prop:=∃es clock,w.heap[b]?=some (.map es clock)∧Iq f es clock
theorem Im.keep {w w':World} {b:Nat} {f:Int→Option Value} (h:Im w b f) (hb:w'.heap[b]?=w.heap[b]?):Im w' b f:=by
 obtain⟨es,clock,h1,h2⟩:=h;exact⟨es,clock,hb.trans h1,h2⟩
theorem Im.lt {w:World} {b:Nat} {f:Int→Option Value} (h:Im w b f):b<w.heap.size:=by
 obtain⟨es,clock,h1,h2⟩:=h;exact (Bl.1 h1).1
theorem Im.below {w w':World} {b B:Nat} {f:Int→Option Value} (h:Im w b f) (hb:Below B w w') (hB:b<B):Im w' b f:=h.keep (hb.block _ hB)
theorem Im.ext {w:World} {b:Nat} {f:Int→Option Value} (h:Im w b f) (x:Ext w):Im x.w b f:=h.below x.h h.lt
theorem Im.made (w:World):Im (w.alloc (.map #[] 0)) w.heap.size (fun _=>none):=⟨#[],0,AY _ _,⟨stamped_empty 0,by simp,by simp⟩⟩
theorem Im.wf {w:World} {b:Nat} {f:Int→Option Value} (h:Im w b f) {k:Int} {v:Value} (hk:f k=some v):Qv k:=by
 obtain⟨es,clock,h1,h2⟩:=h;obtain⟨x,hx,e⟩:=h2.rest k v hk;obtain⟨k',w',e',_⟩:=h2.vals x hx;rw [e] at e';have:k=k':=by simpa [kv] using e'
 rwa [this]
section
variable {P:Program} {kt t e:TypeId}
theorem Sr (hk:P.underlying kt=some (.int .i64)) {k:Int} (h:Qv k):keyOf P kt (kv k)=some (.int .i64 k):=Go.Maps.keyOf_int_mk hk h
theorem Iq.keys (hk:P.underlying kt=some (.int .i64)) {f:Int→Option Value} {es:Array MapEntry} {clock:Nat} (h:Iq f es clock):∀x∈es.toList,∃l,keyOf P kt x.key=some l:=by
 intro x hx;obtain⟨k,hw,e1,_⟩:=h.vals x hx;rw [e1];exact⟨_,Sr hk hw⟩
theorem Im.WH {w:World} {b:Nat} {f:Int→Option Value} (h:Im w b f) (hk:P.underlying kt=some (.int .i64)) (ht:P.underlying t=some (.map kt e)) {z:Value} (hz:(zeroValue e).run P w=.ok z w) {k:Int} (hw:Qv k) (hf:f k=none) (c:Bool) :
  (Instr.lookup t (.map (some b)) (kv k) c).run P w=.ok (if c then .tuple #[z,.bool false] else z) w:=by
 obtain⟨es,clock,hb,q⟩:=h;rcases (Zt hk).find w (Sr hk hw) es.toList (q.keys hk) with⟨h1,h2⟩|⟨j,e0,h1,h2,h3⟩
 ·simp [Instr.lookup,QB ht,gl hb,(Zt hk).check w _ (Sr hk hw),h1,hz,Result.andThen]
 ·obtain⟨k',_,e1,e2⟩:=q.vals e0 (Bj h2)
  have:k'=k:=by rw [h3] at e1;exact (by simpa [kv] using e1.symm)
  rw [this,hf] at e2;cases e2
theorem Im.Tc {w:World} {b:Nat} {f:Int→Option Value} (h:Im w b f) (hk:P.underlying kt=some (.int .i64)) (ht:P.underlying t=some (.map kt e)) {k:Int} {v:Value} (hf:f k=some v) (c:Bool) :
  (Instr.lookup t (.map (some b)) (kv k) c).run P w=.ok (if c then .tuple #[v,.bool true] else v) w:=by
 have hw:=h.wf hf;obtain⟨es,clock,hb,q⟩:=h;rcases (Zt hk).find w (Sr hk hw) es.toList (q.keys hk) with⟨h1,h2⟩|⟨j,e0,h1,h2,h3⟩
 ·obtain⟨x,hx,ex⟩:=q.rest k v hf
  exact absurd ex (h2 x hx)
 ·obtain⟨k',_,e1,e2⟩:=q.vals e0 (Bj h2)
  have:k'=k:=by rw [h3] at e1;exact (by simpa [kv] using e1.symm)
  rw [this,hf] at e2;cases e2;simp [Instr.lookup,QB ht,gl hb,(Zt hk).check w _ (Sr hk hw),h1,Result.andThen]
def Ej (f:Int→Option Value) (k:Int) (v:Value):Int→Option Value:=fun x=>if x=k then some v else f x
theorem atZ {l:List MapEntry} (h:l.Pairwise (fun x y=>x.key≠y.key)) {i j:Nat} {a c:MapEntry} (hi:l[i]?=some a) (hj:l[j]?=some c) (hne:j≠i):c.key≠a.key:=by
 obtain⟨hi',ei⟩:=Bc.1 hi;obtain⟨hj',ej⟩:=Bc.1 hj;rw [←ei,← ej];rcases Nat.lt_or_gt_of_ne hne with h1|h1
 ·exact QS.1 h j i hj' hi' h1
 ·exact fun e=>QS.1 h i j hi' hj' h1 e.symm
theorem Im.put {w:World} {b:Nat} {f:Int→Option Value} (h:Im w b f) (hk:P.underlying kt=some (.int .i64)) (ht:P.underlying t=some (.map kt e)) {k:Int} (hw:Qv k) (v:Value) :
  ∃w',(Instr.mapUpdate t (.map (some b)) (kv k) v).run P w=.ok () w'∧Im w' b (Ej f k v)∧w'.os=w.os∧w'.tape=w.tape∧w'.output=w.output∧w'.heap.size=w.heap.size∧∀i,i≠b→w'.heap[i]?=w.heap[i]?:=by
 obtain⟨es,clock,hb,q⟩:=h;obtain⟨s1,s2,s3⟩:=(stamped_iff es clock).1 q.stamped;have K:=Zt (P:=P) hk;have hkey:=Sr hk hw;rcases K.find w hkey es.toList (q.keys hk) with⟨h1,h2⟩|⟨j,e0,h1,h2,h3⟩
 ·refine⟨setBlock w b (.map (es.push ⟨kv k,v,clock⟩) (clock+1)),?_,⟨_,_,heap_setBlock_same hb _,⟨stamped_push q.stamped h2,fun x hx=>?_,fun k' v' hf'=>?_⟩⟩,rfl,rfl,rfl,by simp [setBlock],fun i hi=>heap_setBlock_other hb _ hi⟩
  ·simp [Instr.mapUpdate,QB ht,gl hb,K.check w false hkey,h1,MapKept.run_setObj_map _ hb,Result.andThen,setBlock]
  ·simp only [Array.toList_push,Ch,mm] at hx
   rcases hx with hx|rfl
   ·obtain⟨k',hk',e1,e2⟩:=q.vals x hx
    refine⟨k',hk',e1,?_⟩;unfold Ej;rw [A6 (fun e=>h2 x hx (by rw [e1,e]))];exact e2
   ·exact⟨k,hw,rfl,by simp [Ej]⟩
  ·unfold Ej at hf'
   by_cases he:k'=k
   ·exact⟨⟨kv k,v,clock⟩,by simp,by simp [he]⟩
   ·rw [A6 he] at hf'
    obtain⟨x,hx,ex⟩:=q.rest k' v' hf';exact⟨x,by simp only [Array.toList_push,Ch];exact .inl hx,ex⟩
 ·have hj:es[j]?=some e0:=by simpa using h2
  have hjl:j<es.toList.length:=(Bc.1 h2).1;have uC:(es.modify j (fun e'=>{ e' with key:=kv k,val:=v })).toList=es.toList.set j { e0 with key:=kv k,val:=v }:=by rw [Array.toList_modify,modify_eq_set _ _ _ _ h2]
  refine⟨setBlock w b (.map (es.modify j (fun e'=>{ e' with key:=kv k,val:=v })) clock),?_,⟨_,_,heap_setBlock_same hb _,⟨?_,fun x hx=>?_,fun k' v' hf'=>?_⟩⟩,rfl,rfl,rfl,by simp [setBlock],fun i hi=>heap_setBlock_other hb _ hi⟩
  ·simp [Instr.mapUpdate,QB ht,gl hb,K.check w false hkey,h1,hj,h3,K.stays w hkey,MapKept.run_setObj_map _ hb,Result.andThen,setBlock]
  ·exact stamped_modify q.stamped j _ (fun e _=>rfl) (fun e' _ he'=>by rw [hj] at he';cases he';exact h3.symm)
  ·rw [uC] at hx
   obtain⟨i,hi⟩:=LH.1 hx;rw [Gv] at hi;by_cases e:j=i
   ·rw [A9 e,A9 A0] at hi
    cases hi;exact⟨k,hw,rfl,by simp [Ej]⟩
   ·rw [A6 e] at hi
    obtain⟨k',hk',e1,e2⟩:=q.vals x (Bj hi);refine⟨k',hk',e1,?_⟩;have hne:k'≠k:=fun ee=>by
     have:=atZ s3 h2 hi (fun e'=>e e'.symm);rw [e1,ee,h3] at this;exact this rfl
    simp [Ej,hne,e2]
  ·unfold Ej at hf'
   rw [uC];by_cases he:k'=k
   ·exact⟨{ e0 with key:=kv k,val:=v },LH.2 ⟨j,by rw [Gv,A9 rfl,A9 hjl]⟩,by simp [he]⟩
   ·rw [A6 he] at hf'
    obtain⟨x,hx,ex⟩:=q.rest k' v' hf';obtain⟨i,hi⟩:=LH.1 hx;have hij:j≠i:=fun e=>by
     subst e;rw [h2] at hi;cases hi;rw [h3] at ex;exact he (by simpa [kv] using ex.symm)
    exact⟨x,LH.2 ⟨i,by rw [Gv,A6 hij];exact hi⟩,ex⟩
def Ir (w:World) (r b:Nat) (f:Int→Option Value) (left:List Int):Prop:=
 ∃es clock since seen c0,w.heap[r]?=some (.mapIter (some b) since seen c0)∧w.heap[b]?=some (.map es clock)∧Iq f es clock∧(∀x∈es.toList,x.born<since)∧since≤c0∧since≤clock∧left=(leftOf es seen).toList.map (fun x=>valOf x.key)
theorem Ir.keep {w w':World} {r b:Nat} {f:Int→Option Value} {left:List Int} (h:Ir w r b f left) (hr:w'.heap[r]?=w.heap[r]?) (hb:w'.heap[b]?=w.heap[b]?):Ir w' r b f left:=by
 obtain⟨es,clock,since,seen,c0,h1,h2,h3⟩:=h;exact⟨es,clock,since,seen,c0,hr.trans h1,hb.trans h2,h3⟩
theorem Ir.im {w:World} {r b:Nat} {f:Int→Option Value} {left:List Int} (h:Ir w r b f left):Im w b f:=by
 obtain⟨es,clock,since,seen,c0,h1,h2,h3,_⟩:=h;exact⟨es,clock,h2,h3⟩
theorem Ir.lt {w:World} {r b:Nat} {f:Int→Option Value} {left:List Int} (h:Ir w r b f left):r<w.heap.size∧b<w.heap.size∧r≠b:=by
 obtain⟨es,clock,since,seen,c0,h1,h2,h3⟩:=h;refine⟨(Bl.1 h1).1,(Bl.1 h2).1,fun e=>?_⟩;rw [e,h2] at h1;cases h1
theorem Im.range {w:World} {b:Nat} {f:Int→Option Value} (h:Im w b f) (ht:P.underlying t=some (.map kt e)) :
  ∃o left,(Instr.range t (.map (some b))).run P w=.ok (.pointer (some ⟨w.heap.size,0,none⟩)) (w.alloc o)∧Ir (w.alloc o) w.heap.size b f left∧∀k v,f k=some v→k∈left:=by
 have hlt:=h.lt;obtain⟨es,clock,hb,q⟩:=h;obtain⟨s1,s2,s3⟩:=q.stamped;refine⟨_,_,run_range_map w t kt e b es clock ht hb,⟨es,clock,clock,#[],clock,AY _ _,by rw [Bv _ _ hlt];exact hb,q,s1,AH _,AH _,rfl⟩,fun k v hf=>?_⟩;obtain⟨x,hx,ex⟩:=q.rest k v hf;refine C5.2 ⟨x,?_,by rw [ex];rfl⟩;unfold leftOf;simp;simpa using hx
theorem Ir.next {w:World} {r b:Nat} {f:Int→Option Value} {left:List Int} (h:Ir w r b f left) (ty:TypeId) :
  (left=[]∧(Instr.next (.pointer (some ⟨r,0,none⟩)) false ty).run P w=.ok (.tuple #[.bool false]) w)∨
  ∃k v left' w',k∈left∧f k=some v∧left'.length<left.length∧(∀x∈left,x=k∨x∈left')∧Ir w' r b f left'∧(Instr.next (.pointer (some ⟨r,0,none⟩)) false ty).run P w=.ok (.tuple #[.bool true,kv k,v]) w'∧(Instr.entry (.pointer (some ⟨r,0,none⟩))).run P w'=.ok (.tuple #[kv k,v]) w'∧
   w'.os=w.os∧w'.tape=w.tape∧w'.output=w.output∧w'.heap.size=w.heap.size∧∀i,i≠r→w'.heap[i]?=w.heap[i]?:=by
 have hne:=h.lt;obtain⟨es,clock,since,seen,c0,h1,h2,q,hold,hsc,hcl,rfl⟩:=h;have hnd:=q.stamped.2.1;rcases run_next_at (P:=P) w ty r b since c0 seen es clock h1 h2 hold hsc with⟨h0,hrun⟩|⟨e0,he0,w1,hw1,hrun⟩
 ·left
  refine⟨?_,hrun⟩;have:leftOf es seen=#[]:=Array.eq_empty_of_size_eq_zero h0;rw [this];rfl
 ·right
  obtain⟨m1,m2⟩:=mem_left he0;obtain⟨k,hkw,ek,ev⟩:=q.vals e0 m1;have hheap:w1.heap=w.heap:=by rcases hw1 with rfl|rfl<;>rfl
  have hr1:(setBlock w1 r (.mapIter (some b) since (seen.push e0.born) clock)).heap[r]?=some (.mapIter (some b) since (seen.push e0.born) clock):=by
   simp [setBlock,hheap,hne.1]
  have ho1:∀i,i≠r→(setBlock w1 r (.mapIter (some b) since (seen.push e0.born) clock)).heap[i]?=w.heap[i]?:=fun i hi=>by
   simp [setBlock,hheap,Array.getElem?_setIfInBounds,ED hi]
  have hb1:=(ho1 b (fun e=>hne.2.2 e.symm)).trans h2;refine⟨k,e0.val,_,_,C5.2 ⟨e0,he0,by rw [ek];rfl⟩,ev,?_,fun x hx=>?_,⟨es,clock,since,seen.push e0.born,clock,hr1,hb1,q,hold,hcl,hcl,rfl⟩,?_,?_,?_,?_,?_,?_,ho1⟩
  ·have:=left_shrinks es seen e0 he0
   simpa using this
  ·obtain⟨y,hy,rfl⟩:=C5.1 hx
   obtain⟨y1,y2⟩:=mem_left hy;by_cases DC:y.born=e0.born
   ·left
    have f1:=find_born e0 es.toList hnd m1;have f2:=find_born y es.toList hnd y1;rw [DC,f1] at f2;cases f2;rw [ek];rfl
   ·right
    refine C5.2 ⟨y,?_,rfl⟩;unfold leftOf;simp only [Array.mem_toList_iff,Array.mem_filter];refine⟨by simpa using y1,?_⟩;rw [contains_push,y2];simpa using DC
  ·rw [hrun,ek]
  ·rw [run_entry_at (P:=P) _ r b since seen es clock e0 hr1 hb1 m1 hnd,ek]
  ·rcases hw1 with rfl|rfl<;>rfl
  ·rcases hw1 with rfl|rfl<;>rfl
  ·rcases hw1 with rfl|rfl<;>rfl
  ·simp [setBlock,hheap]
end
theorem own:ownKnob Tryz.prog.godebug=none:=by kernel_rfl
theorem laidOut:laidOutB Tryz.prog=true:=by kernel_rfl
theorem aB {w:World} {a:Addr} {v:Value} (h:w.cell? a=some v):a.block<w.heap.size:=by
 rcases KP a.block w.heap.size with h'|h'
 ·exact h'
 ·unfold World.cell? at h
  rw [mW h'] at h;cases h
def Qd (w:World) (B:Nat) (v:Value) (len c:Nat) (R:Nat→List Value→Prop):Prop:=
 ∃A cap,v=.slice A len cap∧len≤cap∧cap≤maxLen∧(0<len→∃b off,A=some ⟨b,off,none⟩∧b<B∧∀i,i<len→∃cs,R i cs∧cs.length=c∧∀j,j<c→w.cell? ⟨b,off+(i*c+j),none⟩=cs[j]?)
theorem Qd.keep {w w':World} {B len c:Nat} {v:Value} {R:Nat→List Value→Prop} (h:Qd w B v len c R) (hb:Below B w w'):Qd w' B v len c R:=by
 obtain⟨A,cap,hv,h1,h2,hc⟩:=h;refine⟨A,cap,hv,h1,h2,fun h0=>?_⟩;obtain⟨b,off,ha,hlt,hx⟩:=hc h0;refine⟨b,off,ha,hlt,fun i hi=>?_⟩;obtain⟨cs,r,hl,hj⟩:=hx i hi;exact⟨cs,r,hl,fun j NN=>(hb.cell (p:=⟨b,off+(i*c+j),none⟩) hlt).trans (hj j NN)⟩
theorem Qd.mono {w:World} {B len c:Nat} {v:Value} {R R':Nat→List Value→Prop} (h:Qd w B v len c R) (hr:∀i cs,i<len→cs.length=c→R i cs→R' i cs):Qd w B v len c R':=by
 obtain⟨A,cap,hv,h1,h2,hc⟩:=h;refine⟨A,cap,hv,h1,h2,fun h0=>?_⟩;obtain⟨b,off,ha,hlt,hx⟩:=hc h0;refine⟨b,off,ha,hlt,fun i hi=>?_⟩;obtain⟨cs,r,hl,hj⟩:=hx i hi;exact⟨cs,hr i cs hi hl r,hl,hj⟩
section
variable {H:Type} {enc:TypeId×Value→H} {P:Program} {w:World} {base:Nat} {spare:Nat→Bool} {held:Bool}
theorem arI {r:Reach} {b0:Nat} {t e:TypeId} {v:Value} {d:DataW H} {p:List MemPlace} (ht:P.underlying t=some (.slice e)) (c:Nat) (hC:P.cellsOf e=c) (hc:0<c)
  (hv:Value.okWide P w r b0 t v) (h:DataW.Trod enc P w base spare held t v d p) :
  ∃len,Qd w w.heap.size v len c (fun i cs=>∃n y,DataW.trod enc P w base spare held n e cs=some y):=by
 obtain⟨A,len,cap,rfl⟩:=okWide_slice ht hv;obtain⟨fuel,hf⟩:=h;rcases Go.Deep.open_slice ht hf with⟨hcs,_⟩|⟨a,len',cap',m,n,D,Pl,hcs,_,hl,hm,hmm,_,hi⟩
 ·simp [Value.cells] at hcs
  obtain⟨rfl,rfl,rfl⟩:=hcs;exact⟨0,none,0,rfl,AH _,by unfold maxLen;omega,fun h=>absurd h A0⟩
 ·simp [Value.cells] at hcs
  obtain⟨rfl,rfl,rfl⟩:=hcs;refine⟨len,_,cap,rfl,hl,hm,fun h0=>?_⟩;have hlm:len≤m:=by rw [hmm];split<;>omega
  have cell:∀i,i<len→∃cs,(∃n y,DataW.trod enc P w base spare held n e cs=some y)∧cs.length=c∧∀j,j<c→w.cell? ((a.add (i*c)).add j)=cs[j]?:=by
   intro i hi';obtain⟨cs,hcs,htr⟩:=hi i A0;rw [hC] at hcs;obtain⟨_,hl',hat⟩:=World.cells?_some hcs;exact⟨cs,⟨n,_,htr⟩,hl',hat⟩
  have hspot:a.spot=none∧a.block<w.heap.size:=by
   obtain⟨cs,_,hl',hat⟩:=cell 0 h0;have h1:=hat 0 hc;rw [Ab A0] at h1;have e0:((a.add (0*c)).add 0)=a:=by simp [Addr.add]
   rw [e0] at h1;exact⟨World.cell?_spot h1,aB h1⟩
  obtain⟨b,off,spot⟩:=a;simp only at hspot;obtain⟨rfl,hb⟩:=hspot;refine⟨b,off,rfl,hb,fun i hi'=>?_⟩;obtain⟨cs,r,hl',hat⟩:=cell i hi';refine⟨cs,r,hl',fun j hj=>?_⟩;rw [←hat j hj];congr 1
  unfold Addr.add;split<;>split<;>simp<;>omega
theorem aqR {r:Reach} {b0:Nat} {t e:TypeId} {k:IntKind} {v:Value} {d:DataW H} {p:List MemPlace} (ht:P.underlying t=some (.slice e)) (he:P.underlying e=some (.int k)) (hC:P.cellsOf e=1)
  (hv:Value.okWide P w r b0 t v) (h:DataW.Trod enc P w base spare held t v d p) :
  ∃l:List Int,Qd w w.heap.size v l.length 1 (fun i cs=>cs=[.int k (l.getD i 0)])∧∀n∈l,(Lit.int k n).wf=true:=by
 obtain⟨len,A,cap,hv',h1,h2,hc⟩:=arI ht 1 hC A0 hv h;by_cases h0:0<len
 ·obtain⟨b,off,ha,hb,hx⟩:=hc h0
  have key:∀i,i<len→∃n,w.cell? ⟨b,off+i,none⟩=some (.int k n)∧(Lit.int k n).wf=true:=by
   intro i hi;obtain⟨cs,⟨n,y,htr⟩,_,hj⟩:=hx i hi;obtain⟨z,rfl,_,hw⟩:=Qy he htr;have:=hj 0 A0;exact⟨z,by simpa using this,hw⟩
  have key':∃f:Nat→Int,∀i,i<len→w.cell? ⟨b,off+i,none⟩=some (.int k (f i))∧(Lit.int k (f i)).wf=true:=by
   refine⟨fun i=>if h:i<len then (key i h).choose else 0,fun i hi=>?_⟩;simp only [hi,dif_pos];exact (key i hi).choose_spec
  obtain⟨f,hf⟩:=key';refine⟨(List.range len).map f,?_,fun n hn=>?_⟩
  ·rw [FQ,gm]
   refine⟨A,cap,hv',h1,h2,fun _=>⟨b,off,ha,hb,fun i hi=>⟨_,rfl,rfl,fun j hj=>?_⟩⟩⟩;obtain rfl:j=0:=by omega
   simpa [hi] using (hf i hi).1
  ·simp only [C5,Gp] at hn
   obtain⟨i,hi,rfl⟩:=hn;exact (hf i hi).2
 ·obtain rfl:len=0:=by omega
  exact⟨[],⟨A,cap,hv',h1,h2,fun h=>absurd h AR⟩,fun n hn=>by cases hn⟩
end
def EH (b:Bool):Int:=if b then 1 else 0
def wv (op x y:Int):Int:=
 if op=6 then wrap32 (x+y) else if op=7 then wrap32 (x - y) else if op=8 then wrap32 (x*y)
 else if op=9 then (if y=0 then 0 else wrap32 (x.tdiv y)) else if op=10 then (if y=0 then 0 else x.tmod y)
 else if op=11 then bits .and .i32 x y else if op=12 then bits .or .i32 x y else if op=13 then bits .xor .i32 x y
 else if op=14 then wrap32 (x*2 ^ (y % 32).toNat) else if op=15 then x / 2 ^ (y % 32).toNat
 else if op=16 then EH (x==y) else if op=17 then EH (x != y) else if op=18 then EH (decide (x<y)) else if op=19 then EH (decide (x≤y))
 else if op=20 then EH (decide (y<x)) else if op=21 then EH (decide (y≤x)) else if op=22 then EH (x != 0 && y != 0) else if op=23 then EH (x != 0 || y != 0) else 0
def we (op y:Int):Int:=if 6≤op∧op≤23 then (if (op=9∨op=10)∧y=0 then 9 else 0) else 1
def AL (x:Int):Prop:=-2147483648≤x∧x≤2147483647
theorem Mt (b:Bool) (w:World):Calls Tryz.prog 115 #[.bool b] w fun e w'=>e=.returned (.int .i32 (EH b))∧w=w':=by
 cases b;all_goals
  go_enter Tryz.func115,Tryz.ntmps115
  go_wp2
  go_ret;exact⟨rfl,rfl⟩
theorem xR (x y:Int) (w:World) (hx:AL x) (hy:AL y) :
  Calls Tryz.prog 95 #[.int .u8 6,.int .i32 x,.int .i32 y] w fun e w'=>e=.returned (.tuple #[.int .i32 (wrap32 (x+y)),.int .i64 0])∧w=w':=by
 obtain⟨hx1,hx2⟩:=hx;obtain⟨hy1,hy2⟩:=hy;go_enter Fj,Fe
 go_wp2
 go_ret2;exact⟨rfl,rfl⟩
theorem ags (x y:Int) (w:World) (hx:AL x) (hy:AL y) :
  Calls Tryz.prog 95 #[.int .u8 7,.int .i32 x,.int .i32 y] w fun e w'=>e=.returned (.tuple #[.int .i32 (wrap32 (x - y)),.int .i64 0])∧w=w':=by
 obtain⟨hx1,hx2⟩:=hx;obtain⟨hy1,hy2⟩:=hy;go_enter Fj,Fe
 go_wp2
 go_ret2;exact⟨rfl,rfl⟩
theorem apv (x y:Int) (w:World) (hx:AL x) (hy:AL y) :
  Calls Tryz.prog 95 #[.int .u8 8,.int .i32 x,.int .i32 y] w fun e w'=>e=.returned (.tuple #[.int .i32 (wrap32 (x*y)),.int .i64 0])∧w=w':=by
 obtain⟨hx1,hx2⟩:=hx;obtain⟨hy1,hy2⟩:=hy;go_enter Fj,Fe
 go_wp2
 go_ret2;exact⟨rfl,rfl⟩
theorem ag3 (x:Int) (w:World) :
  Calls Tryz.prog 95 #[.int .u8 9,.int .i32 x,.int .i32 0] w fun e w'=>e=.returned (.tuple #[.int .i32 0,.int .i64 9])∧w=w':=by
 go_enter Fj,Fe
 go_wp2
 go_ret2;exact⟨rfl,rfl⟩
theorem asF (x y:Int) (w:World) (hx:AL x) (hy:AL y) (h0:¬y=0) :
  Calls Tryz.prog 95 #[.int .u8 9,.int .i32 x,.int .i32 y] w fun e w'=>e=.returned (.tuple #[.int .i32 (wrap32 (x.tdiv y)),.int .i64 0])∧w=w':=by
 obtain⟨hx1,hx2⟩:=hx;obtain⟨hy1,hy2⟩:=hy;go_enter Fj,Fe
 go_wp2
 go_ret2;exact⟨rfl,rfl⟩
theorem arD (x:Int) (w:World) :
  Calls Tryz.prog 95 #[.int .u8 10,.int .i32 x,.int .i32 0] w fun e w'=>e=.returned (.tuple #[.int .i32 0,.int .i64 9])∧w=w':=by
 go_enter Fj,Fe
 go_wp2
 go_ret2;exact⟨rfl,rfl⟩
theorem apX (x y:Int) (w:World) (hx:AL x) (hy:AL y) (h0:¬y=0) :
  Calls Tryz.prog 95 #[.int .u8 10,.int .i32 x,.int .i32 y] w fun e w'=>e=.returned (.tuple #[.int .i32 (x.tmod y),.int .i64 0])∧w=w':=by
 obtain⟨hx1,hx2⟩:=hx;obtain⟨hy1,hy2⟩:=hy;go_enter Fj,Fe
 go_wp2
 go_ret2;exact⟨rfl,rfl⟩
theorem zH (x y:Int) (w:World) (hx:AL x) (hy:AL y) :
  Calls Tryz.prog 95 #[.int .u8 11,.int .i32 x,.int .i32 y] w fun e w'=>e=.returned (.tuple #[.int .i32 (bits .and .i32 x y),.int .i64 0])∧w=w':=by
 obtain⟨hx1,hx2⟩:=hx;obtain⟨hy1,hy2⟩:=hy;go_enter Fj,Fe
 go_wp2
 go_ret2;exact⟨rfl,rfl⟩
theorem asG (x y:Int) (w:World) (hx:AL x) (hy:AL y) :
  Calls Tryz.prog 95 #[.int .u8 12,.int .i32 x,.int .i32 y] w fun e w'=>e=.returned (.tuple #[.int .i32 (bits .or .i32 x y),.int .i64 0])∧w=w':=by
 obtain⟨hx1,hx2⟩:=hx;obtain⟨hy1,hy2⟩:=hy;go_enter Fj,Fe
 go_wp2
 go_ret2;exact⟨rfl,rfl⟩
theorem yJ (x y:Int) (w:World) (hx:AL x) (hy:AL y) :
  Calls Tryz.prog 95 #[.int .u8 13,.int .i32 x,.int .i32 y] w fun e w'=>e=.returned (.tuple #[.int .i32 (bits .xor .i32 x y),.int .i64 0])∧w=w':=by
 obtain⟨hx1,hx2⟩:=hx;obtain⟨hy1,hy2⟩:=hy;go_enter Fj,Fe
 go_wp2
 go_ret2;exact⟨rfl,rfl⟩
theorem aan (x y:Int) (w:World) (hx:AL x) (hy:AL y) :
  Calls Tryz.prog 95 #[.int .u8 14,.int .i32 x,.int .i32 y] w fun e w'=>e=.returned (.tuple #[.int .i32 (wrap32 (x*2 ^ (y % 32).toNat)),.int .i64 0])∧w=w':=by
 obtain⟨hx1,hx2⟩:=hx;obtain⟨hy1,hy2⟩:=hy;go_enter Fj,Fe
 go_wp2
 go_ret2;exact⟨rfl,rfl⟩
theorem yS (x y:Int) (w:World) (hx:AL x) (hy:AL y) :
  Calls Tryz.prog 95 #[.int .u8 15,.int .i32 x,.int .i32 y] w fun e w'=>e=.returned (.tuple #[.int .i32 (x / 2 ^ (y % 32).toNat),.int .i64 0])∧w=w':=by
 obtain⟨hx1,hx2⟩:=hx;obtain⟨hy1,hy2⟩:=hy;go_enter Fj,Fe
 go_wp2
 go_ret2;exact⟨rfl,rfl⟩
theorem yj (x y:Int) (w:World) :
  Calls Tryz.prog 95 #[.int .u8 16,.int .i32 x,.int .i32 y] w fun e w'=>e=.returned (.tuple #[.int .i32 (EH (x==y)),.int .i64 0])∧w=w':=by
 go_enter Fj,Fe;go_wp2_with fail;refine (Mt _ _).mono ?_;rintro e _ ⟨rfl,rfl⟩
 go_wp2
 go_ret2;exact⟨rfl,rfl⟩
theorem arz (x y:Int) (w:World) :
  Calls Tryz.prog 95 #[.int .u8 17,.int .i32 x,.int .i32 y] w fun e w'=>e=.returned (.tuple #[.int .i32 (EH (x != y)),.int .i64 0])∧w=w':=by
 go_enter Fj,Fe;go_wp2_with fail;refine (Mt _ _).mono ?_;rintro e _ ⟨rfl,rfl⟩
 go_wp2
 go_ret2;exact⟨rfl,rfl⟩
theorem apx (x y:Int) (w:World) :
  Calls Tryz.prog 95 #[.int .u8 18,.int .i32 x,.int .i32 y] w fun e w'=>e=.returned (.tuple #[.int .i32 (EH (decide (x<y))),.int .i64 0])∧w=w':=by
 go_enter Fj,Fe;go_wp2_with fail;refine (Mt _ _).mono ?_;rintro e _ ⟨rfl,rfl⟩
 go_wp2
 go_ret2;exact⟨rfl,rfl⟩
theorem apB (x y:Int) (w:World) :
  Calls Tryz.prog 95 #[.int .u8 19,.int .i32 x,.int .i32 y] w fun e w'=>e=.returned (.tuple #[.int .i32 (EH (decide (x≤y))),.int .i64 0])∧w=w':=by
 go_enter Fj,Fe;go_wp2_with fail;refine (Mt _ _).mono ?_;rintro e _ ⟨rfl,rfl⟩
 go_wp2
 go_ret2;exact⟨rfl,rfl⟩
theorem xD (x y:Int) (w:World) :
  Calls Tryz.prog 95 #[.int .u8 20,.int .i32 x,.int .i32 y] w fun e w'=>e=.returned (.tuple #[.int .i32 (EH (decide (y<x))),.int .i64 0])∧w=w':=by
 go_enter Fj,Fe;go_wp2_with fail;refine (Mt _ _).mono ?_;rintro e _ ⟨rfl,rfl⟩
 go_wp2
 go_ret2;exact⟨rfl,rfl⟩
theorem aqJ (x y:Int) (w:World) :
  Calls Tryz.prog 95 #[.int .u8 21,.int .i32 x,.int .i32 y] w fun e w'=>e=.returned (.tuple #[.int .i32 (EH (decide (y≤x))),.int .i64 0])∧w=w':=by
 go_enter Fj,Fe;go_wp2_with fail;refine (Mt _ _).mono ?_;rintro e _ ⟨rfl,rfl⟩
 go_wp2
 go_ret2;exact⟨rfl,rfl⟩
theorem aqU (x y:Int) (w:World) :
  Calls Tryz.prog 95 #[.int .u8 22,.int .i32 x,.int .i32 y] w fun e w'=>e=.returned (.tuple #[.int .i32 (EH (x != 0 && y != 0)),.int .i64 0])∧w=w':=by
 by_cases hx:x=0
 ·subst hx
  by_cases hy:y=0
  ·subst hy
   go_enter Fj,Fe;go_wp2_with fail;refine (Mt _ _).mono ?_;rintro e _ ⟨rfl,rfl⟩
   go_wp2
   go_ret2;exact⟨rfl,rfl⟩
  ·have hy':(y != 0)=true:=by simpa using hy
   go_enter Fj,Fe;go_wp2_with fail;refine (Mt _ _).mono ?_;rintro e _ ⟨rfl,rfl⟩
   go_wp2
   go_ret2;exact⟨by simp [hy'],rfl⟩
 ·have hx':(x != 0)=true:=by simpa using hx
  go_enter Fj,Fe;go_wp2_with fail;refine (Mt _ _).mono ?_;rintro e _ ⟨rfl,rfl⟩
  go_wp2
  go_ret2;exact⟨by simp [hx'],rfl⟩
theorem alC (x y:Int) (w:World) :
  Calls Tryz.prog 95 #[.int .u8 23,.int .i32 x,.int .i32 y] w fun e w'=>e=.returned (.tuple #[.int .i32 (EH (x != 0 || y != 0)),.int .i64 0])∧w=w':=by
 by_cases hx:x=0
 ·subst hx
  by_cases hy:y=0
  ·subst hy
   go_enter Fj,Fe;go_wp2_with fail;refine (Mt _ _).mono ?_;rintro e _ ⟨rfl,rfl⟩
   go_wp2
   go_ret2;exact⟨rfl,rfl⟩
  ·have hy':(y != 0)=true:=by simpa using hy
   go_enter Fj,Fe;go_wp2_with fail;refine (Mt _ _).mono ?_;rintro e _ ⟨rfl,rfl⟩
   go_wp2
   go_ret2;exact⟨by simp [hy'],rfl⟩
 ·have hx':(x != 0)=true:=by simpa using hx
  go_enter Fj,Fe;go_wp2_with fail;refine (Mt _ _).mono ?_;rintro e _ ⟨rfl,rfl⟩
  go_wp2
  go_ret2;exact⟨by simp [hx'],rfl⟩
theorem wW (op x y:Int) (w:World) (hop:¬(6≤op∧op≤23)) :
  Calls Tryz.prog 95 #[.int .u8 op,.int .i32 x,.int .i32 y] w fun e w'=>e=.returned (.tuple #[.int .i32 0,.int .i64 1])∧w=w':=by
 have n6:(op==6)=false:=by simp;omega
 have n7:(op==7)=false:=by simp;omega
 have n8:(op==8)=false:=by simp;omega
 have n9:(op==9)=false:=by simp;omega
 have n10:(op==10)=false:=by simp;omega
 have n11:(op==11)=false:=by simp;omega
 have n12:(op==12)=false:=by simp;omega
 have n13:(op==13)=false:=by simp;omega
 have n14:(op==14)=false:=by simp;omega
 have n15:(op==15)=false:=by simp;omega
 have n16:(op==16)=false:=by simp;omega
 have n17:(op==17)=false:=by simp;omega
 have n18:(op==18)=false:=by simp;omega
 have n19:(op==19)=false:=by simp;omega
 have n20:(op==20)=false:=by simp;omega
 have n21:(op==21)=false:=by simp;omega
 have n22:(op==22)=false:=by simp;omega
 have n23:(op==23)=false:=by simp;omega
 clear hop;go_enter Fj,Fe
 go_wp2
 go_ret2;exact⟨rfl,rfl⟩
theorem fE (op x y:Int) (w:World) (hx:AL x) (hy:AL y) :
  Calls Tryz.prog 95 #[.int .u8 op,.int .i32 x,.int .i32 y] w fun e w'=>e=.returned (.tuple #[.int .i32 (wv op x y),.int .i64 (we op y)])∧w=w':=by
 by_cases hop:6≤op∧op≤23
 ·have h:op=6∨op=7∨op=8∨op=9∨op=10∨op=11∨op=12∨op=13∨op=14∨op=15∨op=16∨op=17∨op=18∨op=19∨op=20∨op=21∨op=22∨op=23:=by omega
  rcases h with rfl|rfl|rfl|rfl|rfl|rfl|rfl|rfl|rfl|rfl|rfl|rfl|rfl|rfl|rfl|rfl|rfl|rfl
  ·exact xR x y w hx hy
  ·exact ags x y w hx hy
  ·exact apv x y w hx hy
  ·by_cases h0:y=0
   ·subst h0
    exact ag3 x w
   ·refine (asF x y w hx hy h0).mono fun e w' ⟨he,hw⟩=>⟨?_,hw⟩
    rw [he];simp [wv,we,h0]
  ·by_cases h0:y=0
   ·subst h0
    exact arD x w
   ·refine (apX x y w hx hy h0).mono fun e w' ⟨he,hw⟩=>⟨?_,hw⟩
    rw [he];simp [wv,we,h0]
  ·exact zH x y w hx hy
  ·exact asG x y w hx hy
  ·exact yJ x y w hx hy
  ·exact aan x y w hx hy
  ·exact yS x y w hx hy
  ·exact yj x y w
  ·exact arz x y w
  ·exact apx x y w
  ·exact apB x y w
  ·exact xD x y w
  ·exact aqJ x y w
  ·exact aqU x y w
  ·exact alC x y w
 ·refine (wW op x y w hop).mono fun e w' ⟨he,hw⟩=>⟨?_,hw⟩
  rw [he];have e1:wv op x y=0:=by
   unfold wv
   iterate 18 rw [A6 A0]
  have e2:we op y=1:=by unfold we;rw [A6 hop]
  rw [e1,e2]
theorem Ev {w:World} {b:Nat} {cs:List Value} {t:TypeId} {fr:Nat×Nat} (h:w.heap[b]?=some (.cells cs.toArray t fr)):w.rangeAt b 0 cs:=fun j v hv=>by
 simp [World.cell?,h,hv]
theorem Yz {P:Program} (w:World) (b o:Nat):(asAddr (.pointer (some ⟨b,o,none⟩))).run P w=.ok ⟨b,o,none⟩ w:=by simp [asAddr]
theorem results_cell_tmp {P:Program} {fn:Func} {a u:Tmp} {ty:TypeId} (h:fn.results=#[.cell a ty,.tmp u]) (tmps:Array Value) (w:World) (b:Nat) (cs:List Value) (d:TypeDesc) (ha:tmps.getD a undef=.pointer (some ⟨b,0,none⟩)) (hc:w.rangeAt b 0 cs)
  (hu:P.underlying ty=some d) (hd:d.isRow=true) (hi:(P.info? ty).map (·.size)=some cs.length):(results fn tmps).run P w=.ok (.tuple #[.agg cs.toArray,tmps.getD u undef]) w:=by
 have h1:=aP (P:=P) w b 0 ty cs d hc hu hd hi;simp only [results,h];simp only [List.mapM_toArray,jP,List.mapM_nil,ha,QH,eX,Yz,cO,h1,Sem.run_map,pure_bind,bind_pure];simp [h1,Yz]
theorem ad5 {P:Program} {fn:Func} {a:Tmp} {ty:TypeId} (h:fn.results=#[.cell a ty]) (tmps:Array Value) (w:World) (b:Nat) (cs:List Value) (d:TypeDesc) (ha:tmps.getD a undef=.pointer (some ⟨b,0,none⟩)) (hc:w.rangeAt b 0 cs)
  (hu:P.underlying ty=some d) (hd:d.isRow=true) (hi:(P.info? ty).map (·.size)=some cs.length):(results fn tmps).run P w=.ok (.agg cs.toArray) w:=by
 have h1:=aP (P:=P) w b 0 ty cs d hc hu hd hi;have ha':tmps[a]?.getD undef=.pointer (some ⟨b,0,none⟩):=by simpa using ha
 simp only [results,h];simp [ha',h1,Yz]
end
def Cg (op:Int):Bool:=decide (op=22) || decide (op=23) || decide (op=24)
theorem uy (op:Int) (w:World):Calls Tryz.prog 61 #[.int .u8 op] w fun e w'=>e=.returned (.bool (Cg op))∧w=w':=by
 go_enter Tryz.func61,Tryz.ntmps61
 go_wp2
 all_goals
  go_ret;refine⟨F8 ?_,rfl⟩;unfold Cg;first|(simp_all;done)|trivial
theorem atf (c:Int) (w:World):Calls Tryz.prog 53 #[.int .u8 c] w fun e w'=>e=.returned (.tuple #[.int .i64 (if c=65 then 22 else if c=66 then 18 else if c=67 then 14 else 0),.int .i64 (if c=65 then 4 else if c=66 then 4 else if c=67 then 4 else 18)])∧w=w':=by
 go_enter Tryz.func53,Tryz.ntmps53
 go_wp2
 all_goals
  go_ret2;refine⟨?_,rfl⟩;first|(simp_all;done)|trivial
def Pa (c:Int):Nat:=if c=65 then 1 else if c=66 then 2 else if c=67 then 3 else 4
theorem Qf (b:Nat) (c:Int) (w:World):Calls Tryz.prog 54 #[.pointer (some ⟨b,0,none⟩),.int .u8 c] w fun e w'=>e=.returned (.pointer (some ⟨b,Pa c,none⟩))∧w=w':=by
 go_enter Tryz.func54,Tryz.ntmps54
 go_wp2
 all_goals
  go_ret;refine⟨?_,rfl⟩;unfold Pa;first|(simp_all;done)|trivial
structure Ins where
 op:Int
 a:Int
 b:Int
 c:Int
 AD:Int
deriving Inhabited,DecidableEq
def Ins.val (i:Ins):Value:=.agg #[.int .u8 i.op,.int .i64 i.a,.int .i64 i.b,.int .i64 i.c,.int .i64 i.AD]
def Ins.cells (i:Ins):List Value:=[.int .u8 i.op,.int .i64 i.a,.int .i64 i.b,.int .i64 i.c,.int .i64 i.AD]
theorem Y6 (i:Ins) (at_:Int) (w:World) (h1:IntKind.i64.wrap (at_+1)=at_+1) (h2:IntKind.i64.wrap (at_+1+i.AD)=at_+1+i.AD):Calls Tryz.prog 62 #[.agg #[.int .u8 i.op,.int .i64 i.a,.int .i64 i.b,.int .i64 i.c,.int .i64 i.AD],.int .i64 at_] w fun e w'=>e=.returned (.tuple #[.int .i64 (if Cg i.op=true then at_+1+i.AD else 0),.bool (Cg i.op)])∧Below w.heap.size w w':=by
 have HI:=uy i.op;go_enter Tryz.func62,Tryz.ntmps62;rcases hb:Cg i.op;all_goals
  rw [hb] at HI;go_wp2_with (go_at_call 61;refine (HI _).mono ?_;rintro e w' ⟨rfl,rfl⟩)
 all_goals
  go_ret2;refine⟨?_,?_⟩
  ·simp_all
  exact CH
theorem amf (s:ByteArray) (c:Int) (w:World) :
  Calls Tryz.prog 109 #[.string s,.int .u8 c] w fun e w'=>e=.returned (.int .i64 (Lib.indexByte s.data.toList c.toNat.toUInt8))∧w=w':=by
 go_enter Tryz.func109,Tryz.ntmps109
 go_wp2
 rw [run_callFunc_extern Tryz.func136 A4 A4 A4 (e:=Extern.BytealgIndexByte.indexByte) A4,Lib.run_indexByteString];simp only [Result.andThen];rw [Oper.upon_value]
 go_wp2
 go_ret;exact⟨rfl,rfl⟩
theorem aT (s:ByteArray) (c:Int) (w:World) :
  Calls Tryz.prog 89 #[.string s,.int .u8 c] w fun e w'=>e=.returned (.int .i64 (Lib.indexByte s.data.toList c.toNat.toUInt8))∧w=w':=by
 go_enter Tryz.func89,Tryz.ntmps89;go_wp2_with (go_at_call 109;refine (amf _ _ _).mono ?_;rintro e w' ⟨rfl,rfl⟩);go_ret;exact⟨rfl,rfl⟩
structure Fm where
 mn:List UInt8
 ops:List UInt8
 rd:List UInt8
 wr:Bool
 lo:Int
 hi:Int
deriving Inhabited
def Fm.cells (f:Fm):List Value:=[.string ⟨f.mn.toArray⟩,.string ⟨f.ops.toArray⟩,.string ⟨f.rd.toArray⟩,.bool f.wr,.int .i64 f.lo,.int .i64 f.hi]
def Fm.data {H:Type} (f:Fm):DataW H:=.agg [.lit (.string f.mn),.lit (.string f.ops),.lit (.string f.rd),.lit (.bool f.wr),.lit (.int .i64 f.lo),.lit (.int .i64 f.hi)]
theorem arp {H:Type} {enc:TypeId×Value→H} {w:World} {base:Nat} {sp:Nat→Bool} {held:Bool} {fuel:Nat} {cs:List Value} {f:Fm} {p:List MemPlace}
  (h:DataW.trod enc Tryz.prog w base sp held fuel 131 cs=some (f.data,p)):cs=f.cells:=by
 cases fuel with
 | zero=>simp [DataW.trod] at h
 | succ fuel=>
  rw [DataW.trod_step] at h;unfold DataW.trodStep at h;simp only [Tryz.underlying131] at h;have ey:Tryz.prog.cellsOf 131=6:=by kernel_rfl
  have c9:Tryz.prog.cellsOf 9=1:=by kernel_rfl
  have c4:Tryz.prog.cellsOf 4=1:=by kernel_rfl
  have c3:Tryz.prog.cellsOf 3=1:=by kernel_rfl
  rw [ey] at h;split at h
  ·rename_i hl
   obtain⟨v0,v1,v2,v3,v4,v5,rfl⟩:∃v0 v1 v2 v3 v4 v5,cs=[v0,v1,v2,v3,v4,v5]:=by
    match cs,hl with
    | [a,b,c,d,e,g],_=>exact⟨a,b,c,d,e,g,rfl⟩
   simp only [c9,c4,c3,G0,List.drop_zero,Fp,List.take_zero,YM,jP,List.mapM_nil,Option.bind_eq_bind,Option.bind_eq_some_iff,Option.pure_def,MG] at h;obtain⟨xs,⟨y0,h0,_,⟨y1,h1,_,⟨y2,h2,_,⟨y3,h3,_,⟨y4,h4,_,⟨y5,h5,_,rfl,rfl⟩,rfl⟩,rfl⟩,rfl⟩,rfl⟩,rfl⟩,hx⟩:=h;obtain⟨s0,e0,rfl,_⟩:=jl XE h0;obtain⟨s1,e1,rfl,_⟩:=jl XE h1;obtain⟨s2,e2,rfl,_⟩:=jl XE h2;obtain⟨s3,e3,rfl⟩:=DataW.trod_bool YH h3;obtain⟨s4,e4,rfl,_⟩:=Qy Db h4;obtain⟨s5,e5,rfl,_⟩:=Qy Db h5;simp only [Y0,and_true] at e0 e1 e2 e3 e4 e5;subst e0 e1 e2 e3 e4 e5;obtain⟨f0,f1,f2,f3,f4,f5⟩:=f;obtain⟨⟨a0⟩⟩:=s0;obtain⟨⟨a1⟩⟩:=s1;obtain⟨⟨a2⟩⟩:=s2;simp [Fm.data] at hx;obtain⟨⟨rfl,rfl,rfl,rfl,rfl,rfl⟩,_⟩:=hx;rfl
  ·cases h
def QL:List Fm:=[⟨[110,111,112],[],[],false,0,0⟩,⟨[104,97,108,116],[],[],false,0,0⟩,⟨[97,100,100],[65,66,67],[66,67],true,0,0⟩,⟨[115,117,98],[65,66,67],[66,67],true,0,0⟩,⟨[109,117,108],[65,66,67],[66,67],true,0,0⟩,⟨[100,105,118],[65,66,67],[66,67],true,0,0⟩,⟨[109,111,100],[65,66,67],[66,67],true,0,0⟩,⟨[97,110,100],[65,66,67],[66,67],true,0,0⟩,⟨[111,114],[65,66,67],[66,67],true,0,0⟩,⟨[120,111,114],[65,66,67],[66,67],true,0,0⟩,⟨[115,104,108],[65,66,67],[66,67],true,0,0⟩,⟨[115,104,114],[65,66,67],[66,67],true,0,0⟩,⟨[101,113],[65,66,67],[66,67],true,0,0⟩,⟨[108,116],[65,66,67],[66,67],true,0,0⟩,⟨[108,105],[65,73],[],true,(-131072),131071⟩,⟨[97,100,100,105],[65,66,73],[66],true,(-131072),131071⟩,⟨[115,104,108,105],[65,66,73],[66],true,0,31⟩,⟨[111,114,105],[65,66,73],[66],true,0,16383⟩,⟨[108,100],[65,66,73],[66],true,(-131072),131071⟩,⟨[115,116],[65,66,73],[65,66],false,(-131072),131071⟩,⟨[108,100,115],[65,66,73],[66],true,(-131072),131071⟩,⟨[115,116,115],[65,66,73],[65,66],false,(-131072),131071⟩,⟨[98,101,113,122],[65,73],[65],false,(-131072),131071⟩,⟨[98,110,101,122],[65,73],[65],false,(-131072),131071⟩,⟨[106,109,112],[73],[],false,(-131072),131071⟩,⟨[98,111,117,110,100],[65,73],[65],false,1,131071⟩,⟨[105,110],[65,73],[],true,0,7⟩,⟨[111,117,116],[65,73],[65],false,0,7⟩,⟨[108,111,99,107],[73],[],false,0,3⟩,⟨[117,110,108,111,99,107],[73],[],false,0,3⟩]
theorem atK {H:Type}:(Rows.laid_ontime_isa_formats:DataW H)=.agg (QL.map Fm.data):=by kernel_rfl
def Q0:List Value:=QL.flatMap Fm.cells
theorem lu {α β:Type} {g:α→Option β} {L:List α} {xs:List β} (h:L.mapM g=some xs):xs.length=L.length∧∀i,i<L.length→∃a b,L[i]?=some a∧xs[i]?=some b∧g a=some b:=by
 induction L generalizing xs with
 | nil=>simp at h;subst h;exact⟨rfl,fun i hi=>by simp at hi⟩
 | cons a L ih=>
  rw [jP] at h;simp only [bind,Option.bind_eq_some_iff,pure,MG] at h;obtain⟨y,hy,ys,hys,rfl⟩:=h;obtain⟨l1,l2⟩:=ih hys;refine⟨by simp [l1],fun i hi=>?_⟩;cases i with
  | zero=>exact⟨a,y,rfl,rfl,hy⟩
  | succ i=>simpa using l2 i WV
theorem kD {α:Type} (c:Nat):∀(rows:List (List α)) (cs:List α),cs.length=rows.length*c→(∀i r,rows[i]?=some r→(cs.drop (i*c)).take c=r)→cs=rows.flatten
 | [],cs,hl,_=>by simp at hl;simp [hl]
 | r :: rows,cs,hl,h=>by
  have h0:=h 0 r rfl;simp only [Tl,List.drop_zero] at h0;have hl':cs.length=rows.length*c+c:=by rw [hl,IQ,Nat.succ_mul]
  have:=kD c rows (cs.drop c) (by rw [List.length_drop];omega) (fun i r' hr=>by
   have:=h (i+1) r' (by simpa using hr);rw [Nat.succ_mul,TT] at this
   rwa [List.drop_drop])
  rw [jx,← this,← h0,Ul]
theorem aq5 {W:World} (h:laidMet Tryz.prog [("ontime/isa.formats", Rows.laid_ontime_isa_formats)] W):W.var? Tryz.prog "ontime/isa.formats" = some Q0.toArray:=by
 obtain⟨ps,⟨g,t,cs,fuel,p,q,hg,ht,kE,hd,_,_⟩,_⟩:=h;obtain rfl:=FZ ((show Tryz.prog.globalNamed "ontime/isa.formats" = some 0 by kernel_rfl).symm.trans hg);obtain rfl:=FZ ((show (Tryz.prog.globals[0]?).map (·.type)=some 132 by kernel_rfl).symm.trans ht);rw [kE];congr 1
 obtain⟨l⟩:=cs;cases fuel with
 | zero=>simp [DataW.trod] at hd
 | succ fuel=>
  rw [DataW.trod_step] at hd;unfold DataW.trodStep at hd;have afa:Tryz.prog.cellsOf 132=180:=by kernel_rfl
  have ey:Tryz.prog.cellsOf 131=6:=by kernel_rfl
  simp only [Tryz.underlying132] at hd;rw [afa,ey] at hd;split at hd
  ·rename_i hl
   rw [atK] at hd;simp only [YM,cX,DataW.agg.injEq] at hd;obtain⟨xs,hx,e1,e2⟩:=hd;obtain⟨l1,l2⟩:=lu hx;have hrow:∀i r,(QL.map Fm.cells)[i]?=some r→(l.drop (i*6)).take 6=r:=by
    intro i r hr;rw [D8] at hr;obtain⟨f,hf,rfl⟩:=YM.mp hr;have hi:i<30:=by
     have:=(Bc.mp hf).1;exact this
    obtain⟨a,b,ha,hb,hab⟩:=l2 i WV;rw [FI hi] at ha;obtain rfl:=FZ ha;have hb':(xs.map (·.1))[i]?=some b.1:=by rw [D8,hb];rfl
    rw [e1,D8,hf] at hb';have hb2:f.data=b.1:=FZ hb';obtain⟨b1,b2⟩:=b;simp only at hb2;subst hb2;exact arp hab
   have:=kD 6 (QL.map Fm.cells) l (by rw [show (QL.map Fm.cells).length=30 from rfl];exact hl) hrow;rw [this];rfl
  ·cases hd
theorem Jt (a b:Int):a<b∨b≤a:=by omega
def fm (k:Nat):Fm:=QL.getD k default
structure CO (w:World):Prop where
 pos:0<w.heap.size
 cells:∀k,k<30→∀j v,(fm k).cells[j]?=some v→w.cell? ⟨0,k*6+j,none⟩=some v
theorem CO.below {w w':World} (h:CO w) (b:Below w.heap.size w w'):CO w':=
 ⟨by have:=b.size;have:=h.pos;omega,fun k hk j v hv=>by rw [b.cell (p:=⟨0,_,none⟩) h.pos];exact h.cells k hk j v hv⟩
def fF:List Nat:=[65,66,67,73]
def Ins.at_ (i:Ins) (k:Nat):Int:=[i.a,i.b,i.c,i.AD].getD k 0
def Ge (f:Fm) (k:Nat):Int:=if 0≤Lib.indexByte f.ops ((fF.getD k 0)).toUInt8 then (if k=3 then f.lo else 0) else 0
def Gj (f:Fm) (k:Nat):Int:=if 0≤Lib.indexByte f.ops ((fF.getD k 0)).toUInt8 then (if k=3 then f.hi else 15) else 0
def Ho (f:Fm) (i:Ins) (k:Nat):Prop:=Ge f k≤i.at_ k∧i.at_ k≤Gj f k
instance (f:Fm) (i:Ins) (k:Nat):Decidable (Ho f i k):=by unfold Ho;infer_instance
def CW (i:Ins):Bool:=decide (i.op<30) && (decide (Ho (fm i.op.toNat) i 0) && decide (Ho (fm i.op.toNat) i 1) && decide (Ho (fm i.op.toNat) i 2) && decide (Ho (fm i.op.toNat) i 3))
theorem Ja {i:Ins} {j:Nat} (hj:j<4) (h:¬Ho (fm i.op.toNat) i j):CW i=false:=by
 unfold CW;obtain rfl|rfl|rfl|rfl:j=0∨j=1∨j=2∨j=3:=by omega
 all_goals simp [h]
theorem rY {i:Ins} (ho:i.op<30) (h:∀j,j<4→Ho (fm i.op.toNat) i j):CW i=true:=by
 unfold CW;simp [ho,h 0,h 1,h 2,h 3]
structure VL (w wr:World) (i:Ins) (f:Fm):Prop where
 sz:w.heap.size+2≤wr.heap.size
 AA:Below w.heap.size w wr
 i1:wr.cell? ⟨w.heap.size,1,none⟩=some (.int .i64 i.a)
 i2:wr.cell? ⟨w.heap.size,2,none⟩=some (.int .i64 i.b)
 i3:wr.cell? ⟨w.heap.size,3,none⟩=some (.int .i64 i.c)
 i4:wr.cell? ⟨w.heap.size,4,none⟩=some (.int .i64 i.AD)
 f1:wr.cell? ⟨w.heap.size+1,1,none⟩=some (.string ⟨f.ops.toArray⟩)
 f4:wr.cell? ⟨w.heap.size+1,4,none⟩=some (.int .i64 f.lo)
 f5:wr.cell? ⟨w.heap.size+1,5,none⟩=some (.int .i64 f.hi)
theorem VL.ext {w wr:World} {i:Ins} {f:Fm} (h:VL w wr i f) (x:Ext wr):VL w x.w i f:=by
 have hs:=h.sz;have b0:w.heap.size<wr.heap.size:=by omega
 have b1:w.heap.size+1<wr.heap.size:=by omega
 exact⟨by have:=x.h.size;omega,Ext.below h.AA A0 x,by rw [x.cell _ _ b0];exact h.i1,by rw [x.cell _ _ b0];exact h.i2,by rw [x.cell _ _ b0];exact h.i3,by rw [x.cell _ _ b0];exact h.i4,by rw [x.cell _ _ b1];exact h.f1,by rw [x.cell _ _ b1];exact h.f4,by rw [x.cell _ _ b1];exact h.f5⟩
theorem xp (i:Ins) (h:¬i.op<30) (w:World) :
  Calls Tryz.prog 55 #[.agg #[.int .u8 i.op,.int .i64 i.a,.int .i64 i.b,.int .i64 i.c,.int .i64 i.AD]] w fun e w'=>e=.returned (.bool (CW i))∧Below w.heap.size w w':=by
 have d:decide (30≤i.op)=true:=by simp;omega
 have HV:=A3 (show CW i=false by unfold CW;simp [h]);go_enter Tryz.func55,Tryz.ntmps55;go_wp2_with fail;go_ret;refine⟨F8 HV.out.symm,?_⟩;exact CH
theorem ag2 (i:Ins) (k:Nat) (hop:i.op=(k:Int)) (h:k<30) (w:World) (T:CO w) :
  Calls Tryz.prog 55 #[.agg #[.int .u8 i.op,.int .i64 i.a,.int .i64 i.b,.int .i64 i.c,.int .i64 i.AD]] w fun e w'=>e=.returned (.bool (CW i))∧Below w.heap.size w w':=by
 have d:decide (30≤i.op)=false:=by simp;omega
 have hpos:=T.pos;have hT:=T.cells k h;have c0:=hT 0 _ rfl;have c1:=hT 1 _ rfl;have c2:=hT 2 _ rfl;have c3:=hT 3 _ rfl;have c4:=hT 4 _ rfl;have c5:=hT 5 _ rfl;rw [Zg] at c0;obtain⟨op,a,b,c,AD⟩:=i;simp only at hop d ⊢;subst hop;clear hT T;go_enter Tryz.func55,Tryz.ntmps55;go_wp2_with fail;go_loopw [4,5,6,7,8,16] (fun a4 a5 a6 a7 a8 q wr=>∃j:Nat,j≤4∧q=.int .i64 (j:Int)∧(∀m,m<j→Ho (fm k) ⟨(k:Int),a,b,c,AD⟩ m)∧VL w wr ⟨(k:Int),a,b,c,AD⟩ (fm k)) (fun _ _ _ _ _ q _=>4 - (intOf q).toNat);case atStart=>
  refine⟨0,by omega,rfl,fun m hm=>by omega,?_⟩;refine⟨?_,?_,?_,?_,?_,?_,?_,?_,?_⟩;all_goals first|(simp [go_sem];done)|skip
  exact ((AV _ _).alloc (AH _) _).alloc AR _
 case round=>
  obtain⟨j,hj,rfl,hok,hV⟩:=hrel;have⟨HO,CG⟩:=AQ hok hV;obtain⟨sz,AA,i1,i2,i3,i4,f1,f4,f5⟩:=hV;have b0:w.heap.size<wr.heap.size:=by omega
  have b1:w.heap.size+1<wr.heap.size:=by omega
  have HB:=A3 AA;clear hok AA d c0 c1 c2 c3 c4 c5;have z0:((({ data:=#[65,66,67,73] }:ByteArray)[0]'AP).toNat:Int)=65:=rfl;have z1:((({ data:=#[65,66,67,73] }:ByteArray)[1]'AP).toNat:Int)=66:=rfl;have z2:((({ data:=#[65,66,67,73] }:ByteArray)[2]'AP).toNat:Int)=67:=rfl;have z3:((({ data:=#[65,66,67,73] }:ByteArray)[3]'AP).toNat:Int)=73:=rfl;by_cases hlt:j<4
  ·obtain⟨X,hX⟩:=A8 (Lib.indexByte (fm k).ops ((fF.getD j 0)).toUInt8)
   obtain rfl|rfl|rfl|rfl:j=0∨j=1∨j=2∨j=3:=by omega
   ·have HI:∀w:World,Calls Tryz.prog 89 #[.string ⟨(fm k).ops.toArray⟩,.int .u8 65] w fun e w'=>e=.returned (.int .i64 X)∧w=w':=fun w=>by
     have:=aT ⟨(fm k).ops.toArray⟩ 65 w;rw [show Lib.indexByte (⟨(fm k).ops.toArray⟩:ByteArray).data.toList (65:Int).toNat.toUInt8=X from hX] at this;exact this
    have HF:∀W:World,Calls Tryz.prog 54 #[.pointer (some ⟨(w).heap.size,0,none⟩),.int .u8 65] W fun e w'=>e=.returned (.pointer (some ⟨(w).heap.size,1,none⟩))∧W=w':=fun w'=>Qf _ 65 w';by_cases hh:0≤X
    ·have dh:decide (0≤X)=true:=Ac hh
     have DZ:Ge (fm k) 0=0:=by unfold Ge;rw [hX];simp [hh]
     have DX:Gj (fm k) 0=15:=by unfold Gj;rw [hX];simp [hh]
     have hat:Ins.at_ ⟨(k:Int),a,b,c,AD⟩ 0=a:=rfl;rcases Jt a 0 with g1|g1
     ·have d1:decide (a<0)=true:=Ac g1
      have HN:=A3 (Ja (i:=⟨(k:Int),a,b,c,AD⟩) (j:=0) A0 Ua);clear DZ DX hat;go_wp2_with (first|(go_at_call 89;with_reducible refine (HI _).mono ?_;rintro e w' ⟨rfl,rfl⟩)|(go_at_call 54;with_reducible refine (HF _).mono ?_;rintro e w' ⟨rfl,rfl⟩));go_ret;exact⟨F8 HN.out.symm,CG.out.AA⟩
     ·have d1:decide (a<0)=false:=Ad A0
      rcases Jt 15 a with g2|g2
      ·have d2:decide (15<a)=true:=Ac g2
       have HN:=A3 (Ja (i:=⟨(k:Int),a,b,c,AD⟩) (j:=0) A0 UX);clear DZ DX hat;go_wp2_with (first|(go_at_call 89;with_reducible refine (HI _).mono ?_;rintro e w' ⟨rfl,rfl⟩)|(go_at_call 54;with_reducible refine (HF _).mono ?_;rintro e w' ⟨rfl,rfl⟩));go_ret;exact⟨F8 HN.out.symm,CG.out.AA⟩
      ·have d2:decide (15<a)=false:=Ad A0
       have HY:=A3 (show Ho (fm k) ⟨(k:Int),a,b,c,AD⟩ 0 from⟨by rw [DZ,hat];omega,by rw [DX,hat];omega⟩);clear DZ DX hat;go_wp2_with (first|(go_at_call 89;with_reducible refine (HI _).mono ?_;rintro e w' ⟨rfl,rfl⟩)|(go_at_call 54;with_reducible refine (HF _).mono ?_;rintro e w' ⟨rfl,rfl⟩));go_roundw;case rel=>exact⟨0+1,by omega,by go_num,fun m hm=>by
        rcases KP m 0 with q|q
        ·exact HO.out m q
        ·obtain rfl:m=0:=by omega
         exact HY.out,CG.out⟩
       case measure=>simp [intOf]
    ·have dh:decide (0≤X)=false:=Ad hh
     have DZ:Ge (fm k) 0=0:=by unfold Ge;rw [hX];simp [hh]
     have DX:Gj (fm k) 0=0:=by unfold Gj;rw [hX];simp [hh]
     have hat:Ins.at_ ⟨(k:Int),a,b,c,AD⟩ 0=a:=rfl;rcases Jt a 0 with g1|g1
     ·have d1:decide (a<0)=true:=Ac g1
      have HN:=A3 (Ja (i:=⟨(k:Int),a,b,c,AD⟩) (j:=0) A0 Ua);clear DZ DX hat;go_wp2_with (first|(go_at_call 89;with_reducible refine (HI _).mono ?_;rintro e w' ⟨rfl,rfl⟩)|(go_at_call 54;with_reducible refine (HF _).mono ?_;rintro e w' ⟨rfl,rfl⟩));go_ret;exact⟨F8 HN.out.symm,CG.out.AA⟩
     ·have d1:decide (a<0)=false:=Ad A0
      rcases Jt 0 a with g2|g2
      ·have d2:decide (0<a)=true:=Ac g2
       have HN:=A3 (Ja (i:=⟨(k:Int),a,b,c,AD⟩) (j:=0) A0 UX);clear DZ DX hat;go_wp2_with (first|(go_at_call 89;with_reducible refine (HI _).mono ?_;rintro e w' ⟨rfl,rfl⟩)|(go_at_call 54;with_reducible refine (HF _).mono ?_;rintro e w' ⟨rfl,rfl⟩));go_ret;exact⟨F8 HN.out.symm,CG.out.AA⟩
      ·have d2:decide (0<a)=false:=Ad A0
       have HY:=A3 (show Ho (fm k) ⟨(k:Int),a,b,c,AD⟩ 0 from⟨by rw [DZ,hat];omega,by rw [DX,hat];omega⟩);clear DZ DX hat;go_wp2_with (first|(go_at_call 89;with_reducible refine (HI _).mono ?_;rintro e w' ⟨rfl,rfl⟩)|(go_at_call 54;with_reducible refine (HF _).mono ?_;rintro e w' ⟨rfl,rfl⟩));go_roundw;case rel=>exact⟨0+1,by omega,by go_num,fun m hm=>by
        rcases KP m 0 with q|q
        ·exact HO.out m q
        ·obtain rfl:m=0:=by omega
         exact HY.out,CG.out⟩
       case measure=>simp [intOf]
   ·have HI:∀w:World,Calls Tryz.prog 89 #[.string ⟨(fm k).ops.toArray⟩,.int .u8 66] w fun e w'=>e=.returned (.int .i64 X)∧w=w':=fun w=>by
     have:=aT ⟨(fm k).ops.toArray⟩ 66 w;rw [show Lib.indexByte (⟨(fm k).ops.toArray⟩:ByteArray).data.toList (66:Int).toNat.toUInt8=X from hX] at this;exact this
    have HF:∀W:World,Calls Tryz.prog 54 #[.pointer (some ⟨(w).heap.size,0,none⟩),.int .u8 66] W fun e w'=>e=.returned (.pointer (some ⟨(w).heap.size,2,none⟩))∧W=w':=fun w'=>Qf _ 66 w';by_cases hh:0≤X
    ·have dh:decide (0≤X)=true:=Ac hh
     have DZ:Ge (fm k) 1=0:=by unfold Ge;rw [hX];simp [hh]
     have DX:Gj (fm k) 1=15:=by unfold Gj;rw [hX];simp [hh]
     have hat:Ins.at_ ⟨(k:Int),a,b,c,AD⟩ 1=b:=rfl;rcases Jt b 0 with g1|g1
     ·have d1:decide (b<0)=true:=Ac g1
      have HN:=A3 (Ja (i:=⟨(k:Int),a,b,c,AD⟩) (j:=1) A0 Ua);clear DZ DX hat;go_wp2_with (first|(go_at_call 89;with_reducible refine (HI _).mono ?_;rintro e w' ⟨rfl,rfl⟩)|(go_at_call 54;with_reducible refine (HF _).mono ?_;rintro e w' ⟨rfl,rfl⟩));go_ret;exact⟨F8 HN.out.symm,CG.out.AA⟩
     ·have d1:decide (b<0)=false:=Ad A0
      rcases Jt 15 b with g2|g2
      ·have d2:decide (15<b)=true:=Ac g2
       have HN:=A3 (Ja (i:=⟨(k:Int),a,b,c,AD⟩) (j:=1) A0 UX);clear DZ DX hat;go_wp2_with (first|(go_at_call 89;with_reducible refine (HI _).mono ?_;rintro e w' ⟨rfl,rfl⟩)|(go_at_call 54;with_reducible refine (HF _).mono ?_;rintro e w' ⟨rfl,rfl⟩));go_ret;exact⟨F8 HN.out.symm,CG.out.AA⟩
      ·have d2:decide (15<b)=false:=Ad A0
       have HY:=A3 (show Ho (fm k) ⟨(k:Int),a,b,c,AD⟩ 1 from⟨by rw [DZ,hat];omega,by rw [DX,hat];omega⟩);clear DZ DX hat;go_wp2_with (first|(go_at_call 89;with_reducible refine (HI _).mono ?_;rintro e w' ⟨rfl,rfl⟩)|(go_at_call 54;with_reducible refine (HF _).mono ?_;rintro e w' ⟨rfl,rfl⟩));go_roundw;case rel=>exact⟨1+1,by omega,by go_num,fun m hm=>by
        rcases KP m 1 with q|q
        ·exact HO.out m q
        ·obtain rfl:m=1:=by omega
         exact HY.out,CG.out⟩
       case measure=>simp [intOf]
    ·have dh:decide (0≤X)=false:=Ad hh
     have DZ:Ge (fm k) 1=0:=by unfold Ge;rw [hX];simp [hh]
     have DX:Gj (fm k) 1=0:=by unfold Gj;rw [hX];simp [hh]
     have hat:Ins.at_ ⟨(k:Int),a,b,c,AD⟩ 1=b:=rfl;rcases Jt b 0 with g1|g1
     ·have d1:decide (b<0)=true:=Ac g1
      have HN:=A3 (Ja (i:=⟨(k:Int),a,b,c,AD⟩) (j:=1) A0 Ua);clear DZ DX hat;go_wp2_with (first|(go_at_call 89;with_reducible refine (HI _).mono ?_;rintro e w' ⟨rfl,rfl⟩)|(go_at_call 54;with_reducible refine (HF _).mono ?_;rintro e w' ⟨rfl,rfl⟩));go_ret;exact⟨F8 HN.out.symm,CG.out.AA⟩
     ·have d1:decide (b<0)=false:=Ad A0
      rcases Jt 0 b with g2|g2
      ·have d2:decide (0<b)=true:=Ac g2
       have HN:=A3 (Ja (i:=⟨(k:Int),a,b,c,AD⟩) (j:=1) A0 UX);clear DZ DX hat;go_wp2_with (first|(go_at_call 89;with_reducible refine (HI _).mono ?_;rintro e w' ⟨rfl,rfl⟩)|(go_at_call 54;with_reducible refine (HF _).mono ?_;rintro e w' ⟨rfl,rfl⟩));go_ret;exact⟨F8 HN.out.symm,CG.out.AA⟩
      ·have d2:decide (0<b)=false:=Ad A0
       have HY:=A3 (show Ho (fm k) ⟨(k:Int),a,b,c,AD⟩ 1 from⟨by rw [DZ,hat];omega,by rw [DX,hat];omega⟩);clear DZ DX hat;go_wp2_with (first|(go_at_call 89;with_reducible refine (HI _).mono ?_;rintro e w' ⟨rfl,rfl⟩)|(go_at_call 54;with_reducible refine (HF _).mono ?_;rintro e w' ⟨rfl,rfl⟩));go_roundw;case rel=>exact⟨1+1,by omega,by go_num,fun m hm=>by
        rcases KP m 1 with q|q
        ·exact HO.out m q
        ·obtain rfl:m=1:=by omega
         exact HY.out,CG.out⟩
       case measure=>simp [intOf]
   ·have HI:∀w:World,Calls Tryz.prog 89 #[.string ⟨(fm k).ops.toArray⟩,.int .u8 67] w fun e w'=>e=.returned (.int .i64 X)∧w=w':=fun w=>by
     have:=aT ⟨(fm k).ops.toArray⟩ 67 w;rw [show Lib.indexByte (⟨(fm k).ops.toArray⟩:ByteArray).data.toList (67:Int).toNat.toUInt8=X from hX] at this;exact this
    have HF:∀W:World,Calls Tryz.prog 54 #[.pointer (some ⟨(w).heap.size,0,none⟩),.int .u8 67] W fun e w'=>e=.returned (.pointer (some ⟨(w).heap.size,3,none⟩))∧W=w':=fun w'=>Qf _ 67 w';by_cases hh:0≤X
    ·have dh:decide (0≤X)=true:=Ac hh
     have DZ:Ge (fm k) 2=0:=by unfold Ge;rw [hX];simp [hh]
     have DX:Gj (fm k) 2=15:=by unfold Gj;rw [hX];simp [hh]
     have hat:Ins.at_ ⟨(k:Int),a,b,c,AD⟩ 2=c:=rfl;rcases Jt c 0 with g1|g1
     ·have d1:decide (c<0)=true:=Ac g1
      have HN:=A3 (Ja (i:=⟨(k:Int),a,b,c,AD⟩) (j:=2) A0 Ua);clear DZ DX hat;go_wp2_with (first|(go_at_call 89;with_reducible refine (HI _).mono ?_;rintro e w' ⟨rfl,rfl⟩)|(go_at_call 54;with_reducible refine (HF _).mono ?_;rintro e w' ⟨rfl,rfl⟩));go_ret;exact⟨F8 HN.out.symm,CG.out.AA⟩
     ·have d1:decide (c<0)=false:=Ad A0
      rcases Jt 15 c with g2|g2
      ·have d2:decide (15<c)=true:=Ac g2
       have HN:=A3 (Ja (i:=⟨(k:Int),a,b,c,AD⟩) (j:=2) A0 UX);clear DZ DX hat;go_wp2_with (first|(go_at_call 89;with_reducible refine (HI _).mono ?_;rintro e w' ⟨rfl,rfl⟩)|(go_at_call 54;with_reducible refine (HF _).mono ?_;rintro e w' ⟨rfl,rfl⟩));go_ret;exact⟨F8 HN.out.symm,CG.out.AA⟩
      ·have d2:decide (15<c)=false:=Ad A0
       have HY:=A3 (show Ho (fm k) ⟨(k:Int),a,b,c,AD⟩ 2 from⟨by rw [DZ,hat];omega,by rw [DX,hat];omega⟩);clear DZ DX hat;go_wp2_with (first|(go_at_call 89;with_reducible refine (HI _).mono ?_;rintro e w' ⟨rfl,rfl⟩)|(go_at_call 54;with_reducible refine (HF _).mono ?_;rintro e w' ⟨rfl,rfl⟩));go_roundw;case rel=>exact⟨2+1,by omega,by go_num,fun m hm=>by
        rcases KP m 2 with q|q
        ·exact HO.out m q
        ·obtain rfl:m=2:=by omega
         exact HY.out,CG.out⟩
       case measure=>simp [intOf]
    ·have dh:decide (0≤X)=false:=Ad hh
     have DZ:Ge (fm k) 2=0:=by unfold Ge;rw [hX];simp [hh]
     have DX:Gj (fm k) 2=0:=by unfold Gj;rw [hX];simp [hh]
     have hat:Ins.at_ ⟨(k:Int),a,b,c,AD⟩ 2=c:=rfl;rcases Jt c 0 with g1|g1
     ·have d1:decide (c<0)=true:=Ac g1
      have HN:=A3 (Ja (i:=⟨(k:Int),a,b,c,AD⟩) (j:=2) A0 Ua);clear DZ DX hat;go_wp2_with (first|(go_at_call 89;with_reducible refine (HI _).mono ?_;rintro e w' ⟨rfl,rfl⟩)|(go_at_call 54;with_reducible refine (HF _).mono ?_;rintro e w' ⟨rfl,rfl⟩));go_ret;exact⟨F8 HN.out.symm,CG.out.AA⟩
     ·have d1:decide (c<0)=false:=Ad A0
      rcases Jt 0 c with g2|g2
      ·have d2:decide (0<c)=true:=Ac g2
       have HN:=A3 (Ja (i:=⟨(k:Int),a,b,c,AD⟩) (j:=2) A0 UX);clear DZ DX hat;go_wp2_with (first|(go_at_call 89;with_reducible refine (HI _).mono ?_;rintro e w' ⟨rfl,rfl⟩)|(go_at_call 54;with_reducible refine (HF _).mono ?_;rintro e w' ⟨rfl,rfl⟩));go_ret;exact⟨F8 HN.out.symm,CG.out.AA⟩
      ·have d2:decide (0<c)=false:=Ad A0
       have HY:=A3 (show Ho (fm k) ⟨(k:Int),a,b,c,AD⟩ 2 from⟨by rw [DZ,hat];omega,by rw [DX,hat];omega⟩);clear DZ DX hat;go_wp2_with (first|(go_at_call 89;with_reducible refine (HI _).mono ?_;rintro e w' ⟨rfl,rfl⟩)|(go_at_call 54;with_reducible refine (HF _).mono ?_;rintro e w' ⟨rfl,rfl⟩));go_roundw;case rel=>exact⟨2+1,by omega,by go_num,fun m hm=>by
        rcases KP m 2 with q|q
        ·exact HO.out m q
        ·obtain rfl:m=2:=by omega
         exact HY.out,CG.out⟩
       case measure=>simp [intOf]
   ·have HI:∀w:World,Calls Tryz.prog 89 #[.string ⟨(fm k).ops.toArray⟩,.int .u8 73] w fun e w'=>e=.returned (.int .i64 X)∧w=w':=fun w=>by
     have:=aT ⟨(fm k).ops.toArray⟩ 73 w;rw [show Lib.indexByte (⟨(fm k).ops.toArray⟩:ByteArray).data.toList (73:Int).toNat.toUInt8=X from hX] at this;exact this
    have HF:∀W:World,Calls Tryz.prog 54 #[.pointer (some ⟨(w).heap.size,0,none⟩),.int .u8 73] W fun e w'=>e=.returned (.pointer (some ⟨(w).heap.size,4,none⟩))∧W=w':=fun w'=>Qf _ 73 w';by_cases hh:0≤X
    ·have dh:decide (0≤X)=true:=Ac hh
     have DZ:Ge (fm k) 3=(fm k).lo:=by unfold Ge;rw [hX];simp [hh]
     have DX:Gj (fm k) 3=(fm k).hi:=by unfold Gj;rw [hX];simp [hh]
     have hat:Ins.at_ ⟨(k:Int),a,b,c,AD⟩ 3=AD:=rfl;rcases Jt AD (fm k).lo with g1|g1
     ·have d1:decide (AD<(fm k).lo)=true:=Ac g1
      have HN:=A3 (Ja (i:=⟨(k:Int),a,b,c,AD⟩) (j:=3) A0 Ua);clear DZ DX hat;go_wp2_with (first|(go_at_call 89;with_reducible refine (HI _).mono ?_;rintro e w' ⟨rfl,rfl⟩)|(go_at_call 54;with_reducible refine (HF _).mono ?_;rintro e w' ⟨rfl,rfl⟩));refine C7 A4 A4 ?_;repeat (go_big_quiet_step (fail))
      refine BD ?_;rintro _ ⟨y,rfl⟩;go_wp2_with (go_at_call 54;with_reducible refine (HF _).mono ?_;rintro e w' ⟨rfl,rfl⟩);go_ret;exact⟨F8 HN.out.symm,(CG.out.ext y).AA⟩
     ·have d1:decide (AD<(fm k).lo)=false:=Ad A0
      rcases Jt (fm k).hi AD with g2|g2
      ·have d2:decide ((fm k).hi<AD)=true:=Ac g2
       have HN:=A3 (Ja (i:=⟨(k:Int),a,b,c,AD⟩) (j:=3) A0 UX);clear DZ DX hat;go_wp2_with (first|(go_at_call 89;with_reducible refine (HI _).mono ?_;rintro e w' ⟨rfl,rfl⟩)|(go_at_call 54;with_reducible refine (HF _).mono ?_;rintro e w' ⟨rfl,rfl⟩));refine C7 A4 A4 ?_;repeat (go_big_quiet_step (fail))
       refine BD ?_;rintro _ ⟨y,rfl⟩;go_wp2_with (go_at_call 54;with_reducible refine (HF _).mono ?_;rintro e w' ⟨rfl,rfl⟩);go_ret;exact⟨F8 HN.out.symm,(CG.out.ext y).AA⟩
      ·have d2:decide ((fm k).hi<AD)=false:=Ad A0
       have HY:=A3 (show Ho (fm k) ⟨(k:Int),a,b,c,AD⟩ 3 from⟨by rw [DZ,hat];omega,by rw [DX,hat];omega⟩);clear DZ DX hat;go_wp2_with (first|(go_at_call 89;with_reducible refine (HI _).mono ?_;rintro e w' ⟨rfl,rfl⟩)|(go_at_call 54;with_reducible refine (HF _).mono ?_;rintro e w' ⟨rfl,rfl⟩));refine C7 A4 A4 ?_;repeat (go_big_quiet_step (fail))
       refine BD ?_;rintro _ ⟨y,rfl⟩;go_wp2_with (go_at_call 54;with_reducible refine (HF _).mono ?_;rintro e w' ⟨rfl,rfl⟩);go_roundw;case rel=>exact⟨3+1,by omega,by go_num,fun m hm=>by
        rcases KP m 3 with q|q
        ·exact HO.out m q
        ·obtain rfl:m=3:=by omega
         exact HY.out,CG.out.ext y⟩
       case measure=>simp [intOf]
    ·have dh:decide (0≤X)=false:=Ad hh
     have DZ:Ge (fm k) 3=0:=by unfold Ge;rw [hX];simp [hh]
     have DX:Gj (fm k) 3=0:=by unfold Gj;rw [hX];simp [hh]
     have hat:Ins.at_ ⟨(k:Int),a,b,c,AD⟩ 3=AD:=rfl;rcases Jt AD 0 with g1|g1
     ·have d1:decide (AD<0)=true:=Ac g1
      have HN:=A3 (Ja (i:=⟨(k:Int),a,b,c,AD⟩) (j:=3) A0 Ua);clear DZ DX hat;go_wp2_with (first|(go_at_call 89;with_reducible refine (HI _).mono ?_;rintro e w' ⟨rfl,rfl⟩)|(go_at_call 54;with_reducible refine (HF _).mono ?_;rintro e w' ⟨rfl,rfl⟩));go_ret;exact⟨F8 HN.out.symm,CG.out.AA⟩
     ·have d1:decide (AD<0)=false:=Ad A0
      rcases Jt 0 AD with g2|g2
      ·have d2:decide (0<AD)=true:=Ac g2
       have HN:=A3 (Ja (i:=⟨(k:Int),a,b,c,AD⟩) (j:=3) A0 UX);clear DZ DX hat;go_wp2_with (first|(go_at_call 89;with_reducible refine (HI _).mono ?_;rintro e w' ⟨rfl,rfl⟩)|(go_at_call 54;with_reducible refine (HF _).mono ?_;rintro e w' ⟨rfl,rfl⟩));go_ret;exact⟨F8 HN.out.symm,CG.out.AA⟩
      ·have d2:decide (0<AD)=false:=Ad A0
       have HY:=A3 (show Ho (fm k) ⟨(k:Int),a,b,c,AD⟩ 3 from⟨by rw [DZ,hat];omega,by rw [DX,hat];omega⟩);clear DZ DX hat;go_wp2_with (first|(go_at_call 89;with_reducible refine (HI _).mono ?_;rintro e w' ⟨rfl,rfl⟩)|(go_at_call 54;with_reducible refine (HF _).mono ?_;rintro e w' ⟨rfl,rfl⟩));go_roundw;case rel=>exact⟨3+1,by omega,by go_num,fun m hm=>by
        rcases KP m 3 with q|q
        ·exact HO.out m q
        ·obtain rfl:m=3:=by omega
         exact HY.out,CG.out⟩
       case measure=>simp [intOf]
  ·obtain rfl:j=4:=by omega
   go_wp2_with fail;go_ret;exact⟨F8 (rY CD (by simpa using HO.out)).symm,HB.out⟩
theorem Ns (i:Ins) (h0:0≤i.op) (w:World) (T:CO w) :
  Calls Tryz.prog 55 #[.agg #[.int .u8 i.op,.int .i64 i.a,.int .i64 i.b,.int .i64 i.c,.int .i64 i.AD]] w fun e w'=>e=.returned (.bool (CW i))∧Below w.heap.size w w':=by
 by_cases h:i.op<30
 ·exact ag2 i i.op.toNat A0 A0 w T
 ·exact xp i h w
def Su (c:Int):Nat:=if c=65 then 22 else if c=66 then 18 else if c=67 then 14 else 0
def S8 (c:Int):Nat:=if c=65 then 4 else if c=66 then 4 else if c=67 then 4 else 18
theorem Yw (c:Int) (w:World):Calls Tryz.prog 53 #[.int .u8 c] w fun e w'=>e=.returned (.tuple #[.int .i64 (Su c:Int),.int .i64 (S8 c:Int)])∧w=w':=by
 refine (atf c w).mono fun e w' ⟨h1,h2⟩=>⟨?_,h2⟩;rw [h1];unfold Su S8;by_cases q1:c=65
 ·simp [q1]
 ·by_cases q2:c=66
  ·simp [q2]
  ·by_cases q3:c=67
   ·simp [q3]
   ·simp [q1,q2,q3]
def letVal (i:Ins) (c:Int):Int:=if c=65 then i.a else if c=66 then i.b else if c=67 then i.c else i.AD
def Kt (i:Ins) (x:Int) (c:Int):Int:=bits .or .u32 x (bits .and .u32 (letVal i c % 4294967296) ((2 ^ min (S8 c) 32 - 1) % 4294967296)*2 ^ min (Su c) 32 % 4294967296)
def TJ (i:Ins) (l:List UInt8):Int:=l.foldl (fun x ch=>Kt i x (ch.toNat:Int)) (i.op*67108864)
def encI (i:Ins):Int×Int:=if CW i=true then (TJ i (fm i.op.toNat).ops,0) else (0,3)
theorem ap6 (i:Ins) (l:List UInt8) (j:Nat) (h:j<l.length):TJ i (l.take (j+1))=Kt i (TJ i (l.take j)) ((l[j]'h).toNat:Int):=by
 unfold TJ;rw [I6,Qw,Ab h];rfl
structure EL (w wr:World) (i:Ins):Prop where
 sz:w.heap.size+1≤wr.heap.size
 AA:Below w.heap.size w wr
 i0:wr.cell? ⟨w.heap.size,0,none⟩=some (.int .u8 i.op)
 i1:wr.cell? ⟨w.heap.size,1,none⟩=some (.int .i64 i.a)
 i2:wr.cell? ⟨w.heap.size,2,none⟩=some (.int .i64 i.b)
 i3:wr.cell? ⟨w.heap.size,3,none⟩=some (.int .i64 i.c)
 i4:wr.cell? ⟨w.heap.size,4,none⟩=some (.int .i64 i.AD)
theorem EL.ext {w wr:World} {i:Ins} (h:EL w wr i) (x:Ext wr):EL w x.w i:=by
 have hs:=h.sz;have b0:w.heap.size<wr.heap.size:=by omega
 exact⟨by have:=x.h.size;omega,Ext.below h.AA A0 x,by rw [x.cell _ _ b0];exact h.i0,by rw [x.cell _ _ b0];exact h.i1,by rw [x.cell _ _ b0];exact h.i2,by rw [x.cell _ _ b0];exact h.i3,by rw [x.cell _ _ b0];exact h.i4⟩
theorem EL.at_ {w wr:World} {i:Ins} (h:EL w wr i) (c:Int):wr.cell? ⟨w.heap.size,Pa c,none⟩=some (.int .i64 (letVal i c)):=by
 unfold Pa letVal;by_cases q1:c=65
 ·simp [q1,h.i1]
 ·by_cases q2:c=66
  ·simp [q2,h.i2]
  ·by_cases q3:c=67
   ·simp [q3,h.i3]
   ·simp [q1,q2,q3,h.i4]
theorem oZ:∀k,k<30→(fm k).ops.length≤3:=by decide
theorem aqx (i:Ins) (k:Nat) (hop:i.op=(k:Int)) (h:k<30) (hv:CW i=true) (w:World) (T:CO w) :
  Calls Tryz.prog 23 #[.agg #[.int .u8 i.op,.int .i64 i.a,.int .i64 i.b,.int .i64 i.c,.int .i64 i.AD]] w fun e w'=>e=.returned (.tuple #[.int .u32 (TJ i (fm i.op.toNat).ops),.int .i64 0])∧Below w.heap.size w w':=by
 have hpos:=T.pos;have c1:=T.cells k h 1 _ rfl;have HC:∀W:World,CO W→Calls Tryz.prog 55 #[.agg #[.int .u8 i.op,.int .i64 i.a,.int .i64 i.b,.int .i64 i.c,.int .i64 i.AD]] W fun e w'=>e=.returned (.bool true)∧Below W.heap.size W w':=fun W hT=>by
  have:=Ns i A0 W hT
  rwa [hv] at this
 have⟨HT,HL⟩:=AQ T (oZ k h);obtain⟨op,a,b,c,AD⟩:=i;simp only at hop HC ⊢;subst hop;have HCc:=A3 HC;clear HC T hv;go_enter Tryz.func23,Tryz.ntmps23;go_wp2_with (go_at_call 55;refine (Calls.ext (HCc.out _ (HT.out.below ((AV _ _).alloc (AH _) _)))).mono ?_;rintro e w' ⟨rfl,y,rfl⟩);go_loopw [5,6,7,8,23] (fun a5 a6 a7 a8 q wr=>∃j:Nat,j≤(fm k).ops.length∧q=.int .i64 (j:Int)∧a5=.int .u32 (TJ ⟨(k:Int),a,b,c,AD⟩ ((fm k).ops.take j))∧EL w wr ⟨(k:Int),a,b,c,AD⟩) (fun _ _ _ _ q _=>(fm k).ops.length - (intOf q).toNat);case atStart=>
  refine⟨0,by omega,rfl,?_,?_⟩
  ·rfl
  ·refine EL.ext (wr:=w.alloc _) ⟨?_,?_,?_,?_,?_,?_,?_⟩ y
   all_goals first|(simp [go_sem];done)|skip
   exact (AV _ _).alloc (AH _) _
 case round=>
  obtain⟨j,hj,rfl,rfl,hV⟩:=hrel;have CG:=A3 hV;obtain⟨sz,AA,i0,i1,i2,i3,i4⟩:=hV;have b0:w.heap.size<wr.heap.size:=by omega
  have hl3:=HL.out;clear AA c1;by_cases hlt:j<(fm k).ops.length
  ·obtain⟨C,hC⟩:∃C:Int,((((fm k).ops[j]'hlt).toNat:Nat):Int)=C:=⟨_,rfl⟩
   have z0:((({ data:=(fm k).ops.toArray }:ByteArray)[j]'(by simpa [ByteArray.size] using hlt)).toNat:Int)=C:=hC;have HF:∀W:World,Calls Tryz.prog 54 #[.pointer (some ⟨w.heap.size,0,none⟩),.int .u8 C] W fun e w'=>e=.returned (.pointer (some ⟨w.heap.size,Pa C,none⟩))∧W=w':=fun w'=>Qf _ C w';have HP:=Yw C;have hf:=CG.out.at_ C;have hsz:ByteArray.size { data:=(fm k).ops.toArray }=(fm k).ops.length:=by simp [ByteArray.size]
   obtain⟨lo,hlo⟩:=A8 (Su C);obtain⟨sz',hsz'⟩:∃s,S8 C=s:=⟨_,rfl⟩;rw [hlo,hsz'] at HP;go_wp2_with (go_at_call 53;with_reducible refine (HP _).mono ?_;rintro e w' ⟨rfl,rfl⟩);refine C7 A4 A4 ?_;repeat (go_big_quiet_step (exact Calls.Tu (HF _)))
   refine BD ?_;rintro _ ⟨y2,rfl⟩;go_wp2_with fail;go_roundw;case rel=>
    refine⟨j+1,by omega,by go_num,?_,CG.out.ext y2⟩;rw [ap6 _ _ _ hlt,hC];unfold Kt;rw [hlo,hsz']
   case measure=>
    simp [intOf];omega
  ·obtain rfl:j=(fm k).ops.length:=by omega
   go_wp2_with fail;go_ret2;exact⟨rfl,CG.out.AA⟩
theorem zF (i:Ins) (h0:0≤i.op) (hv:CW i=false) (w:World) (T:CO w) :
  Calls Tryz.prog 23 #[.agg #[.int .u8 i.op,.int .i64 i.a,.int .i64 i.b,.int .i64 i.c,.int .i64 i.AD]] w fun e w'=>e=.returned (.tuple #[.int .u32 0,.int .i64 3])∧Below w.heap.size w w':=by
 have HC:∀W:World,CO W→Calls Tryz.prog 55 #[.agg #[.int .u8 i.op,.int .i64 i.a,.int .i64 i.b,.int .i64 i.c,.int .i64 i.AD]] W fun e w'=>e=.returned (.bool false)∧Below W.heap.size W w':=fun W hT=>by
  have:=Ns i h0 W hT
  rwa [hv] at this
 have⟨HT,HCc⟩:=AQ T HC;clear HC T hv;go_enter Tryz.func23,Tryz.ntmps23;go_wp2_with (go_at_call 55;refine (Calls.ext (HCc.out _ (HT.out.below ((AV _ _).alloc (AH _) _)))).mono ?_;rintro e w' ⟨rfl,y,rfl⟩);go_ret2;refine⟨rfl,Ext.below ((AV _ _).alloc (AH _) _) AR y⟩
theorem uU (i:Ins) (h0:0≤i.op) (w:World) (T:CO w) :
  Calls Tryz.prog 23 #[.agg #[.int .u8 i.op,.int .i64 i.a,.int .i64 i.b,.int .i64 i.c,.int .i64 i.AD]] w fun e w'=>e=.returned (.tuple #[.int .u32 (encI i).1,.int .i64 (encI i).2])∧Below w.heap.size w w':=by
 unfold encI;by_cases hv:CW i=true
 ·rw [A9 hv]
  have ho:i.op<30:=by
   unfold CW at hv;simp at hv;exact hv.1
  exact aqx i i.op.toNat A0 A0 hv w T
 ·rw [A6 hv]
  exact zF i h0 (by simpa using hv) w T
theorem afW:∀k,k<30→∀c∈(fm k).ops,c=65∨c=66∨c=67∨c=73:=by decide
def rawVal (x c:Int):Int:=if c=65 then wrap64 (bits .and .u32 (x / 4194304) 15) else if c=66 then wrap64 (bits .and .u32 (x / 262144) 15) else if c=67 then wrap64 (bits .and .u32 (x / 16384) 15) else if 131072≤wrap64 (bits .and .u32 x 262143) then wrap64 (wrap64 (bits .and .u32 x 262143) - 262144) else wrap64 (bits .and .u32 x 262143)
def UO (i:Ins) (c v:Int):Ins:=if c=65 then { i with a:=v } else if c=66 then { i with b:=v } else if c=67 then { i with c:=v } else { i with AD:=v }
def Pb (x:Int) (l:List UInt8):Ins:=l.foldl (fun i ch=>UO i (ch.toNat:Int) (rawVal x (ch.toNat:Int))) ⟨x / 67108864,0,0,0,0⟩
theorem Xn (x:Int) (l:List UInt8) (j:Nat) (h:j<l.length):Pb x (l.take (j+1))=UO (Pb x (l.take j)) ((l[j]'h).toNat:Int) (rawVal x ((l[j]'h).toNat:Int)):=by
 unfold Pb;rw [I6,Qw,Ab h];rfl
theorem jK (x:Int) (l:List UInt8):(Pb x l).op=x / 67108864:=by
 have:∀(l:List UInt8) (i:Ins),(l.foldl (fun i ch=>UO i (ch.toNat:Int) (rawVal x (ch.toNat:Int))) i).op=i.op:=by
  intro l;induction l with
  | nil=>intro i;rfl
  | cons c l ih=>
   intro i;rw [LP,ih];unfold UO;split
   ·rfl
   ·split
    ·rfl
    ·split<;>rfl
 exact this l _
def MC (x:Int):Ins:=Pb x (fm (x / 67108864).toNat).ops
def Ba (x:Int):Ins×Int:=if x / 67108864<30∧encI (MC x)=(x,0) then (MC x,0) else (⟨0,0,0,0,0⟩,3)
structure DL (w wr:World) (i:Ins):Prop where
 sz:w.heap.size+2≤wr.heap.size
 AA:Below w.heap.size w wr
 r:wr.heap[w.heap.size]?=some (.cells #[.int .u8 0,.int .i64 0,.int .i64 0,.int .i64 0,.int .i64 0] 67 (0,0))
 o:wr.heap[w.heap.size+1]?=some (.cells #[.int .u8 i.op,.int .i64 i.a,.int .i64 i.b,.int .i64 i.c,.int .i64 i.AD] 67 (0,0))
theorem DL.ext {w wr:World} {i:Ins} (h:DL w wr i) (x:Ext wr):DL w x.w i:=by
 have hs:=h.sz;exact⟨by have:=x.h.size;omega,Ext.below h.AA A0 x,by rw [x.h.block _ A0];exact h.r,by rw [x.h.block _ A0];exact h.o⟩
theorem DL.cell {w wr:World} {i:Ins} (h:DL w wr i) (c:Int):wr.cell? ⟨w.heap.size+1,Pa c,none⟩=some (.int .i64 (letVal i c))∧wr.frozen? ⟨w.heap.size+1,Pa c,none⟩=false:=by
 have ho:=h.o;unfold Pa letVal;refine⟨?_,?_⟩;all_goals
  by_cases q1:c=65
  ·simp [q1,World.cell?,World.frozen?,ho]
  ·by_cases q2:c=66
   ·simp [q2,World.cell?,World.frozen?,ho]
   ·by_cases q3:c=67
    ·simp [q3,World.cell?,World.frozen?,ho]
    ·simp [q1,q2,q3,World.cell?,World.frozen?,ho]
theorem DL.put {w wr:World} {i:Ins} (h:DL w wr i) (c v:Int):DL w (wr.setCell ⟨w.heap.size+1,Pa c,none⟩ (.int .i64 v)) (UO i c v):=by
 have hs:=h.sz;refine⟨by simpa using hs,h.AA.setCell (by show _≤_+1;omega) _,?_,?_⟩
 ·rw [Bb _ _ _ _ (by show _≠_+1;omega)];exact h.r
 ·rw [Cl _ _ _ _ _ _ h.o]
  unfold Pa UO;by_cases q1:c=65
  ·simp [q1]
  ·by_cases q2:c=66
   ·simp [q2]
   ·by_cases q3:c=67
    ·simp [q3]
    ·simp [q1,q2,q3]
theorem arl (x:Int) (k:Nat) (h:k<30) (hx:x / 67108864=(k:Int)) (hx0:0≤x) (hx1:x<4294967296) (w:World) (T:CO w) :
  Calls Tryz.prog 22 #[.int .u32 x] w fun e w'=>e=.returned (.tuple #[(Ba x).1.val,.int .i64 (Ba x).2])∧Below w.heap.size w w':=by
 have hpos:=T.pos;have c1:=T.cells k h 1 _ rfl;have⟨HT,HL⟩:=AQ T (oZ k h);have d:decide (30≤(k:Int))=false:=by simp;omega
 clear T;go_enter Tryz.func22,Tryz.ntmps22;go_wp2_with fail;go_loopw [6,7,8,9,27] (fun a6 a7 a8 a9 q wr=>∃j:Nat,j≤(fm k).ops.length∧q=.int .i64 (j:Int)∧DL w wr (Pb x ((fm k).ops.take j))) (fun _ _ _ _ q _=>(fm k).ops.length - (intOf q).toNat);case atStart=>
  refine⟨0,by omega,rfl,?_⟩;refine⟨?_,?_,?_,?_⟩;all_goals first|(simp [go_sem];done)|skip
  ·exact ((AV _ _).alloc (AH _) _).alloc AR _
  ·exact heap_alloc2_old _ _ _
  ·rw [heap_alloc2_new]
   simp [Pb,hx]
 case round=>
  obtain⟨j,hj,rfl,hV⟩:=hrel;have CG:=A3 hV;obtain⟨sz,AA,rr,oo⟩:=hV;have b0:w.heap.size<wr.heap.size:=by omega
  have b1:w.heap.size+1<wr.heap.size:=by omega
  have hl3:=HL.out;clear AA c1;by_cases hlt:j<(fm k).ops.length
  ·obtain⟨i,hi⟩:=A8 (Pb x ((fm k).ops.take j))
   rw [hi] at oo;have hcs:=afW k h ((fm k).ops[j]'hlt) (CQ hlt);obtain⟨C,hC⟩:∃C:Int,((((fm k).ops[j]'hlt).toNat:Nat):Int)=C:=⟨_,rfl⟩;have z0:((({ data:=(fm k).ops.toArray }:ByteArray)[j]'(by simpa [ByteArray.size] using hlt)).toNat:Int)=C:=hC;have hC4:C=65∨C=66∨C=67∨C=73:=by
    rw [←hC];rcases hcs with q|q|q|q<;>rw [q]<;>decide
   have hsz:ByteArray.size { data:=(fm k).ops.toArray }=(fm k).ops.length:=by simp [ByteArray.size]
   clear hcs;rcases hC4 with rfl|rfl|rfl|rfl
   ·have HF:∀W:World,Calls Tryz.prog 54 #[.pointer (some ⟨w.heap.size+1,0,none⟩),.int .u8 65] W fun e w'=>e=.returned (.pointer (some ⟨w.heap.size+1,1,none⟩))∧W=w':=fun w'=>Qf _ 65 w'
    have HP:∀W:World,Calls Tryz.prog 53 #[.int .u8 65] W fun e w'=>e=.returned (.tuple #[.int .i64 22,.int .i64 4])∧W=w':=fun W=>Yw 65 W;have cc:wr.cell? ⟨w.heap.size+1,1,none⟩=some (.int .i64 (letVal i 65)):=by have:=(CG.out.cell 65).1;rw [hi] at this;exact this
    have cf:wr.frozen? ⟨w.heap.size+1,1,none⟩=false:=(CG.out.cell 65).2;go_wp2_with (go_at_call 53;with_reducible refine (HP _).mono ?_;rintro e w' ⟨rfl,rfl⟩);refine C7 A4 A4 ?_;repeat (go_big_quiet_step (fail))
    refine BD ?_;rintro _ ⟨y2,rfl⟩;go_wp2_with (go_at_call 54;with_reducible refine (HF _).mono ?_;rintro e w' ⟨rfl,rfl⟩);go_roundw;case rel=>
     refine⟨j+1,by omega,by go_num,?_⟩;rw [Xn _ _ _ hlt,hC];have hr:rawVal x 65=wrap64 (bits .and .u32 (x / 4194304) 15):=by unfold rawVal;rw [A9 rfl]
     rw [hr];exact (CG.out.ext y2).put 65 _
    case measure=>
     simp [intOf];omega
   ·have HF:∀W:World,Calls Tryz.prog 54 #[.pointer (some ⟨w.heap.size+1,0,none⟩),.int .u8 66] W fun e w'=>e=.returned (.pointer (some ⟨w.heap.size+1,2,none⟩))∧W=w':=fun w'=>Qf _ 66 w'
    have HP:∀W:World,Calls Tryz.prog 53 #[.int .u8 66] W fun e w'=>e=.returned (.tuple #[.int .i64 18,.int .i64 4])∧W=w':=fun W=>Yw 66 W;have cc:wr.cell? ⟨w.heap.size+1,2,none⟩=some (.int .i64 (letVal i 66)):=by have:=(CG.out.cell 66).1;rw [hi] at this;exact this
    have cf:wr.frozen? ⟨w.heap.size+1,2,none⟩=false:=(CG.out.cell 66).2;go_wp2_with (go_at_call 53;with_reducible refine (HP _).mono ?_;rintro e w' ⟨rfl,rfl⟩);refine C7 A4 A4 ?_;repeat (go_big_quiet_step (fail))
    refine BD ?_;rintro _ ⟨y2,rfl⟩;go_wp2_with (go_at_call 54;with_reducible refine (HF _).mono ?_;rintro e w' ⟨rfl,rfl⟩);go_roundw;case rel=>
     refine⟨j+1,by omega,by go_num,?_⟩;rw [Xn _ _ _ hlt,hC];have hr:rawVal x 66=wrap64 (bits .and .u32 (x / 262144) 15):=by unfold rawVal;rw [A6 AP,A9 rfl]
     rw [hr];exact (CG.out.ext y2).put 66 _
    case measure=>
     simp [intOf];omega
   ·have HF:∀W:World,Calls Tryz.prog 54 #[.pointer (some ⟨w.heap.size+1,0,none⟩),.int .u8 67] W fun e w'=>e=.returned (.pointer (some ⟨w.heap.size+1,3,none⟩))∧W=w':=fun w'=>Qf _ 67 w'
    have HP:∀W:World,Calls Tryz.prog 53 #[.int .u8 67] W fun e w'=>e=.returned (.tuple #[.int .i64 14,.int .i64 4])∧W=w':=fun W=>Yw 67 W;have cc:wr.cell? ⟨w.heap.size+1,3,none⟩=some (.int .i64 (letVal i 67)):=by have:=(CG.out.cell 67).1;rw [hi] at this;exact this
    have cf:wr.frozen? ⟨w.heap.size+1,3,none⟩=false:=(CG.out.cell 67).2;go_wp2_with (go_at_call 53;with_reducible refine (HP _).mono ?_;rintro e w' ⟨rfl,rfl⟩);refine C7 A4 A4 ?_;repeat (go_big_quiet_step (fail))
    refine BD ?_;rintro _ ⟨y2,rfl⟩;go_wp2_with (go_at_call 54;with_reducible refine (HF _).mono ?_;rintro e w' ⟨rfl,rfl⟩);go_roundw;case rel=>
     refine⟨j+1,by omega,by go_num,?_⟩;rw [Xn _ _ _ hlt,hC];have hr:rawVal x 67=wrap64 (bits .and .u32 (x / 16384) 15):=by unfold rawVal;rw [A6 AP,A6 AP,A9 rfl]
     rw [hr];exact (CG.out.ext y2).put 67 _
    case measure=>
     simp [intOf];omega
   ·have HF:∀W:World,Calls Tryz.prog 54 #[.pointer (some ⟨w.heap.size+1,0,none⟩),.int .u8 73] W fun e w'=>e=.returned (.pointer (some ⟨w.heap.size+1,4,none⟩))∧W=w':=fun w'=>Qf _ 73 w'
    have HP:∀W:World,Calls Tryz.prog 53 #[.int .u8 73] W fun e w'=>e=.returned (.tuple #[.int .i64 0,.int .i64 18])∧W=w':=fun W=>Yw 73 W;have cc:wr.cell? ⟨w.heap.size+1,4,none⟩=some (.int .i64 (letVal i 73)):=by have:=(CG.out.cell 73).1;rw [hi] at this;exact this
    have cf:wr.frozen? ⟨w.heap.size+1,4,none⟩=false:=(CG.out.cell 73).2;by_cases hg:131072≤wrap64 (bits .and .u32 x 262143)
    ·have dg:decide (131072≤wrap64 (bits .and .u32 x 262143))=true:=Ac hg
     go_wp2_with (go_at_call 53;with_reducible refine (HP _).mono ?_;rintro e w' ⟨rfl,rfl⟩);refine C7 A4 A4 ?_;repeat (go_big_quiet_step (fail))
     refine BD ?_;rintro _ ⟨y2,rfl⟩;go_wp2_with (go_at_call 54;with_reducible refine (HF _).mono ?_;rintro e w' ⟨rfl,rfl⟩);go_roundw;case rel=>
      refine⟨j+1,by omega,by go_num,?_⟩;rw [Xn _ _ _ hlt,hC];have hr:rawVal x 73=wrap64 (wrap64 (bits .and .u32 x 262143) - 262144):=by unfold rawVal;rw [A6 AP,A6 AP,A6 AP,A9 hg]
      rw [hr];exact (CG.out.ext y2).put 73 _
     case measure=>
      simp [intOf];omega
    ·have dg:decide (131072≤wrap64 (bits .and .u32 x 262143))=false:=Ad hg
     go_wp2_with (go_at_call 53;with_reducible refine (HP _).mono ?_;rintro e w' ⟨rfl,rfl⟩);refine C7 A4 A4 ?_;repeat (go_big_quiet_step (fail))
     refine BD ?_;rintro _ ⟨y2,rfl⟩;go_wp2_with (go_at_call 54;with_reducible refine (HF _).mono ?_;rintro e w' ⟨rfl,rfl⟩);go_roundw;case rel=>
      refine⟨j+1,by omega,by go_num,?_⟩;rw [Xn _ _ _ hlt,hC];have hr:rawVal x 73=wrap64 (bits .and .u32 x 262143):=by unfold rawVal;rw [A6 AP,A6 AP,A6 AP,A6 (Int.not_le.mpr hg)]
      rw [hr];exact (CG.out.ext y2).put 73 _
     case measure=>
      simp [intOf];omega
  ·obtain rfl:j=(fm k).ops.length:=by omega
   rw [Gx] at oo;obtain⟨i,hi⟩:=A8 (Pb x (fm k).ops);have Ih:MC x=i:=by unfold MC;rw [hx];exact hi
   have hop:i.op=(k:Int):=by rw [←hi,jK,hx]
   rw [hi] at oo;have HTr:=A3 (HT.out.below CG.out.AA);have HE:=A3 (uU i A0 wr HTr.out);have arC:x / 67108864<30:=by omega
   obtain⟨E1,E2,hE⟩:∃E1 E2,encI i=(E1,E2):=⟨_,_,rfl⟩;rw [hE] at HE;have HD:=A3 (show Ba x=if E1=x∧E2=0 then (i,0) else (⟨0,0,0,0,0⟩,3) by
    unfold Ba;rw [Ih,hE]
    simp [arC])
   obtain⟨op,a,b,c,AD⟩:=i;simp only at HE oo;have o0:wr.cell? ⟨w.heap.size+1,0,none⟩=some (.int .u8 op):=by simp [World.cell?,oo]
   have r0:wr.cell? ⟨w.heap.size,0,none⟩=some (.int .u8 0):=by simp [World.cell?,rr]
   have rf0:wr.frozen? ⟨w.heap.size,0,none⟩=false:=by simp [World.frozen?,rr]
   have o1:wr.cell? ⟨w.heap.size+1,1,none⟩=some (.int .i64 a):=by simp [World.cell?,oo]
   have r1:wr.cell? ⟨w.heap.size,1,none⟩=some (.int .i64 0):=by simp [World.cell?,rr]
   have rf1:wr.frozen? ⟨w.heap.size,1,none⟩=false:=by simp [World.frozen?,rr]
   have o2:wr.cell? ⟨w.heap.size+1,2,none⟩=some (.int .i64 b):=by simp [World.cell?,oo]
   have r2:wr.cell? ⟨w.heap.size,2,none⟩=some (.int .i64 0):=by simp [World.cell?,rr]
   have rf2:wr.frozen? ⟨w.heap.size,2,none⟩=false:=by simp [World.frozen?,rr]
   have o3:wr.cell? ⟨w.heap.size+1,3,none⟩=some (.int .i64 c):=by simp [World.cell?,oo]
   have r3:wr.cell? ⟨w.heap.size,3,none⟩=some (.int .i64 0):=by simp [World.cell?,rr]
   have rf3:wr.frozen? ⟨w.heap.size,3,none⟩=false:=by simp [World.frozen?,rr]
   have o4:wr.cell? ⟨w.heap.size+1,4,none⟩=some (.int .i64 AD):=by simp [World.cell?,oo]
   have r4:wr.cell? ⟨w.heap.size,4,none⟩=some (.int .i64 0):=by simp [World.cell?,rr]
   have rf4:wr.frozen? ⟨w.heap.size,4,none⟩=false:=by simp [World.frozen?,rr]
   go_wp2_with (go_at_call 23;refine (Calls.ext HE.out).mono ?_;rintro e w' ⟨rfl,y,rfl⟩)
   ·rename_i q1 q2
    have hne:¬(E1=x∧E2=0):=by rintro⟨p1,p2⟩;simp [p1] at q2
    refine Af (v:=.tuple #[.agg #[.int .u8 0,.int .i64 0,.int .i64 0,.int .i64 0,.int .i64 0],.int .i64 3]) jI rfl ⟨?_,?_⟩
    ·rw [HD.out,A6 hne];rfl
    ·refine CY (CY (CY (CY (CY (Ext.below CG.out.AA A0 y) ?_ _) ?_ _) ?_ _) ?_ _) ?_ _<;>exact AH _
   ·rename_i q1 q2
    have hyes:E1=x∧E2=0:=⟨by simpa using q2,q1⟩;refine Af (v:=.tuple #[.agg #[.int .u8 op,.int .i64 a,.int .i64 b,.int .i64 c,.int .i64 AD],.int .i64 0]) jI rfl ⟨?_,?_⟩
    ·rw [HD.out,A9 hyes];rfl
    ·refine CY (CY (CY (CY (CY (Ext.below CG.out.AA A0 y) ?_ _) ?_ _) ?_ _) ?_ _) ?_ _<;>exact AH _
   ·rename_i q1
    have hne:¬(E1=x∧E2=0):=by rintro⟨p1,p2⟩;exact q1 p2
    refine Af (v:=.tuple #[.agg #[.int .u8 0,.int .i64 0,.int .i64 0,.int .i64 0,.int .i64 0],.int .i64 3]) jI rfl ⟨?_,?_⟩
    ·rw [HD.out,A6 hne];rfl
    ·refine CY (CY (CY (CY (CY (Ext.below CG.out.AA A0 y) ?_ _) ?_ _) ?_ _) ?_ _) ?_ _<;>exact AH _
theorem xX (x:Int) (h:¬x / 67108864<30) (hx0:0≤x) (hx1:x<4294967296) (w:World) :
  Calls Tryz.prog 22 #[.int .u32 x] w fun e w'=>e=.returned (.tuple #[(Ba x).1.val,.int .i64 (Ba x).2])∧Below w.heap.size w w':=by
 obtain⟨q,hq⟩:=A8 (x / 67108864);have HD:=A3 (show Ba x=(⟨0,0,0,0,0⟩,3) by unfold Ba;simp [h]);have d:decide (30≤q)=true:=by simp;omega
 go_enter Tryz.func22,Tryz.ntmps22;go_wp2_with fail;refine Af (v:=.tuple #[.agg #[.int .u8 0,.int .i64 0,.int .i64 0,.int .i64 0,.int .i64 0],.int .i64 3]) jI rfl ⟨?_,?_⟩
 ·rw [HD.out];rfl
 ·(repeat (first|exact AV _ _|refine CY ?_ ?_ _|refine MU ?_ ?_ _))<;>(first|(simp;done)|(simp;omega)|omega)
theorem VS (x:Int) (hx0:0≤x) (hx1:x<4294967296) (w:World) (T:CO w) :
  Calls Tryz.prog 22 #[.int .u32 x] w fun e w'=>e=.returned (.tuple #[(Ba x).1.val,.int .i64 (Ba x).2])∧Below w.heap.size w w':=by
 by_cases h:x / 67108864<30
 ·exact arl x (x / 67108864).toNat A0 A0 hx0 hx1 w T
 ·exact xX x h hx0 hx1 w
end Go.Proofs.YtlmgkipmfgijiaaGreatDoor
