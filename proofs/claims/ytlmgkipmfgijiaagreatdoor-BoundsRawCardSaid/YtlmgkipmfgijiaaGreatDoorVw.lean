/-
  What is proved here: parts Held.
-/
import Derived.Test.YtlmgkipmfgijiaaGreatDoorVa
import Derived.StillTail
import Derived.Deep.RegionHeld3
namespace Go.Proofs.YtlmgkipmfgijiaaGreatDoor
set_option linter.unusedVariables false
set_option linter.unusedSimpArgs false
set_option maxRecDepth 100000
set_option maxHeartbeats 8000000
open Go.RowKit
section
section
variable {P:Program} {ops:Array Oper} {md:Region.Mode} {S:World→Prop} {Q:Exit→Act→World→Prop}
def Vh (P:Program) (md:Region.Mode) (ops:Array Oper) (Q:Exit→Act→World→Prop) (S:World→Prop) (n:Nat) (L:Array Bool→Act→World→Prop):Nat→Array Bool→Act→World→Prop
 | 0,listed,a,w=>L listed a w
 | f+1,listed,a,w=>
  Region.ready md ops listed≠[]∧∀i∈Region.ready md ops listed,i<n∧wpOp P ops Q i (fun a' w'=>S w'∧Vh P md ops Q S n L f (listed.setIfInBounds i true) a' w') a w
theorem xC {n g:Nat} {L:Array Bool→Act→World→Prop} (hL:∀listed a w,L listed a w→wpAny P md ops Q g listed a w) :
  ∀(f:Nat) (listed:Array Bool) (a:Act) (w:World),Vh P md ops Q S n L f listed a w→wpAny P md ops Q (f+g) listed a w
 | 0,_,_,_,h=>by rw [EU];exact hL _ _ _ h
 | f+1,_,_,_,h=>by
  rw [show f+1+g=(f+g)+1 by omega];exact⟨fun h0=>absurd h0 h.1,fun i hi=>wpOp_mono (fun a' w' h'=>xC hL f _ a' w' h'.2) (h.2 i hi).2⟩
theorem aqK {n i:Nat} {oi:Oper} {v:Value} {L:Array Bool→Act→World→Prop} (hi:ops[i]?=some oi) (hsel:∀(j:Nat) (o:Oper) cs b,ops[j]?=some o→o.op≠.select cs b)
  (hQ:∀c a w,Q (.panic c) (a.put oi.dst v) w→Q (.panic c) a w)
  (hs:Region.sinkB md ops n=true) (hc:Region.chainB md ops n=true) (hn:n<ops.size) (hin:i<n)
  (hdone:∀listed a w,L listed a w→∀j∈Region.ready md ops listed,n≤j) :
  ∀(f:Nat) (listed:Array Bool) (a:Act) (w:World),HeadInv md ops n listed→
   (∀j oj,ops[j]?=some oj→j≠i→listed.getD j true=false→(∀e∈oj.after,Region.binds md e=true→e.on≠i)→oi.apart ops oj=true)→
   i∈Region.ready md ops listed→YieldsIf P ops S oi v a→S w→
   Vh P md ops Q S n L f (listed.setIfInBounds i true) (a.put oi.dst v) w→Vh P md ops Q S n L (f+1) listed a w:=by
 intro f;induction f with
 | zero=>
  intro listed a w inv _ hr hy hS H;have hun:=(Oh.1 hr).1;refine⟨fun h=>YB,fun j hj=>?_⟩;have hjn:j<n:=by
   rcases Iz j n with h|h
   ·exact h
   ·exact absurd hj (tail_waits hs hc hn inv _ i rfl hin hun j h)
  refine⟨hjn,?_⟩;by_cases hji:j=i
  ·subst hji;exact hy.wpOp hi hS ⟨hS,H⟩
  ·have:=hdone _ _ _ H j (Rm hj hji)
   omega
 | succ f ih=>
  intro listed a w inv hfree hr hy hS H;have hun:=(Oh.1 hr).1;refine⟨fun h=>YB,fun j hj=>?_⟩;have hjn:j<n:=by
   rcases Iz j n with h|h
   ·exact h
   ·exact absurd hj (tail_waits hs hc hn inv _ i rfl hin hun j h)
  refine⟨hjn,?_⟩;by_cases hji:j=i
  ·subst hji;exact hy.wpOp hi hS ⟨hS,H⟩
  ·have h1:=(H.2 j (Rm hj hji)).2
   obtain⟨RP,oj,Ko,hall⟩:=Oh.1 hj;have hnot:∀e∈oj.after,Region.binds md e=true→e.on≠i:=fun e he hb heq=>by
    have h1:=hall e he hb;rw [heq,YE hun] at h1;cases h1
   have h2:=wpOp_putIf Ko (hfree j oj Ko hji RP hnot) (fun cs b=>hsel i oi cs b hi) (fun cs b=>hsel j oj cs b Ko) hQ hy h1;have Yo:∀k ok,ops[k]?=some ok→k≠i→(listed.setIfInBounds j true).getD k true=false→
     (∀e∈ok.after,Region.binds md e=true→e.on≠i)→oi.apart ops ok=true:=fun k ok hk hki hun hno=>by
    refine hfree k ok hk hki ?_ hno;by_cases hjk:j=k
    ·subst hjk;exact RP
    ·rw [S4 true hjk] at hun;exact hun
   refine wpOp_mono (fun a' w' h3=>⟨h3.2.1,ih (listed.setIfInBounds j true) a' w' (inv.set hj hjn) Yo (Rm hr (Ds hji)) h3.1 h3.2.1 ?_⟩) h2;rw [uk _ _ hji];exact h3.2.2
def wK (P:Program) (ops:Array Oper) (Q:Exit→Act→World→Prop) (n g:Nat) (rest:List Oper) (listed:Array Bool) (a:Act) (w:World):Prop:=
 Region.seqB .any ops g n listed=true∧wpList P ops Q rest a w
def Qz (P:Program) (ops:Array Oper) (Q:Exit→Act→World→Prop) (S:World→Prop) (n g:Nat) (rest:List Oper) (f:Nat) (listed:Array Bool) (a:Act) (w:World):Prop:=
 HeadInv .any ops n listed→S w→Vh P .any ops Q S n (wK P ops Q n g rest) f listed a w
variable {n g f:Nat} {rest:List Oper} {listed:Array Bool} {a:Act} {w:World}
theorem apq {i:Nat} {oi:Oper} {v:Value} (hi:ops[i]?=some oi) (hs:Region.noSelect ops=true) (hf:Region.free .any ops listed i=true) (hr:(Region.ready .any ops listed).contains i=true)
  (hB:(Region.sinkB .any ops n && Region.chainB .any ops n && decide (n<ops.size) && decide (i<n))=true)
  (hQ:∀c a w,Q (.panic c) (a.put oi.dst v) w→Q (.panic c) a w) (hy:YieldsIf P ops S oi v a)
  (h:Qz P ops Q S n g rest f (listed.setIfInBounds i true) (a.put oi.dst v) w):Qz P ops Q S n g rest (f+1) listed a w:=fun inv hS=>by
 simp only [EY,DK] at hB;obtain⟨⟨⟨h1,h2⟩,h3⟩,h4⟩:=hB;have hr':i∈Region.ready .any ops listed:=by simpa using hr
 exact aqK hi (tj hs) hQ h1 h2 h3 h4 (fun _ _ _ hL=>seqB_ready hL.1) f listed a w inv (uh hi hf) hr' hy hS (h (inv.set hr' h4) hS)
def FY (P:Program) (ops:Array Oper) (Q:Exit→Act→World→Prop) (S:World→Prop) (n g:Nat) (rest:List Oper) (f:Nat) (listed:Array Bool) (a:Act) (w:World) (rs:List Nat):Prop:=
 HeadInv .any ops n listed→∀i∈rs,i∈Region.ready .any ops listed→i<n→wpOp P ops Q i (fun a' w'=>S w'∧Vh P .any ops Q S n (wK P ops Q n g rest) f (listed.setIfInBounds i true) a' w') a w
theorem FY.nil:FY P ops Q S n g rest f listed a w []:=fun _ _ h=>by cases h
theorem FY.cons {i:Nat} {o:Oper} {rs:List Nat} (ho:ops[i]?=some o)
  (h:∀K':Act→World→Prop,Shut (∀a w,S w→Qz P ops Q S n g rest f (listed.setIfInBounds i true) a w→K' a w)→if Region.wanted o (yielded ops a.tmps)=true then Oper.wp P o a w K' Q else K' (a.put o.dst undef) w)
  (hs:FY P ops Q S n g rest f listed a w rs):FY P ops Q S n g rest f listed a w (i :: rs):=fun inv j hj hr hn=>by
 rcases Di.1 hj with rfl|hj
 ·exact wpOp_step ho (fun K' hK=>h K' (fun a w hS hW=>hK a w ⟨hS,hW (inv.set hr hn) hS⟩))
 ·exact hs inv j hj hr hn
theorem Ra {rs:List Nat} (hr:Region.ready .any ops listed=rs) (hne:rs≠[]) (hlt:rs.all (fun i=>decide (i<n))=true)
  (h:FY P ops Q S n g rest f listed a w rs):Qz P ops Q S n g rest (f+1) listed a w:=fun inv _=>
 ⟨fun h0=>hne (hr▸h0),fun i hi=>by
  have h1:i<n:=by have:=Ma.1 hlt i (hr▸hi);simpa using this
  exact⟨h1,h inv i (hr▸hi) hi h1⟩⟩
theorem ou (hB:Region.seqB .any ops g n listed=true) (h:wpList P ops Q rest a w):Qz P ops Q S n g rest 0 listed a w:=fun _ _=>⟨hB,h⟩
theorem wR {id:Nat} {l:List Oper} (n:Nat) (hm:P.follows .mixedOrders=true) (hn:decide (n<l.length)=true) (hS:S w.drew)
  (h:S w.drew→Qz P l.toArray Q S n (l.length - n) (l.drop n) n (Array.replicate l.toArray.size false) a w.drew):(Code.region id l.toArray true).wp P Q a w:=by
 have hn:=GQ hn;have Xp:HeadInv .any l.toArray n (Array.replicate l.toArray.size false):=
  ⟨by simp,fun j oj _ hl=>(by rw [ZZ] at hl;cases hl),fun t _ ht=>getD_in (by simpa using ht) (ZZ _ _)⟩
 refine wp_region_any hm ?_;have:=xC (g:=l.length - n) (fun listed a' w' hL=>by
  have hl:=wpAny_of_seq (l.drop n) n listed a' w' (fun j=>by simp) (by rw [jw];exact hL.1) hL.2;rw [jw] at hl
  exact hl) n _ a _ (h hS Xp hS)
 rw [show n+(l.length - n)=l.toArray.size by simp;omega] at this;exact this
end
section
variable {P:Program} {ops:Array Oper} {S:World→Prop} {Q:Exit→Act→World→Prop} {n g f:Nat} {rest:List Oper} {listed:Array Bool} {a:Act} {w:World}
theorem wt (i:Nat) {oi:Oper} {v:Value} (hy:∀w,S w→(execOp a.eval oi).run P w=.ok (.value v) w) (h:Qz P ops Q S n g rest f (listed.setIfInBounds i true) (a.put oi.dst v) w)
  (hi:ops[i]?=some oi:=by rfl) (hs:Region.noSelect ops=true:=by kernel_rfl) (hf:Region.free .any ops listed i=true:=by kernel_rfl) (hr:(Region.ready .any ops listed).contains i=true:=by kernel_rfl)
  (hB:(Region.sinkB .any ops n && Region.chainB .any ops n && decide (n<ops.size) && decide (i<n))=true:=by kernel_rfl)
  (hQ:∀c a w,Q (.panic c) (a.put oi.dst v) w→Q (.panic c) a w:=by exact fun _ _ _ h=>h) (hw:Region.wanted oi (yielded ops a.tmps)=true:=by rfl):Qz P ops Q S n g rest (f+1) listed a w:=
 apq hi hs hf hr hB hQ (.inl ⟨hw,hy⟩) h
theorem ht (i:Nat) {oi:Oper} {v:Value} (hS:S w) (hy:∀w,S w→(execOp a.eval oi).run P w=.ok (.value v) w) (h:wpAnyH P .any ops Q S f (listed.setIfInBounds i true) (a.put oi.dst v) w)
  (hi:ops[i]?=some oi:=by rfl) (hs:Region.noSelect ops=true:=by kernel_rfl) (hf:Region.free .any ops listed i=true:=by kernel_rfl) (hr:(Region.ready .any ops listed).contains i=true:=by kernel_rfl)
  (hQ:∀c a w,Q (.panic c) (a.put oi.dst v) w→Q (.panic c) a w:=by exact fun _ _ _ h=>h) (hw:Region.wanted oi (yielded ops a.tmps)=true:=by rfl):wpAnyH P .any ops Q S (f+1) listed a w:=
 BI hi hs hf hr hQ (.inl ⟨hw,hy⟩) hS h
end
end
end Go.Proofs.YtlmgkipmfgijiaaGreatDoor
