/-
  What is proved here: parts lCnR.
-/
import Derived.Test.YtlmgkipmfgijiaaGreatDoorVa
import Derived.Test.YtlmgkipmfgijiaaGreatDoorVs
import Derived.Test.YtlmgkipmfgijiaaGreatDoorVt
namespace Go.Proofs.YtlmgkipmfgijiaaGreatDoor
set_option linter.unusedVariables false
set_option linter.unusedSimpArgs false
set_option maxRecDepth 100000
set_option maxHeartbeats 8000000
open Go.RowKit
section
section
variable {n:Nat} {cd:Nat→Int} {AU:List CP} {sh lk:Int} {k:Nat} {en:CP} {G:List AV} {P:List (List Int)}
theorem Cv.nl (g:Cv n cd AU sh lk k en G P) (hn:G.length≤5000):NL (G.map (·.nx)) G.length:=by
 obtain⟨z,hz⟩:=g.val.ok;refine⟨by simp,hn,fun l hl=>?_,fun l hl t ht=>?_⟩
 ·obtain⟨x,hx,rfl⟩:=Bx.1 hl
  have:=g.nx2 x hx;omega
 ·obtain⟨x,hx,rfl⟩:=Bx.1 hl
  obtain⟨e,he⟩:=hz.each x hx;have:=he.nx t ht;omega
theorem Cv.gr (g:Cv n cd AU sh lk k en G P) (hn:G.length≤5000):Gr G.length (Bj (G.map (·.nx))) (CR G.length (Ar G)) (Dq G.length (Ar G)):=by
 rw [mh];exact (Q3 (Ic.2 g.val.ne) (GB.of g.val hn).lt).1
theorem Cv.it (g:Cv n cd AU sh lk k en G P) {D:List Int} (hT:Ff G D):IM G.length (Bj (G.map (·.nx))) (CR G.length (Ar G)) (Dq G.length (Ar G)) D:=by
 rw [mh];exact hT
theorem Cv.lp (g:Cv n cd AU sh lk k en G P) (hn:G.length≤5000) {D:List Int} {L:List Lp} (h:LB P (CR G.length (Ar G)) (Dq G.length (Ar G)) (Cf G G.length []) D L) {x:Lp} (hx:x∈L):(∃hd:Nat,x.h=(hd:Int)∧hd<G.length)∧(∀t∈x.la,∃u:Nat,t=(u:Int)∧u∈CR G.length (Ar G))∧(∀t∈x.bl,0≤t∧t<(G.length:Int)):=by
 obtain⟨h1,h2,h3⟩:=nQ (g.ref hn h x hx);refine⟨h1,fun t ht=>?_,fun t ht=>?_⟩
 ·have h4:=Ma.1 h3 t ht
  simp only [EY,DK] at h4;exact⟨t.toNat,by omega,g.Zo hn _ A0⟩
 ·have h4:=Ma.1 h2 t ht
  simp only [EY,DK] at h4;exact h4
theorem Cv.agr (g:Cv n cd AU sh lk k en G P) (hw:∀i,i<n→0≤cd i∧cd i<4294967296) (hn:G.length≤5000) {D:List Int} (hT:Ff G D) {L:List Lp} (h:LB P (CR G.length (Ar G)) (Dq G.length (Ar G)) (Cf G G.length []) D L) {x:Lp} (hx:x∈L) (A8:Int) :
  (Ji A8 (Fj A8 (DY x.bl) (Mf (G.map (·.nx)) D x.h.toNat x.bl x.la) (FC cd G) G.length)).2=(EJ n cd G P x A8).2∧((EJ n cd G P x A8).2=true→(Ji A8 (Fj A8 (DY x.bl) (Mf (G.map (·.nx)) D x.h.toNat x.bl x.la) (FC cd G) G.length)).1=(EJ n cd G P x A8).1)∧((EJ n cd G P x A8).2=false→(EJ n cd G P x A8).1=0):=by
 have e:EJ n cd G P x A8=Dr cd G x A8:=by
  unfold EJ;rw [AE ⟨g.val,g.Na,g.ref hn h x hx⟩]
 rw [e];exact aoK hw (fun y hy=>by have:=g.Zj y hy;have:=g.range;omega) g.Na (hT.eq g.val hn) x (g.lp hn h hx).2.2 A8
end
theorem aqH {f:Int→Int×Bool} {k:Nat} (h1:10≤k) (h2:k≤13):FT f (Fa.drop (k - 10))=if (f k).2=true then ((k:Int),(f k).1,true) else FT f (Fa.drop (k - 9)):=by
 obtain rfl|rfl|rfl|rfl:k=10∨k=11∨k=12∨k=13:=by omega
 all_goals rfl
theorem oZ {f:Int→Int×Bool}:∀ {l:List Int},(∀r∈l,0<r)→(FT f l).2.2=decide (0<(FT f l).1)∧((FT f l).2.2=false→FT f l=(0,0,false))
 | [],_=>⟨rfl,fun _=>rfl⟩
 | r :: l,h=>by
  unfold FT;by_cases hr:(f r).2=true
  ·rw [AE hr]
   have:=h r (Jo ..);exact⟨(AR this).symm,fun h=>by cases h⟩
  ·rw [A9 hr]
   exact oZ (fun r hr=>h r (F9 _ hr))
theorem aq0 (f:Int→Int×Bool):(FT f Fa).2.2=decide (0<(FT f Fa).1):=(oZ AK).1
end
end Go.Proofs.YtlmgkipmfgijiaaGreatDoor
