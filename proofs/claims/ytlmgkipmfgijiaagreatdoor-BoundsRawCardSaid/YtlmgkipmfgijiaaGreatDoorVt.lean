/-
  What is proved here: parts lRfP.
-/
import Derived.Test.YtlmgkipmfgijiaaGreatDoorVa
import Derived.Test.YtlmgkipmfgijiaaGreatDoorVr
namespace Go.Proofs.YtlmgkipmfgijiaaGreatDoor
set_option linter.unusedVariables false
set_option linter.unusedSimpArgs false
set_option maxRecDepth 100000
set_option maxHeartbeats 8000000
open Go.RowKit
theorem Cv.ref {n:Nat} {cd:Nat→Int} {AU:List CP} {sh lk:Int} {k:Nat} {en:CP} {G:List AV} {P:List (List Int)} (g:Cv n cd AU sh lk k en G P) (hn:G.length≤5000) {D:List Int} {L:List Lp} (h:LB P (CR G.length (Ar G)) (Dq G.length (Ar G)) (Cf G G.length []) D L):∀x∈L,Kc G.length x=true:=fun x hx=>by
 have hv:=g.val;obtain⟨gr,-⟩:=Q3 (Ic.2 hv.ne) (GB.of hv hn).lt;have h1:=h.hd hv x hx;obtain⟨h2,h3⟩:=h.each x hx;unfold Kc Hl;simp only [EY,Ma,DK];refine⟨⟨fun y hy=>?_,fun y hy=>?_⟩,fun y hy=>?_⟩
 ·obtain rfl:y=x.h:=by simpa using hy
  exact h1
 ·obtain⟨h4,h5⟩:=(h3.mem y).1 hy
  have:y.toNat<G.length:=by
   generalize y.toNat=z at h5 ⊢;cases h5 with
   | hd=>omega
   | lt _ hr=>exact gr.lt _ hr
   | up _ _ _ hr=>exact gr.lt _ hr
  omega
 ·rw [h2] at hy
  obtain⟨z,hz,rfl⟩:=Bx.1 hy;unfold EP at hz;obtain⟨e,he,rfl⟩:=Bx.1 hz;obtain⟨h5,h6⟩:=Sz.1 he;have h7:=(GQ h6).1;have:=gr.lt _ h7;omega
end Go.Proofs.YtlmgkipmfgijiaaGreatDoor
