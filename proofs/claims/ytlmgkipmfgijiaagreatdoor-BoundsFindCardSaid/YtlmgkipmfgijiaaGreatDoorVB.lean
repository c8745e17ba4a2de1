/-
  What is proved here: parts lFiP.
-/
import Derived.Test.YtlmgkipmfgijiaaGreatDoorVa
import Derived.Test.YtlmgkipmfgijiaaGreatDoorVu
import Derived.Test.YtlmgkipmfgijiaaGreatDoorVA
import Derived.Test.YtlmgkipmfgijiaaGreatDoorVr
namespace Go.Proofs.YtlmgkipmfgijiaaGreatDoor
set_option linter.unusedVariables false
set_option linter.unusedSimpArgs false
set_option maxRecDepth 100000
set_option maxHeartbeats 8000000
open Go.RowKit
theorem aal {w:World} {n:Nat} {cd:Nat→Int} {AU:List CP} {sh lk task:Int} {e:Ending} (h:gT w n cd AU sh lk task e):∃(k:Nat) (en:CP) (G:List AV) (P:List (List Int)) (D:List Int) (L:List Lp) (s:AS) (GA PA LA S2 IA DA:Option Addr) (gc pc lc rc ic dn dc:Nat),task=(k:Int)∧Cv n cd AU sh lk k en G P∧XI w cd G P (.slice GA G.length gc) (.slice PA P.length pc) (.slice LA L.length lc) (.slice S2 G.length rc) (.slice IA G.length ic) (.slice DA dn dc) D L s∧e=.returned (.tuple #[.agg #[.slice GA G.length gc,.slice PA P.length pc],.slice LA L.length lc,.agg #[.slice S2 G.length rc,.slice IA G.length ic,.slice DA dn dc],.bool true])∧G.length≤ic∧ic≤maxLen:=by
 obtain⟨k,en,G,P,bv,pv,lv,rv,iv,dv,D,L,s,hk,hg,hA,he⟩:=h;obtain⟨A,c,hb,-,-⟩:=hA.Ou.slice;obtain⟨A',c',hp,-,-⟩:=hA.lls.slice;obtain⟨LA,lc,hl,-,-⟩:=hA.Si.slice;obtain⟨S2,rc,hr,-,-,-⟩:=id hA.Mv;obtain⟨IA,ic,hi,hi1,hi2⟩:=hA.Af;obtain⟨DA,dn,dc,hd⟩:=hA.dvs;rw [hA.l1] at hr;rw [hA.l2] at hi hi1;subst hb hp hl hr hi hd;exact⟨k,en,G,P,D,L,s,A,A',LA,S2,IA,DA,c,c',lc,rc,ic,dn,dc,hk,hg,hA,he,hi1,hi2⟩
theorem aam {A8:Int} {s:Rs} (h:(Ji A8 s).2=true):0<(Ji A8 s).1:=by
 unfold Ji at h ⊢;by_cases hr:A8<10∨13<A8
 ·rw [AE hr] at h
  cases h
 ·rw [A9 hr] at h ⊢
  simp only [EY,DK] at h;exact h.2.2
def aai (f:Int→Int×Bool) (q:Nat):Int×Bool:=((Fa.take (q - 10)).map f).foldl Ij (0,false)
def aaf (s:Int×Bool) (F:Int):Prop:=(s.2=true→F=s.1∧0<F)∧(s.2=false→F=0)
theorem aaj (f:Int→Int×Bool) {q:Nat} (h1:10≤q) (h2:q≤13):aai f (q+1)=Ij (aai f q) (f (q:Int)):=by
 obtain rfl|rfl|rfl|rfl:q=10∨q=11∨q=12∨q=13:=by omega
 all_goals rfl
theorem aan (f:Int→Int×Bool):aai f 14=(Fa.map f).foldl Ij (0,false):=rfl
theorem aaf.no {s x:Int×Bool} {F:Int} (h:aaf s F) (hx:x.2=false):aaf (Ij s x) F:=by
 unfold Ij;rw [A9 (by rw [hx];simp)];exact h
theorem aaf.take {s x:Int×Bool} {F:Int} (h:aaf s F) (hx:x.2=true) (hp:0<x.1) (hl:F=0∨x.1<F):aaf (Ij s x) x.1:=by
 unfold Ij;have hc:s.2=false∨x.1<s.1:=by
  cases hs:s.2 with
  | false=>exact .inl rfl
  | true=>
   obtain⟨h1,h2⟩:=h.1 hs;rw [←h1];exact .inr A0
 rw [AE ⟨hx,hc⟩];exact⟨fun _=>⟨rfl,hp⟩,fun h=>by cases h⟩
theorem aaf.keep {s x:Int×Bool} {F:Int} (h:aaf s F) (h0:F≠0) (hl:¬x.1<F):aaf (Ij s x) F:=by
 have hs:s.2=true:=by
  cases hs:s.2 with
  | true=>rfl
  | false=>exact absurd (h.2 hs) h0
 obtain⟨h1,h2⟩:=h.1 hs;unfold Ij;rw [A9 (fun h3=>h3.2.elim (fun e=>by rw [hs] at e;cases e) (fun e=>hl (by rw [h1];exact e)))];exact h
theorem aak {cd:Nat→Int} {G:List AV} {rl:List Bool} {L:List Lp} {i:Nat} {x:Lp} (h:L[i]?=some x) (acc:List Int):IL cd G rl (L.drop i) acc=if (P8 cd G rl x).2=true then IL cd G rl (L.drop (i+1)) (acc++[(P8 cd G rl x).1]) else .inr x.h:=by
 have hi:=(Bl.1 h).1;rw [iQ hi,(Bl.1 h).2];rfl
theorem aao {w:World} {r:List Int ⊕ Int} {e:Ending} (h:wF w r e):∃A ol oc at_ er,e=.returned (.tuple #[.slice A ol oc,.int .i64 at_,.int .i64 er])∧(∀out,r=.inl out→at_ = -1∧er=0∧Ints w (.slice A ol oc) out)∧(∀q,r=.inr q→at_=q∧er=16∧ol=0):=by
 cases r with
 | inl out=>
  obtain⟨ov,h1,h2⟩:=h;obtain⟨A,c,rfl,-,-⟩:=h2.slice;exact⟨A,out.length,c,-1,0,h1,fun o e1=>by cases e1;exact⟨rfl,rfl,h2⟩,fun q e1=>by cases e1⟩
 | inr q=>exact⟨none,0,0,q,16,h,⟨fun o e1=>(by cases e1),fun q' e1=>(by cases e1;exact⟨rfl,rfl,rfl⟩)⟩⟩
theorem aaq {cd:Nat→Int} {G:List AV} {rl:List Bool} {x:Lp} {f:Int→Int×Bool} {F:Int} (hf:Dr cd G x=f) (h:aaf (aai f 14) F) (hb:rl.getD x.h.toNat false=true):(F=0→(P8 cd G rl x).2=false)∧(F≠0→P8 cd G rl x=(F,true)):=by
 have e:P8 cd G rl x=aai f 14:=by unfold P8;rw [AE hb,hf,aan]
 rw [e];constructor
 ·intro h0
  cases hs:(aai f 14).2 with
  | false=>rfl
  | true=>have:=h.1 hs;omega
 ·intro h0
  cases hs:(aai f 14).2 with
  | false=>exact absurd (h.2 hs) h0
  | true=>exact Vf (h.1 hs).1.symm hs
theorem aau {cd:Nat→Int} {G:List AV} {rl:List Bool} {x:Lp} (hb:rl.getD x.h.toNat false=false):P8 cd G rl x=(0,true):=by
 unfold P8;rw [A9 (by rw [hb];simp)]
end Go.Proofs.YtlmgkipmfgijiaaGreatDoor
