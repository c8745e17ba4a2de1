/-
  What is proved here: parts rPl.
-/
import Derived.Test.YtlmgkipmfgijiaaGreatDoorVa
import Derived.Test.YtlmgkipmfgijiaaGreatDoorVs
import Derived.Test.YtlmgkipmfgijiaaGreatDoorVv
import Derived.Test.YtlmgkipmfgijiaaGreatDoorVw
import Derived.BigRegion
namespace Go.Proofs.YtlmgkipmfgijiaaGreatDoor
set_option linter.unusedVariables false
set_option linter.unusedSimpArgs false
set_option maxRecDepth 100000
set_option maxHeartbeats 8000000
open Go.RowKit
section
theorem an6 (w:World) (a b c d e:Array Value) (A B C D E:TypeId):∃V,((((w.alloc (.cells a A)).alloc (.cells b B)).alloc (.cells c C)).alloc (.cells d D)).alloc (.cells e E)=V∧V.heap[w.heap.size]?=some (.cells a A (0,0))∧V.heap[w.heap.size+1]?=some (.cells b B (0,0))∧V.heap[w.heap.size+2]?=some (.cells c C (0,0))∧V.heap[w.heap.size+3]?=some (.cells d D (0,0))∧V.heap[w.heap.size+4]?=some (.cells e E (0,0))∧Below w.heap.size w V∧w.heap.size+4<V.heap.size:=by
 refine⟨_,rfl,?_,?_,?_,?_,E4 _ _ AO,((((((AP _ _).alloc (AH _) _).alloc AO _).alloc S9 _).alloc S9 _).alloc S9 _),by simp⟩
 ·rw [Bb _ _ S9,Bb _ _ S9,Bb _ _ S9,Bb _ _ AO]
  exact Ai _ _
 ·rw [Bb _ _ S9,Bb _ _ S9,Bb _ _ AO]
  exact E4 _ _ AO
 ·rw [Bb _ _ S9,Bb _ _ AO]
  exact E4 _ _ AO
 ·rw [Bb _ _ AO]
  exact E4 _ _ AO
structure SQ (w V:World) (q:Nat) (o:Obj) (w':World):Prop where
 kp:F4 w V w' q
 at_:w'.heap[q]?=some o
theorem SQ.drew {w V w':World} {q:Nat} {o:Obj} (h:SQ w V q o w'):SQ w V q o w'.drew:=⟨h.kp.drew,h.at_⟩
theorem SQ.below {w V w' w'':World} {q:Nat} {o:Obj} (h:SQ w V q o w') (hb:Below w'.heap.size w' w''):SQ w V q o w'':=⟨h.kp.below hb,(hb.block q (BR h.at_)).trans h.at_⟩
theorem SQ.grown {w V w' w'':World} {q:Nat} {o:Obj} {row:Option Nat} (h:SQ w V q o w') (g:w'.grownBy w'' row) (hr:∀x,row=some x→V.heap.size≤x) (hw:w.heap.size≤V.heap.size) (hq:q<V.heap.size):SQ w V q o w'':=
 ⟨h.kp.grown g hr hw,(g.block q (BR h.at_) (fun e=>by have:=hr q e.symm;omega)).trans h.at_⟩
structure Two (B:Nat) (W:World) (u v:Value) (n m:Nat) (xs ys:List Value):Prop where
 hu:W.ownsRow B 3 1 u n xs
 hv:W.ownsRow B 3 1 v m ys
 ne:∀q,u.ownBlock=some q→v.ownBlock≠some q
theorem Two.symm {B:Nat} {W:World} {u v:Value} {n m:Nat} {xs ys:List Value} (h:Two B W u v n m xs ys):Two B W v u m n ys xs:=⟨h.hv,h.hu,fun q e1 e2=>h.ne q e2 e1⟩
theorem Two.below {B:Nat} {W W':World} {u v:Value} {n m:Nat} {xs ys:List Value} (h:Two B W u v n m xs ys) (hb:Below W.heap.size W W'):Two B W' u v n m xs ys:=⟨CH h.hu hb,CH h.hv hb,h.ne⟩
theorem Two.app {B:Nat} {W W':World} {u v u':Value} {n m n':Nat} {xs ys xs':List Value} (h:Two B W u v n m xs ys) (ho:W'.ownsRow B 3 1 u' n' xs') (hg:W.grownBy W' u.ownBlock) (hb:u'.ownBlock=u.ownBlock∨u'.ownBlock=some W.heap.size):Two B W' u' v n' m xs' ys:=by
 refine⟨ho,h.hv.kept hg ?_,fun q e1 e2=>?_⟩
 ·cases hv:v.ownBlock with
  | none=>exact .inl rfl
  | some q=>exact .inr (fun e=>h.ne q e.symm hv)
 ·rcases hb with hb|hb
  ·exact h.ne q (hb▸e1) e2
  ·have:=h.hv.lt q e2
   rw [hb] at e1;cases e1;omega
theorem ij {B B' e e' s s' n m:Nat} {W W':World} {u v:Value} {xs ys:List Value} (h:W.ownsRow B e s v n xs) (k:W.ownsRow B' e' s' u m ys) (he:e≠e') (hg:W.grownBy W' u.ownBlock):W'.ownsRow B e s v n xs:=h.kept hg (by
 cases hv:v.ownBlock with
 | none=>exact .inl rfl
 | some q=>
  refine .inr fun e1=>?_;obtain⟨cs,h1⟩:=JK h hv;obtain⟨cs',h2⟩:=JK k e1.symm
  exact Ct h1 h2 he rfl)
theorem Y7 {w:World} {b o:Nat} {cs:Array Value} {T:TypeId} {v:Value} (h:w.heap[b]?=some (.cells cs T (0,0))):(w.setCell ⟨b,o,none⟩ v).heap[b]?=some (.cells (cs.setIfInBounds o v) T (0,0)):=by
 simp [World.setCell,Array.getElem?_modify,h]
theorem Gb {w:World} {b:Nat} {a c d:Value} {t:TypeId} (h:w.heap[b]?=some (.cells #[a,c,d] t (0,0))):w.cell? ⟨b,0,none⟩=some a∧w.cell? ⟨b,1,none⟩=some c∧w.cell? ⟨b,2,none⟩=some d∧w.frozen? ⟨b,0,none⟩=false∧w.frozen? ⟨b,1,none⟩=false∧w.frozen? ⟨b,2,none⟩=false:=
 ⟨by simp [World.cell?,h],by simp [World.cell?,h],by simp [World.cell?,h],by simp [World.frozen?,h],by simp [World.frozen?,h],by simp [World.frozen?,h]⟩
theorem fQ {w:World} {q:Nat} {a b c x y z:Value} {T:TypeId} (h:w.heap[q]?=some (.cells #[a,b,c] T (0,0))) :
  w.cell? ⟨q,0,none⟩=some a∧w.frozen? ⟨q,0,none⟩=false∧(w.setCell ⟨q,0,none⟩ x).cell? ⟨q,1,none⟩=some b∧(w.setCell ⟨q,0,none⟩ x).frozen? ⟨q,1,none⟩=false∧((w.setCell ⟨q,0,none⟩ x).setCell ⟨q,1,none⟩ y).cell? ⟨q,2,none⟩=some c∧((w.setCell ⟨q,0,none⟩ x).setCell ⟨q,1,none⟩ y).frozen? ⟨q,2,none⟩=false∧(((w.setCell ⟨q,0,none⟩ x).setCell ⟨q,1,none⟩ y).setCell ⟨q,2,none⟩ z).heap[q]?=some (.cells #[x,y,z] T (0,0)):=by
 have h1:(w.setCell ⟨q,0,none⟩ x).heap[q]?=some (.cells #[x,b,c] T (0,0)):=Y7 h;have h2:((w.setCell ⟨q,0,none⟩ x).setCell ⟨q,1,none⟩ y).heap[q]?=some (.cells #[x,y,c] T (0,0)):=Y7 h1;exact⟨(Gb h).1,(Gb h).2.2.2.1,(Gb h1).2.1,(Gb h1).2.2.2.2.1,(Gb h2).2.2.1,(Gb h2).2.2.2.2.2,Y7 h2⟩
theorem Zt {w:World} {q b:Nat} {x y z:Value} (h:b≠q):(((w.setCell ⟨q,0,none⟩ x).setCell ⟨q,1,none⟩ y).setCell ⟨q,2,none⟩ z).heap[b]?=w.heap[b]?:=by
 rw [BL _ _ _ _ (by show b≠q;exact h),BL _ _ _ _ (by show b≠q;exact h),BL _ _ _ _ (by show b≠q;exact h)]
theorem VU {w w':World} {B:Nat} {e:TypeId} {s n:Nat} {v:Value} {xs:List Value} (h:w.ownsRow B e s v n xs) (hb:∀b,B≤b→b<w.heap.size→w'.heap[b]?=w.heap[b]?):w'.ownsRow B e s v n xs:=by
 refine⟨h.1,?_⟩;rcases h.2 with h0|⟨g,cap,cur,e1,h1,h2,h3⟩
 ·exact .inl h0
 ·exact .inr ⟨g,cap,cur,e1,h1,(hb g h1 (BR h2)).trans h2,h3⟩
theorem ami {P:Program} {fn:Func} {a u:Tmp} {ty tz:TypeId} (h:fn.results=#[.cell a ty,.cell u tz]) (tmps:Array Value) (w:World) (b c:Nat) (cs ds:List Value) (d d':TypeDesc) (ha:tmps.getD a undef=.pointer (some ⟨b,0,none⟩)) (hu':tmps.getD u undef=.pointer (some ⟨c,0,none⟩)) (hc:w.rangeAt b 0 cs) (hd':w.rangeAt c 0 ds)
  (hu:P.underlying ty=some d) (hd:d.isRow=true) (hi:(P.info? ty).map (·.size)=some cs.length) (hu2:P.underlying tz=some d') (hd2:d'.isRow=true) (hi2:(P.info? tz).map (·.size)=some ds.length):(results fn tmps).run P w=.ok (.tuple #[.agg cs.toArray,.agg ds.toArray]) w:=by
 have h1:=WT (P:=P) w b 0 ty cs d hc hu hd hi;have h2:=WT (P:=P) w c 0 tz ds d' hd' hu2 hd2 hi2;simp only [results,h];simp only [ng,bC,jl,ha,hu',PI,Zy,TE,Z6,h1,h2,Sem.run_map,pure_bind,bind_pure];simp [h1,h2,TE]
theorem SQ.put {w V w':World} {q o:Nat} {cs:Array Value} {T:TypeId} {v:Value} (h:SQ w V q (.cells cs T (0,0)) w') (hq:w.heap.size≤q):SQ w V q (.cells (cs.setIfInBounds o v) T (0,0)) (w'.setCell ⟨q,o,none⟩ v):=⟨h.kp.set hq o v,Y7 h.at_⟩
theorem Two.put {B:Nat} {W:World} {u v:Value} {n m:Nat} {xs ys:List Value} (h:Two B W u v n m xs ys) {q o:Nat} (hq:q<B) (y:Value):Two B (W.setCell ⟨q,o,none⟩ y) u v n m xs ys:=⟨sQ h.hu hq y,sQ h.hv hq y,h.ne⟩
theorem Od {W:World} {z:Nat} {v:Value} {T:TypeId} (h:W.heap[z]?=some (.cells #[v] T (0,0))):∀j u,[v][j]?=some u→W.cell? ((⟨z,0,none⟩:Addr).add j)=some u:=fun j u hj=>by
 match j,hj with
 | 0,hj=>
  cases hj;simp [Addr.add,World.cell?,h]
theorem apz {W:World} {B n:Nat} {v:Value} {sl:List Value} {L:List (List Int)} (h:W.ownsRow B 38 1 v n sl) (hL:L.length=n) (hl:sl.length=n) (hn:n≤5000) (hI:∀(i:Nat) (x:List Int) (u:Value),L[i]?=some x→sl[i]?=some u→Ints W u x):CO W v L:=by
 subst hL;rcases h.2 with⟨rfl,h0⟩|⟨g,cap,cur,rfl,_,hg,h1,h2,h3,h4⟩
 ·exact⟨none,0,by rw [h0],by omega,by unfold maxLen;omega,fun h=>by omega⟩
 ·refine⟨_,cap,rfl,h1,?_,fun _=>⟨g,0,rfl,BR hg,fun i x hx=>?_⟩⟩
  ·exact h2
  ·have hi:=(Bl.1 hx).1
   have e1:sl[i]?=some (sl[i]'A0):=Aj _;refine⟨sl[i]'A0,?_,hI i x _ hx e1⟩;rw [EU,h.cellAt i A0];exact e1
theorem oT {α:Type} (f:AV→α) {G:List AV} {j:Nat} {x:AV} (h:G[j]?=some x):(G.take (j+1)).map f=(G.take j).map f++[f x]:=by
 rw [G4,h,Nx];rfl
theorem Mw {w V w':World} {q2 q6 b off j:Nat} {fv tv nv c e1 e2 e3:Value} {T:TypeId} (h:SQ w V q6 (.cells #[fv,tv,nv] T (0,0)) w') (l2:q2<V.heap.size) (n26:q2≠q6) (c20:V.cell? ⟨q2,0,none⟩=some c) (lb:b<V.heap.size) (nb:b≠q6) (d:V.cell? ⟨b,off+j*3,none⟩=some e1∧V.cell? ⟨b,off+j*3+1,none⟩=some e2∧V.cell? ⟨b,off+j*3+2,none⟩=some e3) :
  w'.cell? ⟨q6,0,none⟩=some fv∧w'.cell? ⟨q6,1,none⟩=some tv∧w'.cell? ⟨q6,2,none⟩=some nv∧w'.cell? ⟨q2,0,none⟩=some c∧w'.cell? ⟨b,off+j*3,none⟩=some e1∧w'.cell? ⟨b,off+j*3+1,none⟩=some e2∧w'.cell? ⟨b,off+j*3+2,none⟩=some e3∧q2<w'.heap.size∧b<w'.heap.size∧q6<w'.heap.size:=
 ⟨(Gb h.at_).1,(Gb h.at_).2.1,(Gb h.at_).2.2.1,(h.kp.cell l2 n26).trans c20,(h.kp.cell lb nb).trans d.1,(h.kp.cell lb nb).trans d.2.1,(h.kp.cell lb nb).trans d.2.2,Cq l2 h.kp.sz,Cq lb h.kp.sz,BR h.at_⟩
structure PS (w V:World) (q6:Nat) (o:Obj) (D:World) (u v y:Value) (nu nv ny:Nat) (xu xv xy:List Value):Prop where
 sq:SQ w V q6 o D
 tw:Two V.heap.size D u v nu nv xu xv
 yr:D.ownsRow V.heap.size 38 1 y ny xy
section
variable {w V D D':World} {q6:Nat} {o o':Obj} {u v y u':Value} {nu nv ny m:Nat} {xu xv xy xs:List Value}
theorem PS.alloc (h:PS w V q6 o D u v y nu nv ny xu xv xy) (x:Obj):∃z D',D.heap.size=z∧D.alloc x=D'∧D'.heap[z]?=some x∧PS w V q6 o D' u v y nu nv ny xu xv xy∧((∀q,u.ownBlock=some q→q<z)∧(∀q,v.ownBlock=some q→q<z)∧(∀q,y.ownBlock=some q→q<z))∧∀(b:Nat) (c:Obj),D.heap[b]?=some c→D'.heap[b]?=some c:=by
 have hb:Below D.heap.size D (D.alloc x):=(AP _ _).alloc (AH _) _;exact⟨_,_,rfl,rfl,Ai _ _,⟨h.sq.below hb,h.tw.below hb,CH h.yr hb⟩,⟨fun q hq=>(h.tw.hu.lt q hq).2,fun q hq=>(h.tw.hv.lt q hq).2,fun q hq=>(h.yr.lt q hq).2⟩,fun b c hc=>(hb.block b (BR hc)).trans hc⟩
theorem PS.SK (h:PS w V q6 o D u v y nu nv ny xu xv xy) (ho:D'.ownsRow V.heap.size 3 1 u' m xs) (hg:D.grownBy D' u.ownBlock) (hb:u'.ownBlock=u.ownBlock∨u'.ownBlock=some D.heap.size) (hw:w.heap.size≤V.heap.size) (hq:q6<V.heap.size):PS w V q6 o D' u' v y m nv ny xs xv xy:=
 ⟨h.sq.grown hg (fun x hx=>(h.tw.hu.lt x hx).1) hw hq,h.tw.app ho hg hb,ij h.yr h.tw.hu AK hg⟩
theorem PS.symm (h:PS w V q6 o D u v y nu nv ny xu xv xy):PS w V q6 o D v u y nv nu ny xv xu xy:=⟨h.sq,h.tw.symm,h.yr⟩
theorem PS.rB (h:PS w V q6 o D u v y nu nv ny xu xv xy) (ho:D'.ownsRow V.heap.size 38 1 u' m xs) (hg:D.grownBy D' y.ownBlock) (hw:w.heap.size≤V.heap.size) (hq:q6<V.heap.size):PS w V q6 o D' u v u' nu nv m xu xv xs:=
 ⟨h.sq.grown hg (fun x hx=>(h.yr.lt x hx).1) hw hq,⟨ij h.tw.hu h.yr AK hg,ij h.tw.hv h.yr AK hg,h.tw.ne⟩,ho⟩
theorem PS.drew (h:PS w V q6 o D u v y nu nv ny xu xv xy):PS w V q6 o D.drew u v y nu nv ny xu xv xy:=⟨h.sq.drew,h.tw.below (AP _ _).drew,CH h.yr (AP _ _).drew⟩
theorem PS.put {cs:Array Value} {T:TypeId} {t:Value} {i:Nat} (h:PS w V q6 (.cells cs T (0,0)) D u v y nu nv ny xu xv xy) (hq:w.heap.size≤q6) (l6:q6<V.heap.size):PS w V q6 (.cells (cs.setIfInBounds i t) T (0,0)) (D.setCell ⟨q6,i,none⟩ t) u v y nu nv ny xu xv xy:=⟨h.sq.put hq,h.tw.put l6 t,sQ h.yr l6 t⟩
theorem aU {row:Option Nat} {z:Nat} {c:Obj} (hg:D.grownBy D' row) (h:D.heap[z]?=some c) (hm:∀q,row=some q→q<z):D'.heap[z]?=some c:=(hg.block z (BR h) (fun e=>by have:=hm z e.symm;omega)).trans h
end
structure Gs (B:Nat) (w0 W:World) (G:List AV) (gn:Nat) (fv tv nv:Value):Prop where
 f:W.ownsRow B 3 1 fv gn (Av (G.map (·.lo)))
 t:W.ownsRow B 3 1 tv gn (Av (G.map (·.hi)))
 n:∃sl,W.ownsRow B 38 1 nv gn sl∧sl.length=gn∧∀(i:Nat) (x:AV) (u:Value),G[i]?=some x→sl[i]?=some u→Ints w0 u x.nx
theorem Gs.same {B:Nat} {w0 W W':World} {G:List AV} {gn:Nat} {fv tv nv:Value} (h:Gs B w0 W G gn fv tv nv) (hb:∀b,B≤b→b<W.heap.size→W'.heap[b]?=W.heap[b]?):Gs B w0 W' G gn fv tv nv:=by
 obtain⟨sl,h1,h2,h3⟩:=h.n;exact⟨VU h.f hb,VU h.t hb,sl,VU h1 hb,h2,h3⟩
theorem Gs.out {B:Nat} {w0 W:World} {G:List AV} {gn:Nat} {fv tv nv:Value} (h:Gs B w0 W G gn fv tv nv) (hG:G.length=gn) (hg5:gn≤5000) (hb:Below w0.heap.size w0 W):Ints W fv (G.map (·.lo))∧Ints W tv (G.map (·.hi))∧CO W nv (G.map (·.nx)):=by
 obtain⟨sl,h1,h2,h3⟩:=h.n;refine⟨MF (l:=G.map (·.lo)) (by rw [ED,hG];exact h.f),MF (l:=G.map (·.hi)) (by rw [ED,hG];exact h.t),apz (L:=G.map (·.nx)) h1 (by rw [ED];exact hG) h2 hg5 (fun i y u h4 h5=>?_)⟩;rw [Cr] at h4;obtain⟨z,hz,rfl⟩:=jE.1 h4;exact (h3 i z u hz h5).below hb
theorem zz (bv pv:Value) (G:List AV) (P:List (List Int)) (gn:Nat) (x:Lp) (p:Int) (BA CA:Option Addr) (bn bc cn cc:Nat) (w0 w:World) (h0w:Below w0.heap.size w0 w) (HG:Dc w0 bv G) (HP:CO w0 pv P) (hG:G.length=gn) (hg5:gn≤5000) :
  Calls Tryz.prog 14 #[.agg #[bv,pv],.agg #[.int .i64 x.h,.slice BA bn bc,.slice CA cn cc,.int .i64 p]] w fun e w'=>(∃FA TA NA fc tc nc,e=.returned (.tuple #[.agg #[.slice FA gn fc,.slice TA gn tc,.slice NA gn nc],.agg #[.int .i64 x.h,.slice BA bn bc,.slice CA cn cc]])∧Gs w.heap.size w0 w' G gn (.slice FA gn fc) (.slice TA gn tc) (.slice NA gn nc))∧Below w.heap.size w w':=by
 obtain⟨A,cap,rfl,h1,h2⟩:=HG.slice;have HGA:=A3 HG;obtain⟨PA,pc,rfl,-,-⟩:=HP.slice;obtain⟨pn,Gz⟩:∃m,P.length=m:=⟨_,rfl⟩;rw [Gz] at HP ⊢;rw [hG] at h1 HG ⊢;obtain⟨V,hV,k2,k3,k4,k5,k6,bV,sV⟩:=an6 w #[.slice A gn cap,.slice PA pn pc] #[.int .i64 x.h,.slice BA bn bc,.slice CA cn cc,.int .i64 p] #[.slice none 0 0,.slice none 0 0,.slice none 0 0] #[.int .i64 0,.slice none 0 0,.slice none 0 0] #[.slice none 0 0,.slice none 0 0,.slice none 0 0] 31 46 40 42 40;obtain⟨q2,hq2⟩:∃q,w.heap.size=q:=⟨_,rfl⟩;obtain⟨q3,hq3⟩:∃q,q2+1=q:=⟨_,rfl⟩;obtain⟨q4,hq4⟩:∃q,q3+1=q:=⟨_,rfl⟩;obtain⟨q5,hq5⟩:∃q,q4+1=q:=⟨_,rfl⟩;obtain⟨q6,hq6⟩:∃q,q5+1=q:=⟨_,rfl⟩;rw [hq2] at k2;rw [hq2,hq3] at k3;rw [show w.heap.size+2=q4 by omega] at k4;rw [show w.heap.size+3=q5 by omega] at k5;rw [show w.heap.size+4=q6 by omega] at k6;have BV:=A3 bV;have H0W:=A3 h0w;have Qg:=A3 hG;have K2:=A3 k2;have K3:=A3 k3;have K4:=A3 k4;have K5:=A3 k5;have K6:=A3 k6;have l2:q2<V.heap.size:=BR k2;have l3:q3<V.heap.size:=BR k3;have l6:q6<V.heap.size:=BR k6;clear HG HP h0w hG bV k2 k3 k4 k5 k6 sV Gz;go_enter Tryz.func14,Tryz.ntmps14;go_upto_region 2 with fail;clear hV;have LQ:=A3 (Dt hq3 (Dt hq4 (Dt hq5 hq6)));have HW2:=A3 hq2;have fS:=A3 (show w.heap.size≤q6 by omega);have HVD:=A3 (AH V.heap.size);clear hq2 hq3 hq4 hq5 hq6;go_wp2_with fail;go_loopw [7] (fun a7 wr=>∃(j:Nat) (fv tv nv:Value) (sl:List Value),j≤gn∧a7=.int .i64 (j:Int)∧PS w V q6 (.cells #[fv,tv,nv] 40 (0,0)) wr fv tv nv j j j (Av ((G.take j).map (·.lo))) (Av ((G.take j).map (·.hi))) sl∧(∀(i:Nat) (x:AV) (u:Value),G[i]?=some x→sl[i]?=some u→Ints w0 u x.nx)) (fun a7 _=>gn - (intOf a7).toNat);case atStart=>exact⟨0,.slice none 0 0,.slice none 0 0,.slice none 0 0,[],by omega,rfl,⟨⟨F4.start BV.out,K6.out⟩,⟨JV _ _ _ _,JV _ _ _ _,fun q h=>by simp [Value.ownBlock] at h⟩,JV _ _ _ _⟩,fun i x u _ h=>by simp at h⟩
 case round=>
  obtain⟨j,fv,tv,nv,sl,hj,rfl,hps,hI⟩:=hrel;obtain⟨w7,hw7⟩:∃E:World,E=wr:=⟨_,rfl⟩;subst hw7;have HS:=A3 hps;have hq:=hps.sq;have HI:=A3 hI;have n26:q2≠q6:=by have:=LQ.out;omega
  have c20:V.cell? ⟨q2,0,none⟩=some (.slice A gn cap):=by simp [World.cell?,K2.out]
  have s20:=(hq.kp.cell (o:=0) l2 n26).trans c20;have l27:q2<w7.heap.size:=by have:=hq.kp.sz;omega
  have l67:q6<w7.heap.size:=BR hq.at_;clear hq hps hI;by_cases hlt:j<gn
  ·have dl:decide ((j:Int)<(gn:Int))=true:=AR A0
   have di:(j:Int)<(gn:Int):=by omega
   obtain⟨x,nvx,b,off,hx,hA,CV,d0,d1,d2,BJ⟩:=Dc.at_ HGA.out (H0W.out.trans (BV.out.mono H0W.out.size)) (j:=j) (by rw [Qg.out];exact hlt);obtain⟨nA,nC,QG⟩:∃A c,nvx=.slice A x.nx.length c:=by obtain⟨A',c',e,_⟩:=BJ;exact⟨A',c',e⟩
   subst QG;have HX:=A3 hx;have Cw:=A3 BJ;have lb:b<V.heap.size:=by have:=BV.out.size;have:=H0W.out.size;omega
   have nb6:b≠q6:=by have:=fS.out;have:=H0W.out.size;omega
   have HE1:=A3 (oT (·.lo) hx);have HE2:=A3 (oT (·.hi) hx);have HD:=A3 (Dt d0 (Dt d1 d2));have Md:=A3 c20;have HSA:=A3 hA;obtain⟨iI,E5,E7,DT,Dw⟩:=D5 NQ;obtain⟨iS,hiS,Es,hS1,hS2⟩:=D5 jM;have Dp:=A3 (Dt E5 (Dt E7 (Dt DT Dw)));have HIS:=A3 (Dt hiS (Dt Es (Dt hS1 hS2)));subst hA;clear hx BJ E5 E7 DT Dw hiS Es hS1 hS2;go_upto_region 5 with fail;go_cut [7] from 15 to 36 (fun a7 W=>a7=.int .i64 (j:Int)∧∃fv' tv',PS w V q6 (.cells #[fv',tv',nv] 40 (0,0)) W fv' tv' nv (j+1) (j+1) j (Av ((G.take (j+1)).map (·.lo))) (Av ((G.take (j+1)).map (·.hi))) sl)
   case first=>
    clear s20;refine wR (S:=fun w'=>SQ w V q6 (.cells #[fv,tv,nv] 40 (0,0)) w') 21 A6 A6 HS.out.sq.drew (fun _=>?_);have S0:=A3 HS.out.drew;obtain⟨D0,Eo⟩:∃D,w7.drew=D:=⟨_,rfl⟩;rw [Eo] at S0 ⊢;clear Eo;refine wt 0 (v:=?_) ?_ ?_;rotate_left
    ·intro w' hSw
     clear hSw;go_simp
     (try with_reducible rfl)
    (try simp only [AX,Ad,Ac,Act.put,AW,Ab,AY]);refine wt 1 (v:=?_) ?_ ?_;rotate_left
    ·intro w' hSw
     obtain⟨z0,z1,z2,s0,s1,s2,s3,t2,tb,t6⟩:=Mw hSw l2 n26 Md.out lb nb6 HD.out;clear hSw;go_simp
     (try with_reducible rfl)
    (try simp only [AX,Ad,Ac,Act.put,AW,Ab,AY]);refine wt 2 (v:=?_) ?_ ?_;rotate_left
    ·intro w' hSw
     clear hSw;go_simp
     (try with_reducible rfl)
    (try simp only [AX,Ad,Ac,Act.put,AW,Ab,AY]);refine wt 3 (v:=?_) ?_ ?_;rotate_left
    ·intro w' hSw
     obtain⟨z0,z1,z2,s0,s1,s2,s3,t2,tb,t6⟩:=Mw hSw l2 n26 Md.out lb nb6 HD.out;clear hSw;go_simp
     (try with_reducible rfl)
    (try simp only [AX,Ad,Ac,Act.put,AW,Ab,AY]);refine wt 4 (v:=?_) ?_ ?_;rotate_left
    ·intro w' hSw
     clear hSw;go_simp
     (try with_reducible rfl)
    (try simp only [AX,Ad,Ac,Act.put,AW,Ab,AY]);refine wt 5 (v:=?_) ?_ ?_;rotate_left
    ·intro w' hSw
     obtain⟨z0,z1,z2,s0,s1,s2,s3,t2,tb,t6⟩:=Mw hSw l2 n26 Md.out lb nb6 HD.out;clear hSw;go_simp
     (try with_reducible rfl)
    (try simp only [AX,Ad,Ac,Act.put,AW,Ab,AY]);refine wt 6 (v:=?_) ?_ ?_;rotate_left
    ·intro w' hSw
     clear hSw;go_simp
     (try with_reducible rfl)
    (try simp only [AX,Ad,Ac,Act.put,AW,Ab,AY]);refine wt 7 (v:=?_) ?_ ?_;rotate_left
    ·intro w' hSw
     obtain⟨z0,z1,z2,s0,s1,s2,s3,t2,tb,t6⟩:=Mw hSw l2 n26 Md.out lb nb6 HD.out;clear hSw;go_simp
     (try with_reducible rfl)
    (try simp only [AX,Ad,Ac,Act.put,AW,Ab,AY]);refine wt 10 (v:=?_) ?_ ?_;rotate_left
    ·intro w' hSw
     clear hSw;go_simp
     (try with_reducible rfl)
    (try simp only [AX,Ad,Ac,Act.put,AW,Ab,AY]);refine wt 11 (v:=?_) ?_ ?_;rotate_left
    ·intro w' hSw
     obtain⟨z0,z1,z2,s0,s1,s2,s3,t2,tb,t6⟩:=Mw hSw l2 n26 Md.out lb nb6 HD.out;clear hSw;go_simp
     (try with_reducible rfl)
    (try simp only [AX,Ad,Ac,Act.put,AW,Ab,AY]);refine wt 12 (v:=?_) ?_ ?_;rotate_left
    ·intro w' hSw
     clear hSw;go_simp
     (try with_reducible rfl)
    (try simp only [AX,Ad,Ac,Act.put,AW,Ab,AY]);refine wt 13 (v:=?_) ?_ ?_;rotate_left
    ·intro w' hSw
     obtain⟨z0,z1,z2,s0,s1,s2,s3,t2,tb,t6⟩:=Mw hSw l2 n26 Md.out lb nb6 HD.out;clear hSw;go_simp
     (try with_reducible rfl)
    (try simp only [AX,Ad,Ac,Act.put,AW,Ab,AY]);refine wt 14 (v:=?_) ?_ ?_;rotate_left
    ·intro w' hSw
     clear hSw;go_simp
     (try with_reducible rfl)
    (try simp only [AX,Ad,Ac,Act.put,AW,Ab,AY]);refine wt 15 (v:=?_) ?_ ?_;rotate_left
    ·intro w' hSw
     obtain⟨z0,z1,z2,s0,s1,s2,s3,t2,tb,t6⟩:=Mw hSw l2 n26 Md.out lb nb6 HD.out;clear hSw;go_simp
     (try with_reducible rfl)
    (try simp only [AX,Ad,Ac,Act.put,AW,Ab,AY]);refine wt 16 (v:=?_) ?_ ?_;rotate_left
    ·intro w' hSw
     clear hSw;go_simp
     (try with_reducible rfl)
    (try simp only [AX,Ad,Ac,Act.put,AW,Ab,AY]);refine wt 17 (v:=?_) ?_ ?_;rotate_left
    ·intro w' hSw
     obtain⟨z0,z1,z2,s0,s1,s2,s3,t2,tb,t6⟩:=Mw hSw l2 n26 Md.out lb nb6 HD.out;clear hSw;go_simp
     (try with_reducible rfl)
    (try simp only [AX,Ad,Ac,Act.put,AW,Ab,AY]);refine Ra (rs:=[8,18]) Ku AO A6 (FY.cons (o:=_) rfl (fun K hK=>?_) (FY.cons (o:=_) rfl (fun K hK=>?_) FY.nil));all_goals first
     | (go_simp;obtain⟨z8,D8,e1,e2,k8,S1,m8,go⟩:=PS.alloc S0.out (.cells #[.int .i64 x.lo] 3);rw [e2,e1];have k8:=A3 k8;have m8:=A3 m8;(try have k18:=A3 (go _ _ k18.out));clear e1 e2 go)
     | (go_simp;obtain⟨z18,D18,e1,e2,k18,S1,m18,go⟩:=PS.alloc S0.out (.cells #[.int .i64 x.hi] 3);rw [e2,e1];have k18:=A3 k18;have m18:=A3 m18;(try have k8:=A3 (go _ _ k8.out));clear e1 e2 go)
     | (refine M6 rfl (.tmp 16) (.tmp 23) 38 rfl V.heap.size 3 iI (.int .i64 0) 1 8 Ey Dp.out.1 Dp.out.2.1 Dp.out.2.2.1 Dp.out.2.2.2 rfl AK fv j (Av ((G.take j).map (·.lo))) F8 S0.out.tw.hu ⟨z8,0,none⟩ 1 1 [.int .i64 x.lo] F8 rfl (Od k8.out) BS Bc A0 S0.out.sq.kp.sz ?_;intro v1 DA hown hgrow hat;obtain⟨gu,cu,rfl⟩:=GI hown;have S1:=S0.out.SK hown hgrow hat BV.out.size l6;(try have k18:=A3 (aU hgrow k18.out m18.out.1));clear hown hgrow hat)
     | (refine M6 rfl (.tmp 26) (.tmp 33) 38 rfl V.heap.size 3 iI (.int .i64 0) 1 8 Ey Dp.out.1 Dp.out.2.1 Dp.out.2.2.1 Dp.out.2.2.2 rfl AK tv j (Av ((G.take j).map (·.hi))) F8 S0.out.tw.hv ⟨z18,0,none⟩ 1 1 [.int .i64 x.hi] F8 rfl (Od k18.out) BS Bc A0 S0.out.sq.kp.sz ?_;intro v1 DA hown hgrow hat;obtain⟨gv,cv,rfl⟩:=GI hown;have S1:=(S0.out.symm.SK hown hgrow hat BV.out.size l6).symm;clear hown hgrow hat)
    all_goals
     have S1:=A3 S1;refine hK.out _ _ S1.out.sq ?_;clear hK K S0;have S0:=S1;clear S1;(try simp only [AX,Ad,Ac,Act.put,AW,Ab,AY]);(try (refine wt 20 (v:=?_) (hr:=by decide +kernel) ?_ ?_;rotate_left;(focus (intro w' hSw;clear hSw;go_simp;(try with_reducible rfl)));(try simp only [AX,Ad,Ac,Act.put,AW,Ab,AY])))
    all_goals first
     | (refine Ra (rs:=[9,18]) Ku AO A6 (FY.cons (o:=_) rfl (fun K hK=>?_) (FY.cons (o:=_) rfl (fun K hK=>?_) FY.nil)))
     | (refine Ra (rs:=[8]) Ku AO A6 (FY.cons (o:=_) rfl (fun K hK=>?_) FY.nil))
    all_goals first
     | (go_simp;obtain⟨z8,D8,e1,e2,k8,S1,m8,go⟩:=PS.alloc S0.out (.cells #[.int .i64 x.lo] 3);rw [e2,e1];have k8:=A3 k8;have m8:=A3 m8;(try have k18:=A3 (go _ _ k18.out));clear e1 e2 go)
     | (go_simp;obtain⟨z18,D18,e1,e2,k18,S1,m18,go⟩:=PS.alloc S0.out (.cells #[.int .i64 x.hi] 3);rw [e2,e1];have k18:=A3 k18;have m18:=A3 m18;(try have k8:=A3 (go _ _ k8.out));clear e1 e2 go)
     | (refine M6 rfl (.tmp 16) (.tmp 23) 38 rfl V.heap.size 3 iI (.int .i64 0) 1 8 Ey Dp.out.1 Dp.out.2.1 Dp.out.2.2.1 Dp.out.2.2.2 rfl AK fv j (Av ((G.take j).map (·.lo))) F8 S0.out.tw.hu ⟨z8,0,none⟩ 1 1 [.int .i64 x.lo] F8 rfl (Od k8.out) BS Bc A0 S0.out.sq.kp.sz ?_;intro v1 DA hown hgrow hat;obtain⟨gu,cu,rfl⟩:=GI hown;have S1:=S0.out.SK hown hgrow hat BV.out.size l6;(try have k18:=A3 (aU hgrow k18.out m18.out.1));clear hown hgrow hat)
     | (refine M6 rfl (.tmp 26) (.tmp 33) 38 rfl V.heap.size 3 iI (.int .i64 0) 1 8 Ey Dp.out.1 Dp.out.2.1 Dp.out.2.2.1 Dp.out.2.2.2 rfl AK tv j (Av ((G.take j).map (·.hi))) F8 S0.out.tw.hv ⟨z18,0,none⟩ 1 1 [.int .i64 x.hi] F8 rfl (Od k18.out) BS Bc A0 S0.out.sq.kp.sz ?_;intro v1 DA hown hgrow hat;obtain⟨gv,cv,rfl⟩:=GI hown;have S1:=(S0.out.symm.SK hown hgrow hat BV.out.size l6).symm;clear hown hgrow hat)
    all_goals
     have S1:=A3 S1;refine hK.out _ _ S1.out.sq ?_;clear hK K S0;have S0:=S1;clear S1;(try simp only [AX,Ad,Ac,Act.put,AW,Ab,AY]);(try (refine wt 20 (v:=?_) (hr:=by decide +kernel) ?_ ?_;rotate_left;(focus (intro w' hSw;clear hSw;go_simp;(try with_reducible rfl)));(try simp only [AX,Ad,Ac,Act.put,AW,Ab,AY])))
    all_goals first
     | (refine Ra (rs:=[18]) Ku AO A6 (FY.cons (o:=_) rfl (fun K hK=>?_) FY.nil))
     | (refine Ra (rs:=[9]) Ku AO A6 (FY.cons (o:=_) rfl (fun K hK=>?_) FY.nil))
    all_goals first
     | (go_simp;obtain⟨z8,D8,e1,e2,k8,S1,m8,go⟩:=PS.alloc S0.out (.cells #[.int .i64 x.lo] 3);rw [e2,e1];have k8:=A3 k8;have m8:=A3 m8;(try have k18:=A3 (go _ _ k18.out));clear e1 e2 go)
     | (go_simp;obtain⟨z18,D18,e1,e2,k18,S1,m18,go⟩:=PS.alloc S0.out (.cells #[.int .i64 x.hi] 3);rw [e2,e1];have k18:=A3 k18;have m18:=A3 m18;(try have k8:=A3 (go _ _ k8.out));clear e1 e2 go)
     | (refine M6 rfl (.tmp 16) (.tmp 23) 38 rfl V.heap.size 3 iI (.int .i64 0) 1 8 Ey Dp.out.1 Dp.out.2.1 Dp.out.2.2.1 Dp.out.2.2.2 rfl AK fv j (Av ((G.take j).map (·.lo))) F8 S0.out.tw.hu ⟨z8,0,none⟩ 1 1 [.int .i64 x.lo] F8 rfl (Od k8.out) BS Bc A0 S0.out.sq.kp.sz ?_;intro v1 DA hown hgrow hat;obtain⟨gu,cu,rfl⟩:=GI hown;have S1:=S0.out.SK hown hgrow hat BV.out.size l6;(try have k18:=A3 (aU hgrow k18.out m18.out.1));clear hown hgrow hat)
     | (refine M6 rfl (.tmp 26) (.tmp 33) 38 rfl V.heap.size 3 iI (.int .i64 0) 1 8 Ey Dp.out.1 Dp.out.2.1 Dp.out.2.2.1 Dp.out.2.2.2 rfl AK tv j (Av ((G.take j).map (·.hi))) F8 S0.out.tw.hv ⟨z18,0,none⟩ 1 1 [.int .i64 x.hi] F8 rfl (Od k18.out) BS Bc A0 S0.out.sq.kp.sz ?_;intro v1 DA hown hgrow hat;obtain⟨gv,cv,rfl⟩:=GI hown;have S1:=(S0.out.symm.SK hown hgrow hat BV.out.size l6).symm;clear hown hgrow hat)
    all_goals
     have S1:=A3 S1;refine hK.out _ _ S1.out.sq ?_;clear hK K S0;have S0:=S1;clear S1;(try simp only [AX,Ad,Ac,Act.put,AW,Ab,AY]);(try (refine wt 20 (v:=?_) (hr:=by decide +kernel) ?_ ?_;rotate_left;(focus (intro w' hSw;clear hSw;go_simp;(try with_reducible rfl)));(try simp only [AX,Ad,Ac,Act.put,AW,Ab,AY])))
    all_goals refine Ra (rs:=[19]) Ku AO A6 (FY.cons (o:=_) rfl (fun K hK=>?_) FY.nil)
    all_goals first
     | (go_simp;obtain⟨z8,D8,e1,e2,k8,S1,m8,go⟩:=PS.alloc S0.out (.cells #[.int .i64 x.lo] 3);rw [e2,e1];have k8:=A3 k8;have m8:=A3 m8;(try have k18:=A3 (go _ _ k18.out));clear e1 e2 go)
     | (go_simp;obtain⟨z18,D18,e1,e2,k18,S1,m18,go⟩:=PS.alloc S0.out (.cells #[.int .i64 x.hi] 3);rw [e2,e1];have k18:=A3 k18;have m18:=A3 m18;(try have k8:=A3 (go _ _ k8.out));clear e1 e2 go)
     | (refine M6 rfl (.tmp 16) (.tmp 23) 38 rfl V.heap.size 3 iI (.int .i64 0) 1 8 Ey Dp.out.1 Dp.out.2.1 Dp.out.2.2.1 Dp.out.2.2.2 rfl AK fv j (Av ((G.take j).map (·.lo))) F8 S0.out.tw.hu ⟨z8,0,none⟩ 1 1 [.int .i64 x.lo] F8 rfl (Od k8.out) BS Bc A0 S0.out.sq.kp.sz ?_;intro v1 DA hown hgrow hat;obtain⟨gu,cu,rfl⟩:=GI hown;have S1:=S0.out.SK hown hgrow hat BV.out.size l6;(try have k18:=A3 (aU hgrow k18.out m18.out.1));clear hown hgrow hat)
     | (refine M6 rfl (.tmp 26) (.tmp 33) 38 rfl V.heap.size 3 iI (.int .i64 0) 1 8 Ey Dp.out.1 Dp.out.2.1 Dp.out.2.2.1 Dp.out.2.2.2 rfl AK tv j (Av ((G.take j).map (·.hi))) F8 S0.out.tw.hv ⟨z18,0,none⟩ 1 1 [.int .i64 x.hi] F8 rfl (Od k18.out) BS Bc A0 S0.out.sq.kp.sz ?_;intro v1 DA hown hgrow hat;obtain⟨gv,cv,rfl⟩:=GI hown;have S1:=(S0.out.symm.SK hown hgrow hat BV.out.size l6).symm;clear hown hgrow hat)
    all_goals
     have S1:=A3 S1;refine hK.out _ _ S1.out.sq ?_;clear hK K S0;have S0:=S1;clear S1;(try simp only [AX,Ad,Ac,Act.put,AW,Ab,AY]);(try (refine wt 20 (v:=?_) (hr:=by decide +kernel) ?_ ?_;rotate_left;(focus (intro w' hSw;clear hSw;go_simp;(try with_reducible rfl)));(try simp only [AX,Ad,Ac,Act.put,AW,Ab,AY])))
    all_goals
     refine ou A6 ?_;obtain⟨y0,y1,y2,f0,f1,f2⟩:=Gb S0.out.sq.at_;obtain⟨-,g1,-,-,g2,-⟩:=Gb (Y7 (o:=0) (v:=(Value.slice (some ⟨gu,0,none⟩) (j+1) cu)) S0.out.sq.at_);have l6D:=BR S0.out.sq.at_;have FQ:=A3 ((S0.out.put (i:=0) (t:=(Value.slice (some ⟨gu,0,none⟩) (j+1) cu)) fS.out l6).put (i:=1) (t:=(Value.slice (some ⟨gv,0,none⟩) (j+1) cv)) fS.out l6);go_wp2_with fail;go_meet;exact⟨rfl,_,_,by rw [HE1.out,HE2.out];simpa [Av] using FQ.out⟩
   obtain⟨rfl,fv1,tv1,hq⟩:=hcut;obtain⟨w8,hw8⟩:∃E:World,E=wc:=⟨_,rfl⟩;subst hw8;have HS8:=A3 hq;clear hq s20 l27 l67 c20 d0 d1 d2;go_upto_region 6 with fail;refine wR (S:=fun w'=>SQ w V q6 (.cells #[fv1,tv1,nv] 40 (0,0)) w') 10 A6 A6 HS8.out.sq.drew (fun _=>?_);have S0:=A3 HS8.out.drew;obtain⟨D0,Eo⟩:∃D,w8.drew=D:=⟨_,rfl⟩;rw [Eo] at S0 ⊢;clear Eo;refine wt 0 (v:=?_) ?_ ?_;rotate_left
   ·intro w' hSw
    clear hSw;go_simp
    (try with_reducible rfl)
   (try simp only [AX,Ad,Ac,Act.put,AW,Ab,AY]);refine wt 1 (v:=?_) ?_ ?_;rotate_left
   ·intro w' hSw
    obtain⟨z0,z1,z2,s0,s1,s2,s3,t2,tb,t6⟩:=Mw hSw l2 n26 Md.out lb nb6 HD.out;clear hSw;go_simp
    (try with_reducible rfl)
   (try simp only [AX,Ad,Ac,Act.put,AW,Ab,AY]);refine wt 2 (v:=?_) ?_ ?_;rotate_left
   ·intro w' hSw
    clear hSw;go_simp
    (try with_reducible rfl)
   (try simp only [AX,Ad,Ac,Act.put,AW,Ab,AY]);refine wt 3 (v:=?_) ?_ ?_;rotate_left
   ·intro w' hSw
    obtain⟨z0,z1,z2,s0,s1,s2,s3,t2,tb,t6⟩:=Mw hSw l2 n26 Md.out lb nb6 HD.out;clear hSw;go_simp
    (try with_reducible rfl)
   (try simp only [AX,Ad,Ac,Act.put,AW,Ab,AY]);refine wt 4 (v:=?_) ?_ ?_;rotate_left
   ·intro w' hSw
    clear hSw;go_simp
    (try with_reducible rfl)
   (try simp only [AX,Ad,Ac,Act.put,AW,Ab,AY]);refine wt 5 (v:=?_) ?_ ?_;rotate_left
   ·intro w' hSw
    obtain⟨z0,z1,z2,s0,s1,s2,s3,t2,tb,t6⟩:=Mw hSw l2 n26 Md.out lb nb6 HD.out;clear hSw;go_simp
    (try with_reducible rfl)
   (try simp only [AX,Ad,Ac,Act.put,AW,Ab,AY]);refine wt 6 (v:=?_) ?_ ?_;rotate_left
   ·intro w' hSw
    clear hSw;go_simp
    (try with_reducible rfl)
   (try simp only [AX,Ad,Ac,Act.put,AW,Ab,AY]);refine wt 7 (v:=?_) ?_ ?_;rotate_left
   ·intro w' hSw
    obtain⟨z0,z1,z2,s0,s1,s2,s3,t2,tb,t6⟩:=Mw hSw l2 n26 Md.out lb nb6 HD.out;clear hSw;go_simp
    (try with_reducible rfl)
   (try simp only [AX,Ad,Ac,Act.put,AW,Ab,AY]);refine Ra (rs:=[8]) Ku AO A6 (FY.cons (o:=_) rfl (fun K hK=>?_) FY.nil);all_goals first
    | (go_simp;obtain⟨z8,D8,e1,e2,k8,S1,m8,go⟩:=PS.alloc S0.out (.cells #[.slice nA x.nx.length nC] 38);rw [e2,e1];have k8:=A3 k8;have m8:=A3 m8;clear e1 e2 go)
    | (refine M6 rfl (.tmp 38) (.tmp 45) 29 rfl V.heap.size 38 iS (.slice none 0 0) 1 24 aJ HIS.out.1 HIS.out.2.1 HIS.out.2.2.1 HIS.out.2.2.2 rfl AK nv j sl F8 S0.out.yr ⟨z8,0,none⟩ 1 1 [.slice nA x.nx.length nC] F8 rfl (Od k8.out) BS Bc A0 S0.out.sq.kp.sz ?_;intro v1 DA hown hgrow hat;obtain⟨gn_,cn_,rfl⟩:=GI hown;have S1:=S0.out.rB hown hgrow BV.out.size l6;clear hown hgrow hat)
   all_goals
    have S1:=A3 S1;refine hK.out _ _ S1.out.sq ?_;clear hK K S0;have S0:=S1;clear S1;(try simp only [AX,Ad,Ac,Act.put,AW,Ab,AY])
   all_goals refine Ra (rs:=[9]) Ku AO A6 (FY.cons (o:=_) rfl (fun K hK=>?_) FY.nil)
   all_goals first
    | (go_simp;obtain⟨z8,D8,e1,e2,k8,S1,m8,go⟩:=PS.alloc S0.out (.cells #[.slice nA x.nx.length nC] 38);rw [e2,e1];have k8:=A3 k8;have m8:=A3 m8;clear e1 e2 go)
    | (refine M6 rfl (.tmp 38) (.tmp 45) 29 rfl V.heap.size 38 iS (.slice none 0 0) 1 24 aJ HIS.out.1 HIS.out.2.1 HIS.out.2.2.1 HIS.out.2.2.2 rfl AK nv j sl F8 S0.out.yr ⟨z8,0,none⟩ 1 1 [.slice nA x.nx.length nC] F8 rfl (Od k8.out) BS Bc A0 S0.out.sq.kp.sz ?_;intro v1 DA hown hgrow hat;obtain⟨gn_,cn_,rfl⟩:=GI hown;have S1:=S0.out.rB hown hgrow BV.out.size l6;clear hown hgrow hat)
   all_goals
    have S1:=A3 S1;refine hK.out _ _ S1.out.sq ?_;clear hK K S0;have S0:=S1;clear S1;(try simp only [AX,Ad,Ac,Act.put,AW,Ab,AY])
   all_goals
    refine ou A6 ?_;obtain⟨y0,y1,y2,f0,f1,f2⟩:=Gb S0.out.sq.at_;have l6D:=BR S0.out.sq.at_;have FQ:=A3 (S0.out.put (i:=2) (t:=(Value.slice (some ⟨gn_,0,none⟩) (j+1) cn_)) fS.out l6);have FI:=A3 (show ∀(i:Nat) (y:AV) (u:Value),G[i]?=some y→(sl++[.slice nA x.nx.length nC])[i]?=some u→Ints w0 u y.nx from fun i y u h3 h4=>by
     have hsl:sl.length=j:=by simpa using HS.out.yr.1
     by_cases hi:i<j
     ·rw [JJ A0] at h4
      exact HI.out i y u h3 h4
     ·have h5:=(Bl.1 h4).1
      rw [FO] at h5;obtain rfl:i=j:=by simp at h5;omega
      rw [J4 A0] at h4;rw [HX.out] at h3;cases h3;simp [hsl] at h4;rw [←h4]
      exact Cw.out)
    go_wp2_with fail;go_roundw;case rel=>exact⟨j+1,_,_,_,_,by omega,by go_num,FQ.out,FI.out⟩
    case measure=>exact Aa
  ·obtain rfl:j=gn:=by omega
   have dl:decide ((j:Int)<(j:Int))=false:=by simp
   have B6:=A3 (Gb HS.out.sq.at_);have n64:q6≠q4:=by have:=LQ.out;omega
   have n65:q6≠q5:=by have:=LQ.out;omega
   have n34:q3≠q4:=by have:=LQ.out;omega
   have n35:q3≠q5:=by have:=LQ.out;omega
   have n36:q3≠q6:=by have:=LQ.out;omega
   have n46:q4≠q6:=by have:=LQ.out;omega
   have n56:q5≠q6:=by have:=LQ.out;omega
   have n45:q4≠q5:=by have:=LQ.out;omega
   have l4:q4<V.heap.size:=BR K4.out;have l5:q5<V.heap.size:=BR K5.out;have l37:q3<w7.heap.size:=by have:=HS.out.sq.kp.sz;omega
   have l47:q4<w7.heap.size:=by have:=HS.out.sq.kp.sz;omega
   have l57:q5<w7.heap.size:=by have:=HS.out.sq.kp.sz;omega
   have B3:=A3 (Ep ((HS.out.sq.kp.hp q3 l3 n36).trans K3.out));have B4:=A3 (Gb ((HS.out.sq.kp.hp q4 l4 n46).trans K4.out));have B5:=A3 (Gb ((HS.out.sq.kp.hp q5 l5 n56).trans K5.out));obtain⟨fA,fC,rfl⟩:∃A c,fv=.slice A j c:=by
    rcases HS.out.tw.hu.2 with⟨e,h0⟩|⟨g',cap',cur',e,_⟩
    ·exact⟨none,0,by rw [e,h0]⟩
    ·exact⟨_,_,e⟩
   obtain⟨tA,tC,rfl⟩:∃A c,tv=.slice A j c:=by
    rcases HS.out.tw.hv.2 with⟨e,h0⟩|⟨g',cap',cur',e,_⟩
    ·exact⟨none,0,by rw [e,h0]⟩
    ·exact⟨_,_,e⟩
   obtain⟨nA,nC,rfl⟩:∃A c,nv=.slice A j c:=by
    rcases HS.out.yr.2 with⟨e,h0⟩|⟨g',cap',cur',e,_⟩
    ·exact⟨none,0,by rw [e,h0]⟩
    ·exact⟨_,_,e⟩
   go_upto_region 7 with fail;refine YN (S:=fun w'=>∀b,b<w7.heap.size→b≠q4→b≠q5→w'.heap[b]?=w7.heap[b]?) A6 (fun _ _ _ _=>rfl) (fun hHeld=>?_);obtain⟨D0,Eo⟩:∃D,w7.drew=D:=⟨_,rfl⟩;have HB4:=A3 (show D0.heap[q4]?=some (.cells #[.slice none 0 0,.slice none 0 0,.slice none 0 0] 40 (0,0)) by rw [←Eo];exact (HS.out.sq.kp.hp q4 l4 n46).trans K4.out);have Kr:=A3 (show D0.heap[q5]?=some (.cells #[.int .i64 0,.slice none 0 0,.slice none 0 0] 42 (0,0)) by rw [←Eo];exact (HS.out.sq.kp.hp q5 l5 n56).trans K5.out);have BD0:=A3 (show Below w.heap.size w D0 by rw [←Eo];exact HS.out.sq.kp.A7.drew);have WQ:=A3 (show w.heap.size≤q4∧w.heap.size≤q5 by have:=LQ.out;have:=HW2.out;omega);rw [Eo] at hHeld ⊢;clear Eo;refine ht 0 (v:=?_) hHeld ?_ ?_;rotate_left
   ·intro w' hSw
    have r60:=(Df (hSw q6 l67 n64 n65):w'.cell? ⟨q6,0,none⟩=_).trans B6.out.1;have r61:=(Df (hSw q6 l67 n64 n65):w'.cell? ⟨q6,1,none⟩=_).trans B6.out.2.1;have r62:=(Df (hSw q6 l67 n64 n65):w'.cell? ⟨q6,2,none⟩=_).trans B6.out.2.2.1;have r30:=(Df (hSw q3 l37 n34 n35):w'.cell? ⟨q3,0,none⟩=_).trans B3.out.1;have r31:=(Df (hSw q3 l37 n34 n35):w'.cell? ⟨q3,1,none⟩=_).trans B3.out.2.1;have r32:=(Df (hSw q3 l37 n34 n35):w'.cell? ⟨q3,2,none⟩=_).trans B3.out.2.2.1;clear hSw;go_simp
    (try with_reducible rfl)
   (try simp only [AX,Ad,Ac,Act.put,AW,Ab,AY]);refine ht 1 (v:=?_) hHeld ?_ ?_;rotate_left
   ·intro w' hSw
    clear hSw;go_simp
    (try with_reducible rfl)
   (try simp only [AX,Ad,Ac,Act.put,AW,Ab,AY]);refine ht 2 (v:=?_) hHeld ?_ ?_;rotate_left
   ·intro w' hSw
    have r60:=(Df (hSw q6 l67 n64 n65):w'.cell? ⟨q6,0,none⟩=_).trans B6.out.1;have r61:=(Df (hSw q6 l67 n64 n65):w'.cell? ⟨q6,1,none⟩=_).trans B6.out.2.1;have r62:=(Df (hSw q6 l67 n64 n65):w'.cell? ⟨q6,2,none⟩=_).trans B6.out.2.2.1;have r30:=(Df (hSw q3 l37 n34 n35):w'.cell? ⟨q3,0,none⟩=_).trans B3.out.1;have r31:=(Df (hSw q3 l37 n34 n35):w'.cell? ⟨q3,1,none⟩=_).trans B3.out.2.1;have r32:=(Df (hSw q3 l37 n34 n35):w'.cell? ⟨q3,2,none⟩=_).trans B3.out.2.2.1;clear hSw;go_simp
    (try with_reducible rfl)
   (try simp only [AX,Ad,Ac,Act.put,AW,Ab,AY]);refine ht 3 (v:=?_) hHeld ?_ ?_;rotate_left
   ·intro w' hSw
    clear hSw;go_simp
    (try with_reducible rfl)
   (try simp only [AX,Ad,Ac,Act.put,AW,Ab,AY]);refine ht 4 (v:=?_) hHeld ?_ ?_;rotate_left
   ·intro w' hSw
    have r60:=(Df (hSw q6 l67 n64 n65):w'.cell? ⟨q6,0,none⟩=_).trans B6.out.1;have r61:=(Df (hSw q6 l67 n64 n65):w'.cell? ⟨q6,1,none⟩=_).trans B6.out.2.1;have r62:=(Df (hSw q6 l67 n64 n65):w'.cell? ⟨q6,2,none⟩=_).trans B6.out.2.2.1;have r30:=(Df (hSw q3 l37 n34 n35):w'.cell? ⟨q3,0,none⟩=_).trans B3.out.1;have r31:=(Df (hSw q3 l37 n34 n35):w'.cell? ⟨q3,1,none⟩=_).trans B3.out.2.1;have r32:=(Df (hSw q3 l37 n34 n35):w'.cell? ⟨q3,2,none⟩=_).trans B3.out.2.2.1;clear hSw;go_simp
    (try with_reducible rfl)
   (try simp only [AX,Ad,Ac,Act.put,AW,Ab,AY]);refine ht 5 (v:=?_) hHeld ?_ ?_;rotate_left
   ·intro w' hSw
    clear hSw;go_simp
    (try with_reducible rfl)
   (try simp only [AX,Ad,Ac,Act.put,AW,Ab,AY]);refine ht 6 (v:=?_) hHeld ?_ ?_;rotate_left
   ·intro w' hSw
    have r60:=(Df (hSw q6 l67 n64 n65):w'.cell? ⟨q6,0,none⟩=_).trans B6.out.1;have r61:=(Df (hSw q6 l67 n64 n65):w'.cell? ⟨q6,1,none⟩=_).trans B6.out.2.1;have r62:=(Df (hSw q6 l67 n64 n65):w'.cell? ⟨q6,2,none⟩=_).trans B6.out.2.2.1;have r30:=(Df (hSw q3 l37 n34 n35):w'.cell? ⟨q3,0,none⟩=_).trans B3.out.1;have r31:=(Df (hSw q3 l37 n34 n35):w'.cell? ⟨q3,1,none⟩=_).trans B3.out.2.1;have r32:=(Df (hSw q3 l37 n34 n35):w'.cell? ⟨q3,2,none⟩=_).trans B3.out.2.2.1;clear hSw;go_simp
    (try with_reducible rfl)
   (try simp only [AX,Ad,Ac,Act.put,AW,Ab,AY]);refine ht 7 (v:=?_) hHeld ?_ ?_;rotate_left
   ·intro w' hSw
    clear hSw;go_simp
    (try with_reducible rfl)
   (try simp only [AX,Ad,Ac,Act.put,AW,Ab,AY]);refine GZ (rs:=[8]) A6 AO ?_;refine Eg (o:=_) rfl (fun K hK=>?_) GV;obtain⟨c1,c2,c3,c4,c5,c6,c7⟩:=fQ (x:=.slice fA j fC) (y:=.slice tA j tC) (z:=.slice nA j nC) HB4.out;have l4D:=BR HB4.out;go_simp
   obtain⟨E1,TT⟩:∃E,((D0.setCell ⟨q4,0,none⟩ (.slice fA j fC)).setCell ⟨q4,1,none⟩ (.slice tA j tC)).setCell ⟨q4,2,none⟩ (.slice nA j nC)=E:=⟨_,rfl⟩;have HF4:=A3 (show ∀b,b≠q4→E1.heap[b]?=D0.heap[b]? from fun b hb=>by rw [←TT];exact Zt hb);have KE4:=A3 (show E1.heap[q4]?=some (.cells #[.slice fA j fC,.slice tA j tC,.slice nA j nC] 40 (0,0)) from by rw [←TT];exact c7);have BE1:=A3 (show Below w.heap.size w E1 from by
    rw [←TT]
    exact ((BD0.out.setCell (p:=⟨q4,0,none⟩) WQ.out.1 _).setCell (p:=⟨q4,1,none⟩) WQ.out.1 _).setCell (p:=⟨q4,2,none⟩) WQ.out.1 _)
   rw [TT];have hk:∀b,b<w7.heap.size→b≠q4→b≠q5→E1.heap[b]?=w7.heap[b]?:=fun b h1 h2 h3=>(HF4.out b h2).trans (hHeld b h1 h2 h3);clear c1 c2 c3 c4 c5 c6 c7 TT l4D;refine hK.out _ _ hk (fun hHeld=>?_);clear hK K;(try simp only [AX,Ad,Ac,Act.put,AW,Ab,AY]);refine GZ (rs:=[9]) A6 AO ?_;refine Eg (o:=_) rfl (fun K hK=>?_) GV;have k5E:=(HF4.out q5 n45.symm).trans Kr.out;obtain⟨c1,c2,c3,c4,c5,c6,c7⟩:=fQ (x:=.int .i64 x.h) (y:=.slice BA bn bc) (z:=.slice CA cn cc) k5E;have l5D:=BR k5E;go_simp
   obtain⟨E2,Qk⟩:∃E,((E1.setCell ⟨q5,0,none⟩ (.int .i64 x.h)).setCell ⟨q5,1,none⟩ (.slice BA bn bc)).setCell ⟨q5,2,none⟩ (.slice CA cn cc)=E:=⟨_,rfl⟩;have Qu:=A3 (show ∀b,b≠q5→E2.heap[b]?=E1.heap[b]? from fun b hb=>by rw [←Qk];exact Zt hb);have KE5:=A3 (show E2.heap[q5]?=some (.cells #[.int .i64 x.h,.slice BA bn bc,.slice CA cn cc] 42 (0,0)) from by rw [←Qk];exact c7);have BE2:=A3 (show Below w.heap.size w E2 from by
    rw [←Qk]
    exact ((BE1.out.setCell (p:=⟨q5,0,none⟩) WQ.out.2 _).setCell (p:=⟨q5,1,none⟩) WQ.out.2 _).setCell (p:=⟨q5,2,none⟩) WQ.out.2 _)
   rw [Qk];have hk:∀b,b<w7.heap.size→b≠q4→b≠q5→E2.heap[b]?=w7.heap[b]?:=fun b h1 h2 h3=>(Qu.out b h3).trans (hHeld b h1 h2 h3);clear c1 c2 c3 c4 c5 c6 c7 Qk l5D k5E;refine hK.out _ _ hk (fun hHeld=>?_);clear hK K;(try simp only [AX,Ad,Ac,Act.put,AW,Ab,AY]);refine VJ A6 ?_ _;have tR:=A3 ((Qu.out q4 n45).trans KE4.out);obtain⟨r40,r41,r42,-,-,-⟩:=Gb tR.out;obtain⟨r50,r51,r52,-,-,-⟩:=Gb KE5.out;have FHP:=A3 (show ∀b,V.heap.size≤b→b<w7.heap.size→E2.heap[b]?=w7.heap[b]? from fun b h1 h2=>hk b h2 A0 A0);clear hHeld hk;go_wp2_with fail;refine Al (ami (P:=Tryz.prog) Tryz.results14 _ _ q4 q5 [.slice fA j fC,.slice tA j tC,.slice nA j nC] [.int .i64 x.h,.slice BA bn bc,.slice CA cn cc] _ _ rfl rfl (FM tR.out) (FM KE5.out) Tryz.underlying40 rfl A6 Tryz.underlying42 rfl A6) rfl ?_;have eT:G.take j=G:=by rw [←Qg.out];exact Hx
   have o1:=VU HS.out.tw.hu FHP.out;have o2:=VU HS.out.tw.hv FHP.out;have o3:=VU HS.out.yr FHP.out;rw [eT] at o1 o2;have hsl:sl.length=j:=by simpa using HS.out.yr.1
   exact⟨⟨fA,tA,nA,fC,tC,nC,by first|rfl|assumption,⟨o1.mono BV.out.size,o2.mono BV.out.size,sl,o3.mono BV.out.size,hsl,HI.out⟩⟩,BE2.out⟩
def zP:Obj:=.cells #[.slice none 0 0,.slice none 0 0,.slice none 0 0] 40 (0,0)
def zQ:Obj:=.cells #[.int .i64 0,.slice none 0 0,.slice none 0 0] 42 (0,0)
def Sep (z:Nat) (a b c:Value):Prop:=a.ownBlock≠some z∧b.ownBlock≠some z∧c.ownBlock≠some z
section
variable {B:Nat} {w0 b D D':World} {G:List AV} {gn z zp zq:Nat} {fv tv nv y1 y2 y3:Value}
theorem Gs.lt (h:Gs B w0 D G gn fv tv nv):(∀q,fv.ownBlock=some q→B≤q∧q<D.heap.size)∧(∀q,tv.ownBlock=some q→B≤q∧q<D.heap.size)∧(∀q,nv.ownBlock=some q→B≤q∧q<D.heap.size):=by
 obtain⟨sl,h1,-⟩:=h.n;exact⟨h.f.lt,h.t.lt,h1.lt⟩
theorem Gs.sep (h:Gs B w0 D G gn fv tv nv) (hz:z<B∨D.heap.size≤z):Sep z fv tv nv:=
 ⟨fun e=>by have:=h.lt.1 z e;omega,fun e=>by have:=h.lt.2.1 z e;omega,fun e=>by have:=h.lt.2.2 z e;omega⟩
theorem Gs.put (h:Gs B w0 D G gn fv tv nv) (s:Sep z fv tv nv) (o:Nat) (y:Value):Gs B w0 (D.setCell ⟨z,o,none⟩ y) G gn fv tv nv:=by
 obtain⟨sl,h1,h2,h3⟩:=h.n;exact⟨OU h.f s.1 y,OU h.t s.2.1 y,sl,OU h1 s.2.2 y,h2,h3⟩
theorem Gs.below (h:Gs B w0 D G gn fv tv nv) (hb:Below D.heap.size D D'):Gs B w0 D' G gn fv tv nv:=h.same (fun x _ h2=>hb.block x h2)
theorem VV (S:Below b.heap.size b D) (o:Obj):∃z D',D.heap.size=z∧D.alloc o=D'∧D'.heap[z]?=some o∧b.heap.size≤z∧Below b.heap.size b D'∧Below D.heap.size D D':=
 ⟨_,_,rfl,rfl,Ai _ _,S.size,S.alloc S.size _,(AP _ _).alloc (AH _) _⟩
theorem VX (hb:Below D.heap.size D D') {o:Obj} (h:D.heap[z]?=some o):D'.heap[z]?=some o:=(hb.block z (BR h)).trans h
theorem anL (S:Below b.heap.size b D) (kp:D.heap[zp]?=some zP) (kq:D.heap[zq]?=some zQ) (wp:b.heap.size≤zp) (wq:b.heap.size≤zq) (h:Gs B w0 D G gn fv tv nv) (sp:Sep zp fv tv nv) (sq:Sep zq fv tv nv) (y1 y2 y3:Value) :
  ∃E1 E2,((D.setCell ⟨zp,0,none⟩ fv).setCell ⟨zp,1,none⟩ tv).setCell ⟨zp,2,none⟩ nv=E1∧((E1.setCell ⟨zq,0,none⟩ y1).setCell ⟨zq,1,none⟩ y2).setCell ⟨zq,2,none⟩ y3=E2∧
   (D.cell? ⟨zp,0,none⟩=some (.slice none 0 0)∧D.frozen? ⟨zp,0,none⟩=false∧(D.setCell ⟨zp,0,none⟩ fv).cell? ⟨zp,1,none⟩=some (.slice none 0 0)∧(D.setCell ⟨zp,0,none⟩ fv).frozen? ⟨zp,1,none⟩=false∧((D.setCell ⟨zp,0,none⟩ fv).setCell ⟨zp,1,none⟩ tv).cell? ⟨zp,2,none⟩=some (.slice none 0 0)∧((D.setCell ⟨zp,0,none⟩ fv).setCell ⟨zp,1,none⟩ tv).frozen? ⟨zp,2,none⟩=false∧zp<D.heap.size)∧Below b.heap.size b E1∧
   (E1.cell? ⟨zq,0,none⟩=some (.int .i64 0)∧E1.frozen? ⟨zq,0,none⟩=false∧(E1.setCell ⟨zq,0,none⟩ y1).cell? ⟨zq,1,none⟩=some (.slice none 0 0)∧(E1.setCell ⟨zq,0,none⟩ y1).frozen? ⟨zq,1,none⟩=false∧((E1.setCell ⟨zq,0,none⟩ y1).setCell ⟨zq,1,none⟩ y2).cell? ⟨zq,2,none⟩=some (.slice none 0 0)∧((E1.setCell ⟨zq,0,none⟩ y1).setCell ⟨zq,1,none⟩ y2).frozen? ⟨zq,2,none⟩=false∧zq<E1.heap.size)∧Below b.heap.size b E2∧
   E2.heap[zp]?=some (.cells #[fv,tv,nv] 40 (0,0))∧E2.heap[zq]?=some (.cells #[y1,y2,y3] 42 (0,0))∧Gs B w0 E2 G gn fv tv nv:=by
 have ne:zp≠zq:=Ct kp kq AK;obtain⟨c1,c2,c3,c4,c5,c6,c7⟩:=fQ (x:=fv) (y:=tv) (z:=nv) kp;have kq1:(((D.setCell ⟨zp,0,none⟩ fv).setCell ⟨zp,1,none⟩ tv).setCell ⟨zp,2,none⟩ nv).heap[zq]?=some zQ:=(Zt (Ds ne)).trans kq;obtain⟨d1,d2,d3,d4,d5,d6,d7⟩:=fQ (x:=y1) (y:=y2) (z:=y3) kq1;have s1:Below b.heap.size b (((D.setCell ⟨zp,0,none⟩ fv).setCell ⟨zp,1,none⟩ tv).setCell ⟨zp,2,none⟩ nv):=((S.setCell (p:=⟨zp,0,none⟩) wp _).setCell (p:=⟨zp,1,none⟩) wp _).setCell (p:=⟨zp,2,none⟩) wp _;exact⟨_,_,rfl,rfl,⟨c1,c2,c3,c4,c5,c6,BR kp⟩,s1,⟨d1,d2,d3,d4,d5,d6,BR kq1⟩,((s1.setCell (p:=⟨zq,0,none⟩) wq _).setCell (p:=⟨zq,1,none⟩) wq _).setCell (p:=⟨zq,2,none⟩) wq _,(Zt ne).trans c7,d7,(((((h.put sp 0 _).put sp 1 _).put sp 2 _).put sq 0 _).put sq 1 _).put sq 2 _⟩
end
end
end Go.Proofs.YtlmgkipmfgijiaaGreatDoor
