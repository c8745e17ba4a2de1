/-
  What is proved here: parts lHoB.
-/
import Derived.Test.YtlmgkipmfgijiaaGreatDoorVa
import Derived.Test.YtlmgkipmfgijiaaGreatDoorVw
import Derived.Test.YtlmgkipmfgijiaaGreatDoorVu
namespace Go.Proofs.YtlmgkipmfgijiaaGreatDoor
set_option linter.unusedVariables false
set_option linter.unusedSimpArgs false
set_option maxRecDepth 100000
set_option maxHeartbeats 8000000
open Go.RowKit
structure yL (cd:Nat→Int) (lk st:Int) (G:List AU) (s:AS) (Ls:List Lp) (Ms DD:List Int) (LL:List (Int×Int)):Prop where
 gg:G=BP (AK cd) LL
 len:Ms.length=Ls.length
 mx:∀i,Ms.getD i 0≤131071
 ln:∀x∈Ls,∀t∈x.la,0≤t
 fb:∀ {pc:Int} {b:Nat} (h:At (AK cd) DD LL pc b),Og G pc=some b∧G[b]?=some ⟨(LL[b]'h.lt).1,(LL[b]'h.lt).2,EX (AK cd) LL b⟩
 start:Hd cd DD LL s Ls Ms st (List.replicate 16 0) false 0 (-1) (List.replicate Ls.length 0)
 step:∀ {S S':St} {b:Nat} {tk dl sl DN sl':List Int} {nx:Int},Po cd DD LL s Ls Ms S.pc S.r b tk→S.r.length=16→(∀k,AL (S.r.getD k 0))→(∀x∈dl,AL x)→(∀x∈sl,AL x)→S.hal=false→EM (AK cd S.pc) lk S dl sl nx S' DN sl'→∃k,Hd cd DD LL s Ls Ms nx S'.r S'.hal k (b:Int) tk
theorem mJ {n:Nat} {cd:Nat→Int} {AO:List Bt} {sh lk0:Int} {k:Nat} {en:Bt} {G:List AU} {P:List (List Int)} {D:List Int} {Ls:List Lp} {Ms:List Int} {s:AS} (lk:Int) (HG:DT n cd AO sh lk0 k en G P) (hn:G.length≤5000) (hwd:∀i,i<n→0≤cd i∧cd i<4294967296) (HT:Ec G D) (HL:Hy P (C6 G.length (Aa G)) (Cw G.length (Aa G)) (CP G G.length []) D Ls)
  (HE:Ends (BR cd G) (EI G.length) s) (HF:Fk cd G s.reach Ls []=.inl Ms):∃DD LL,yL cd lk en.st G s Ls Ms DD LL:=by
 have hv:=HG.val;have hok:=HG.gok hwd;have FX:=qy (n:=n) (Gk.2 hv.ne) hok HE;have hr:=HG.range;have hI:=zT hwd (fun x hx=>by have:=HG.in_ x hx;omega) HG.MK;have hK:=arN hI hv hn HT (HG.bP hn) HL HF;have hmx:∀i,Ms.getD i 0≤131071:=fun i=>by
  obtain⟨h1,h2⟩:=eP HF;rw [cT] at h1;cases hx:Ls[i]? with
  | none=>
   have h9:=List.getElem?_eq_none_iff.1 hx;rw [h1];simp [List.getD,h9]
  | some x=>
   have e:Ms.getD i 0=(Ii cd G s.reach x).1:=by rw [h1];simp [List.getD,hx]
   have hm:=Bj hx;rw [e];rcases tI (h2 x hm) with h3|⟨r,h3⟩
   ·rw [h3.1];omega
   ·obtain⟨B,i',S,j,hs⟩:=pI hI hv hn HT (HG.bP hn) HL hm h3
    exact hs.mx
 obtain⟨DD,LL,hR,Om,hGI,hst,rfl,rfl⟩:=HG.inv;obtain⟨z,hz⟩:=hv.ok;exact⟨DD,LL,rfl,hK.len,hmx,hK.ln,fun h=>⟨uJ hz (Lv _ _ h.lt) h.lo h.hi,Lv _ _ h.lt⟩,Hd.start Om.symm hGI hst FX hK,fun h hl hw hd hs hh hs'=>Po.step hv Om.symm hGI HE FX hok hwd hK h hl hw hd hs hh hs'⟩
theorem zL {N Z Z2 Q:World} {sb g zn B0:Nat} {st:Int} {ml sl:List Int} {sv:Value} {xs:List Value} (o:Obj)
  (KN:N.heap[sb]?=some (.cells #[.int .i64 st,.int .i32 0,.int .i32 0,.int .i32 0,.int .i32 0,.int .i32 0,.int .i32 0,.int .i32 0,.int .i32 0,.int .i32 0,.int .i32 0,.int .i32 0,.int .i32 0,.int .i32 0,.int .i32 0,.int .i32 0,.int .i32 0,.slice (some ⟨g,0,none⟩) zn zn,.bool false,.int .i64 (-1)] 82))
  (JN:N.ownsRow B0 21 1 (.slice (some ⟨g,0,none⟩) zn zn) zn xs) (HFZ:Fr (· = g) N Z) (HRZ:Z.ownsRow B0 21 1 (.slice (some ⟨g,0,none⟩) zn zn) zn (F0 ml)) (hml:ml.length=zn) (VU:∀x∈ml,AL x) (hz:zn≤512)
  (Vt:Z2.ownsRow Z.heap.size 21 1 sv sl.length (F0 sl)) (hgr:(Z.alloc o).grownBy Z2 (some Z.heap.size)) (hsw:∀x∈sl,AL x) (hsl:sl.length≤64) (hQ:Below Z2.heap.size Z2 Q) :
  DG Q sb ⟨st,List.replicate 16 0,.slice (some ⟨g,0,none⟩) zn zn,false,-1⟩ ml sv sl∧Fr (· = g) N Q∧N.heap.size≤Z.heap.size∧Z.heap.size<Z2.heap.size∧∀k,Jb sb (.slice (some ⟨g,0,none⟩) zn zn) sv k→(k=sb∨k=g∨Z.heap.size≤k)∧k<Z2.heap.size:=by
 have hgN:=(JN.lt g rfl).2;have Iz:sb≠g:=fun e=>by
  rw [e] at KN;rcases JN.2 with⟨h,_⟩|⟨g',cap',cur,hv,_,hg',_⟩
  ·cases h
  ·cases hv
   rw [KN] at hg';simp at hg'
 have hsN:=Ak KN;have sZ:=HFZ.size;have F2:Fr (· = Z.heap.size) (Z.alloc o) Z2:=⟨hgr.os,hgr.tape,hgr.output,hgr.size,fun k h1 h2=>hgr.block k h1 (fun e=>h2 (FZ e))⟩;have s2:Z.heap.size<Z2.heap.size:=by have:=hgr.size;rw [F9] at this;omega
 have f1:Fr (· = g) N Z2:=(HFZ.alloc o).since F2 (fun k hk=>.inr (by have h9:k=Z.heap.size:=hk;omega));have fQ:Fr (· = g) N Q:=f1.trans (Fr.of hQ);have hg0:g<Z.heap.size:=by omega
 refine⟨⟨⟨(fQ.block sb hsN Iz).trans (KN.trans (by simp [St.cells,List.replicate])),by simp,fun x hx=>by rw [(YW.1 hx).2];unfold AL;omega⟩,?_,?_,?_,VU,hsw,by omega,by omega⟩,fQ,sZ,s2,?_⟩
 ·rw [hml]
  refine ownsRow_base (CS (F2.own (HRZ.alloc o) (fun q hq h9=>?_)) hQ) (Ca _);have h8:q=Z.heap.size:=h9;simp only [Value.ownBlock,MG] at hq;omega
 ·exact ownsRow_base (CS Vt hQ) (Ca _)
 ·intro q hq h9
  simp only [Value.ownBlock,MG] at hq;have:=(Vt.lt q h9).1;omega
 ·intro k hk
  rcases hk with rfl|e|e
  ·exact⟨.inl rfl,by omega⟩
  ·simp only [Value.ownBlock,MG] at e
   subst e;exact⟨.inr (.inl rfl),by omega⟩
  ·have:=Vt.lt k e
   exact⟨.inr (.inr this.1),this.2⟩
theorem aaN {w wr:World} {A:Option Addr} {n cap:Nat} {l:List Int} (h:Ints w (.slice A n cap) l) (hn:l.length=n) (hb:Below w.heap.size w wr) {j:Nat} (hj:j<n):∃b off,A=some ⟨b,off,none⟩∧b<w.heap.size∧wr.cell? ⟨b,off+j,none⟩=some (.int .i64 (l.getD j 0)):=by
 subst hn;obtain⟨s,b,off,h1,h2,h3,h4⟩:=h.at_ hb hj;exact⟨b,off,h2,h3,by rw [h4];simp [List.getD,h1]⟩
theorem aaX {b:Nat} {Ah t:Int} {x:Lp} (h:x.h=(b:Int)) (hl:Ah∈x.la):Wv b Ah x t=t+1:=by unfold Wv;rw [A9 h,A9 hl]
theorem aaE {b:Nat} {Ah t:Int} {x:Lp} (h:x.h=(b:Int)) (hl:Ah∉x.la):Wv b Ah x t=0:=by unfold Wv;rw [A9 h,A6 hl]
end Go.Proofs.YtlmgkipmfgijiaaGreatDoor
