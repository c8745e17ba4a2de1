/-
  What is proved here: parts lHoN.
-/
import Derived.Test.YtlmgkipmfgijiaaGreatDoorVa
import Derived.Test.YtlmgkipmfgijiaaGreatDoorVu
namespace Go.Proofs.YtlmgkipmfgijiaaGreatDoor
set_option linter.unusedVariables false
set_option linter.unusedSimpArgs false
set_option maxRecDepth 100000
set_option maxHeartbeats 8000000
open Go.RowKit
section
theorem aqP {r:List Int} {a v:Int} {k:Nat} (h0:0≤a) (h:a≠0→a≠(k:Int)):(JC r a v).getD k 0=r.getD k 0:=by
 unfold JC;by_cases ha:a=0
 ·rw [A9 ha]
 ·rw [A6 ha]
  have:=h ha;simp only [List.getD];rw [Xi A0]
theorem zG {I:Ins} {lk:Int} {S S':St} {dl sl DN sl':List Int} {nx r:Int} (h:EM I lk S dl sl nx S' DN sl') (h0:0≤I.op) (hv:CW I=true) (hr:0≤r) (hc:cW r I=false):S'.r.getD r.toNat 0=S.r.getD r.toNat 0:=by
 cases h with
 | set v hw=>
  refine aqP (ZP h0 hv).1.1 fun ha e=>?_;have hop:(2≤I.op.toNat∧I.op.toNat≤18)∨I.op.toNat=20∨I.op.toNat=26:=by
   rcases hw with h|h|h|h|h|h|h|h<;>omega
  have hlt:I.op.toNat<30:=by omega
  have hw:=(aqK _ hlt).2 hop;unfold cW Rc at hc;rw [hv,hw] at hc;simp only [Bool.and_self,Bool.true_and,Bool.and_eq_false_iff,decide_eq_false_iff_not] at hc;rcases hc with hc|hc
  ·exact hc ha
  ·omega
 | plain _=>rfl
 | br _=>rfl
 | st _ _ _=>rfl
 | PD _ _ _=>rfl
 | lock _ _ _=>rfl
 | unlock _ _=>rfl
 | halt _ _=>rfl
theorem ale {lk:Int} {S S':St} {dl sl DN sl':List Int} {nx r:Int} (h:EM ⟨15,r,r,0,1⟩ lk S dl sl nx S' DN sl') (hl:S.r.length=16) (h1:10≤r∧r≤13):S'.r.getD r.toNat 0=wrap32 (S.r.getD r.toNat 0+1):=by
 cases h with
 | set v hw=>
  have hv:v=wrap32 (A7 S r+1):=by
   rcases hw with h|h|h|h|h|h|h|h<;>simp only at h
   ·omega
   ·exact h.2
   ·omega
   ·omega
   ·omega
   ·omega
   ·omega
   ·omega
  show (JC S.r r v).getD r.toNat 0=_;unfold JC;rw [A6 A0,hv];have:r.toNat<S.r.length:=by omega
  simp [List.getD,Gv,this,A7]
 | plain h=>simp only at h;omega
 | br h=>unfold Cg at h;simp at h
 | st h _ _=>simp only at h;omega
 | PD h _ _=>simp only at h;omega
 | lock h _ _=>simp only at h;omega
 | unlock h _=>simp only at h;omega
 | halt h _=>simp only at h;omega
theorem atH {I:Ins} {lk:Int} {S S':St} {dl sl DN sl':List Int} {nx:Int} (h:EM I lk S dl sl nx S' DN sl') (ho:I.op=25):S'.r=S.r∧0≤A7 S I.a∧A7 S I.a<I.AD:=by
 cases h with
 | plain h=>
  rcases h with h|h|h
  ·omega
  ·omega
  ·exact⟨rfl,h.2⟩
 | set v hw=>exfalso;rcases hw with h|h|h|h|h|h|h|h<;>omega
 | br h=>exfalso;unfold Cg at h;simp at h;omega
 | st h _ _=>omega
 | PD h _ _=>omega
 | lock h _ _=>omega
 | unlock h _=>omega
 | halt h _=>omega
theorem Cn.afD {nx:Nat→List Nat} {AG:Nat→Prop} {hd B i S j:Nat} {n t R:Int} (ht:0≤t) (h:Cn nx AG hd B i S j n S j t R) (h1:¬(S=B∧i=j)) (hn:n≤131071) (hR:AL R):Cn nx AG hd B i S j n S (j+1) t (wrap32 (R+1)):=by
 obtain⟨u,h3,h4⟩:=id h;by_cases hc:1≤t+FD nx AG hd B i S j
 ·have h5:=h4 hc
  rw [X0.1] at h3;have h6:=aN (nx:=nx) (AG:=AG) (hd:=hd) (B:=B) (i:=i) (c:=S) (p:=j);have h7:=aN (nx:=nx) (AG:=AG) (hd:=hd) (B:=S) (i:=j) (c:=B) (p:=i);rw [VF (by unfold AL at hR ⊢;omega)];exact h.step h1
 ·refine⟨wrap32 (R+1) - t - 1,by rw [X0.2];omega,fun h5=>?_⟩
  rw [Xj (fun e=>h1 ⟨e.1,e.2⟩)] at h5;exact absurd h5 hc
def Ts (cd:Nat→Int) (G:List AU) (x:Lp) (M:Int) (b p:Nat) (t:Int) (R:List Int):Prop:=
 ∀(r:Int) (B i S j:Nat),X8 cd G x M r B i S j→Cn (Aa G) (fun b:Nat=>(b:Int)∈x.bl) x.h.toNat B i S j M b p t (R.getD r.toNat 0)
theorem Ts.ins {cd:Nat→Int} {G:List AU} {x:Lp} {M:Int} {b p:Nat} {t:Int} {I:Ins} {lk:Int} {S S':St} {dl sl DN sl':List Int} {nx:Int} (h:Ts cd G x M b p t S.r) (hb:b<G.length) (hbl:(b:Int)∈x.bl) (ht:0≤t) (hI:(Cf cd G b)[p]?=some I) (h0:0≤I.op) (hv:CW I=true)
  (hl:S.r.length=16) (hw:∀k,AL (S.r.getD k 0)) (hst:EM I lk S dl sl nx S' DN sl'):Ts cd G x M b (p+1) t S'.r:=fun r B i Sb j hs=>by
 have hc:=h r B i Sb j hs;obtain⟨y,y1,y2,y3,y4⟩:=hs.chk;have hSB:¬(Sb=B∧i=j):=fun e=>by
  obtain⟨rfl,rfl⟩:=e;rw [hs.Z9] at y1;cases y1;simp at y2
 have hrg:=hs.rg;by_cases hS:b=Sb∧p=j
 ·obtain⟨rfl,rfl⟩:=hS
  rw [hs.Z9] at hI;cases hI;rw [ale hst hl hrg];exact Cn.afD ht hc hSB hs.mx (hw _)
 ·have hk:cW r I=false:=by
   cases e:cW r I with
   | false=>rfl
   | true=>exact absurd (hs.only b p I hb hbl hI e) hS
  rw [zG hst h0 hv A0 hk];by_cases hB:b=B∧p=i
  ·obtain⟨rfl,rfl⟩:=hB
   rw [hI] at y1;cases y1;obtain⟨e1,e2,e3⟩:=atH hst y2;unfold A7 at e2 e3;rw [y3] at e2 e3;rw [y4] at e3;exact Cn.check ht hc (fun e=>hS ⟨e.1,e.2.symm⟩) e2 e3
  ·exact hc.next (fun e=>hB ⟨e.1,e.2.symm⟩) (fun e=>hS ⟨e.1,e.2.symm⟩)
structure Hd (cd:Nat→Int) (D:List Int) (L:List (Int×Int)) (s:AS) (Ls:List Lp) (Ms:List Int) (pc:Int) (R:List Int) (hal:Bool) (b:Nat) (Ah:Int) (tk:List Int):Prop where
 at_:At (AK cd) D L pc b
 VI:hal=false→S5 cd D L s pc R b
 tl:tk.length=Ls.length
 nn:∀i,0≤tk.getD i 0
 hdr:∀(i:Nat) (x:Lp),Ls[i]?=some x→(L[b]'at_.lt).1=pc→x.h=(b:Int)→Ah∈x.la→tk.getD i 0+1≤Ms.getD i 0∧Ts cd (BP (AK cd) L) x (Ms.getD i 0) b 0 (tk.getD i 0+1) R
 oth:∀(i:Nat) (x:Lp),Ls[i]?=some x→((L[b]'at_.lt).1=pc→x.h≠(b:Int))→hal=false→(b:Int)∈x.bl→Ts cd (BP (AK cd) L) x (Ms.getD i 0) b (pc - (L[b]'at_.lt).1).toNat (tk.getD i 0) R
structure Po (cd:Nat→Int) (D:List Int) (L:List (Int×Int)) (s:AS) (Ls:List Lp) (Ms:List Int) (pc:Int) (R:List Int) (b:Nat) (tk:List Int):Prop where
 VI:S5 cd D L s pc R b
 tl:tk.length=Ls.length
 nn:∀i,0≤tk.getD i 0
 all:∀(i:Nat) (x:Lp),Ls[i]?=some x→(b:Int)∈x.bl→Ts cd (BP (AK cd) L) x (Ms.getD i 0) b (pc - (L[b]'VI.at_.lt).1).toNat (tk.getD i 0) R
def Wv (b:Nat) (Ah:Int) (x:Lp) (t:Int):Int:=if x.h=(b:Int) then (if Ah∈x.la then t+1 else 0) else t
def Kk (Ls:List Lp) (b:Nat) (Ah:Int) (tk:List Int) (k:Nat):List Int:=(List.range tk.length).map fun q=>if q<k then Wv b Ah (Ls.getD q ⟨0,[],[]⟩) (tk.getD q 0) else tk.getD q 0
theorem qQ (Ls:List Lp) (b:Nat) (Ah:Int) (tk:List Int) (k:Nat):(Kk Ls b Ah tk k).length=tk.length:=by simp [Kk]
theorem eM (Ls:List Lp) (b:Nat) (Ah:Int) (tk:List Int) (k:Nat) {q:Nat} (hq:q<tk.length):(Kk Ls b Ah tk k).getD q 0=if q<k then Wv b Ah (Ls.getD q ⟨0,[],[]⟩) (tk.getD q 0) else tk.getD q 0:=by
 unfold Kk;simp [List.getD,hq]
theorem auG (Ls:List Lp) (b:Nat) (Ah:Int) (tk:List Int):Kk Ls b Ah tk 0=tk:=by
 apply KC
 ·simp [Kk]
 ·intro q h1 h2
  simp [Kk,List.getD,Ab h2]
theorem aeA (Ls:List Lp) (b:Nat) (Ah:Int) (tk:List Int) {k:Nat} {x:Lp} (hx:Ls[k]?=some x) (hk:k<tk.length):(Kk Ls b Ah tk k).set k (Wv b Ah x (tk.getD k 0))=Kk Ls b Ah tk (k+1):=by
 apply KC
 ·simp [Kk]
 ·intro q h1 h2
  rw [U8];simp only [Kk,UE,Ug];by_cases hq:k=q
  ·subst hq
   rw [A9 rfl,A9 A0];simp [List.getD,hx]
  ·rw [A6 hq]
   by_cases h3:q<k
   ·rw [A9 h3,A9 A0]
   ·rw [A6 h3,A6 A0]
theorem auW (Ls:List Lp) (b:Nat) (Ah:Int) (tk:List Int) {k:Nat} {x:Lp} (hx:Ls[k]?=some x) (hk:k<tk.length) (h:x.h≠(b:Int)):Kk Ls b Ah tk k=Kk Ls b Ah tk (k+1):=by
 rw [←aeA Ls b Ah tk hx hk];unfold Wv;rw [A6 h];apply KC
 ·simp
 ·intro q h1 h2
  rw [U8];by_cases hq:k=q
  ·subst hq
   rw [A9 rfl];have e:=eM Ls b Ah tk k hk;rw [A6 (Nat.lt_irrefl _)] at e;rw [←e];simp [List.getD,Ab h1]
  ·rw [A6 hq]
section
variable {n:Nat} {cd:Nat→Int} {st en:Int} {D:List Int} {L:List (Int×Int)} {s:AS} {Ls:List Lp} {Ms tk:List Int} {pc Ah:Int} {R:List Int} {hal:Bool} {b:Nat}
theorem Hd.upd (h:Hd cd D L s Ls Ms pc R false b Ah tk) (hp:(L[b]'h.at_.lt).1=pc):Po cd D L s Ls Ms pc R b (Kk Ls b Ah tk Ls.length):=by
 refine⟨h.VI rfl,by rw [qQ,h.tl],fun i=>?_,fun i x hx hbl=>?_⟩
 ·by_cases hi:i<tk.length
  ·rw [eM _ _ _ _ _ hi]
   have:=h.nn i;unfold Wv;split
   ·split
    ·split
     ·omega
     ·omega
    ·omega
   ·omega
  ·simp [List.getD,Dy (show (Kk Ls b Ah tk Ls.length).length≤i by rw [qQ];omega)]
 ·have hi:=(Bc.1 hx).1
  have e:Ls.getD i ⟨0,[],[]⟩=x:=by simp [List.getD,hx]
  rw [eM _ _ _ _ _ (by rw [h.tl];exact hi),A9 hi,e,hp,show (pc - pc).toNat=0 by omega];unfold Wv;by_cases hh:x.h=(b:Int)
  ·rw [A9 hh]
   by_cases hl:Ah∈x.la
   ·rw [A9 hl]
    exact (h.hdr i x hx hp hh hl).2
   ·rw [A6 hl]
    intro r B k S j hs;have e2:x.h.toNat=b:=by rw [hh];rfl
    rw [e2];exact Cn.enter
  ·rw [A6 hh]
   have h1:=h.oth i x hx (fun _=>hh) rfl hbl;rw [hp,show (pc - pc).toNat=0 by omega] at h1;exact h1
theorem Hd.aup (h:Hd cd D L s Ls Ms pc R false b Ah tk) (hp:(L[b]'h.at_.lt).1≠pc):Po cd D L s Ls Ms pc R b tk:=
 ⟨h.VI rfl,h.tl,h.nn,fun i x hx hbl=>h.oth i x hx (fun e=>absurd e hp) rfl hbl⟩
theorem abB {pc:Int} (h:At (AK cd) D L pc b):(Cf cd (BP (AK cd) L) b)[(pc - (L[b]'h.lt).1).toNat]?=some (AK cd pc)∧(Cf cd (BP (AK cd) L) b).length=((L[b]'h.lt).2 - (L[b]'h.lt).1).toNat:=by
 have e:(BP (AK cd) L).getD b ⟨0,0,[]⟩=⟨(L[b]'h.lt).1,(L[b]'h.lt).2,EX (AK cd) L b⟩:=by
  rw [List.getD,Lv (AK cd) L h.lt];rfl
 have h1:=h.lo;have h2:=h.hi;unfold Cf;rw [e];unfold codeFrom;constructor
 ·rw [D8,FI GD]
  simp only [YS];rw [show (L[b]'h.lt).1+((pc - (L[b]'h.lt).1).toNat:Int)=pc by omega]
 ·simp
theorem EM.aaL {I:Ins} {lk:Int} {S S':St} {dl sl DN sl':List Int} {nx:Int} (h:EM I lk S dl sl nx S' DN sl') (hh:S.hal=false) (h1:S'.hal=true):nx=S.pc∧I.op=1:=by
 cases h with
 | halt h _=>exact⟨rfl,h⟩
 | set v hw=>exact absurd (hh.symm.trans h1) AR
 | plain _=>exact absurd (hh.symm.trans h1) AR
 | br _=>exact absurd (hh.symm.trans h1) AR
 | st _ _ _=>exact absurd (hh.symm.trans h1) AR
 | PD _ _ _=>exact absurd (hh.symm.trans h1) AR
 | lock _ _ _=>exact absurd (hh.symm.trans h1) AR
 | unlock _ _=>exact absurd (hh.symm.trans h1) AR
theorem atd {a b p:Int} (h1:a≤p) (e:p=b - 1):(b - a).toNat=(p - a).toNat+1:=by omega
theorem Po.step {P:List (List Int)} (hV:Dm (BP (AK cd) L) P) (hL:blk (AK cd) st D (en - st).toNat=L) (hG:De (AK cd) st en D L) (hE:Ends (BR cd (BP (AK cd) L)) (EI (BP (AK cd) L).length) s) (FX:Fx (BP (AK cd) L).length s) (hok:∀x∈BP (AK cd) L,M6 n cd (BP (AK cd) L) x) (hwd:∀i,i<n→0≤cd i∧cd i<4294967296)
  (hK:LpK cd (BP (AK cd) L) s.reach Ls Ms) {S S':St} (h:Po cd D L s Ls Ms S.pc S.r b tk) (hl:S.r.length=16) (hw:∀k,AL (S.r.getD k 0)) {lk:Int} {dl sl DN sl':List Int} {nx:Int} (hd:∀x∈dl,AL x) (hs:∀x∈sl,AL x) (hh:S.hal=false) (hst:EM (AK cd S.pc) lk S dl sl nx S' DN sl') :
  ∃k,Hd cd D L s Ls Ms nx S'.r S'.hal k (b:Int) tk:=by
 have hat:=h.VI.at_;have hb:=hat.lt;have hgx:=Lv (AK cd) L hb;have ho:=hok _ (Bj hgx);have p1:=hat.lo;have p2:=hat.hi;have l0:0≤(L[b]).1:=ho.lo;have hbl:b<(BP (AK cd) L).length:=by rw [O8];exact hb
 obtain⟨q1,q2,q3⟩:=ho.MK S.pc.toNat GD GD;rw [show ((S.pc.toNat:Nat):Int)=S.pc by omega] at q3;have hv:CW (AK cd S.pc)=true:=by
  obtain⟨k,g1,_⟩:=UU (hwd _ q1).1 q2;exact (QJ q3).2 ⟨k,g1⟩
 obtain⟨hI,hlen⟩:=abB hat;have BK:Aa (BP (AK cd) L) b=(EX (AK cd) L b).map Int.toNat:=V8 hgx;rcases S5.step hL hG hE FX hok hwd h.VI hl hd hs hh hst with VG|⟨VG,k,hlv,hk⟩
 ·obtain⟨e1,e2⟩:=hst.aaL hh VG
  subst e1;obtain⟨_,e4⟩:=hat.halt hL hG e2;refine⟨b,hat,fun e=>absurd (VG.symm.trans e) AR,h.tl,h.nn,fun i x hx _ _ hla=>?_,fun i x _ _ e=>absurd (VG.symm.trans e) AR⟩;have h1:=hK.JG x (Bj hx) b hla;rw [BK,e4] at h1;simp at h1
 have au5:=hst;rcases hst.next hh q3 with⟨h1,_⟩|⟨_,h2,h3,h4⟩
 ·rw [VG] at h1
  cases h1
 obtain⟨s1,s2⟩:=hat.step hL hG h2 h3 h4;have hC:∀(i:Nat) (x:Lp),Ls[i]?=some x→(b:Int)∈x.bl→Ts cd (BP (AK cd) L) x (Ms.getD i 0) b ((S.pc - (L[b]).1).toNat+1) (tk.getD i 0) S'.r:=fun i x hx hxb=>
  (h.all i x hx hxb).ins hbl hxb (h.nn i) hI q3 hv hl hw hst
 obtain⟨z,hz⟩:=hV.ok;have hB:∀DK:k<L.length,(L[k]).1=nx→S.pc=(L[b]).2 - 1∧k∈Aa (BP (AK cd) L) b:=fun DK e1=>by
  have f1:=tq hG DK;rw [e1] at f1;have EB:S.pc=(L[b]).2 - 1:=Sw fun hne=>by
   obtain⟨e2,aS⟩:=s1 A0;have f2:=uJ hz hgx (pc:=nx) aS.lo aS.hi;rw [f1] at f2;obtain rfl:k=b:=FZ f2;omega
  refine⟨EB,?_⟩;obtain⟨k',_,_,f2,hm,_⟩:=s2 EB;rw [f1] at f2;obtain rfl:k=k':=FZ f2;rw [BK];exact C5.2 ⟨(k:Int),hm,by simp⟩
 have hlen':S.pc=(L[b]).2 - 1→(Cf cd (BP (AK cd) L) b).length=(S.pc - (L[b]).1).toNat+1:=fun e=>hlen.trans (atd p1 e);have hP:∀ {x:Lp} {M r:Int} {B i Sb j:Nat},X8 cd (BP (AK cd) L) x M r B i Sb j→S.pc=(L[b]).2 - 1→(b=B→i<(S.pc - (L[b]).1).toNat+1)∧(b=Sb→j<(S.pc - (L[b]).1).toNat+1):=fun hs EB=>by
  obtain⟨y,y1,_⟩:=hs.chk;have y2:=hs.Z9;constructor
  ·intro e
   rw [←e] at y1;have h9:=(Bc.1 y1).1;rw [hlen' EB] at h9;exact h9
  ·intro e
   rw [←e] at y2;have h9:=(Bc.1 y2).1;rw [hlen' EB] at h9;exact h9
 rw [VG];refine⟨k,hlv.at_,fun _=>hlv,h.tl,h.nn,?_,?_⟩
 ·rcases hk with⟨rfl,e1,e2⟩|⟨DK,e1,_⟩
  ·intro i x hx e3
   omega
  ·intro i x hx _ FT hla
   obtain⟨EB,hm⟩:=hB DK e1;have e2:x.h.toNat=k:=by rw [FT];rfl
   have key:∀(r:Int) (B i' Sb j:Nat),X8 cd (BP (AK cd) L) x (Ms.getD i 0) r B i' Sb j→Cn (Aa (BP (AK cd) L)) (fun b:Nat=>(b:Int)∈x.bl) x.h.toNat B i' Sb j (Ms.getD i 0) k 0 (tk.getD i 0+1) (S'.r.getD r.toNat 0)∧tk.getD i 0+1≤Ms.getD i 0:=fun r B i' Sb j hs=>by
    obtain⟨g1,g2⟩:=hP hs EB;have:=Cn.back (h.nn i) hs.hb hs.hs (hC i x hx (hs.hb.lin b hla) r B i' Sb j hs) hla g1 g2;rw [e2] at this ⊢;exact this
   refine⟨?_,fun r B i' Sb j hs=>(key r B i' Sb j hs).1⟩;rcases hK.sit i x hx with h5|⟨r,B,i',Sb,j,hs⟩
   ·rw [e2] at h5
    have:=hlv.rc;rw [h5] at this;cases this
   ·exact (key r B i' Sb j hs).2
 ·rcases hk with⟨rfl,e1,e2⟩|⟨DK,e1,_⟩
  ·intro i x hx _ _ hxb
   have:=hC i x hx hxb;rw [show (nx - (L[k]).1).toNat=(S.pc - (L[k]).1).toNat+1 by omega];exact this
  ·intro i x hx FT _ hxb
   obtain⟨EB,hm⟩:=hB DK e1;rw [e1,show (nx - nx).toNat=0 by omega];intro r B i' Sb j hs;obtain⟨g1,g2⟩:=hP hs EB;have hne:k≠x.h.toNat:=fun e=>FT e1 (by have:=hs.h0;omega);have hbb:=hs.ent b k hxb hne hbl hm;exact Cn.move hs.hb hs.hs (hC i x hx hbb r B i' Sb j hs) hbb hxb hm hne g1 g2
theorem Hd.start (hL:blk (AK cd) st D (en - st).toNat=L) (hG:De (AK cd) st en D L) (hst:st∈D) (FX:Fx (BP (AK cd) L).length s) (hK:LpK cd (BP (AK cd) L) s.reach Ls Ms):Hd cd D L s Ls Ms st (List.replicate 16 0) false 0 (-1) (List.replicate Ls.length 0):=by
 have Um:0<L.length:=by
  subst hL;obtain⟨q,hq,_⟩:=hG.b.num st (EJ _) (by have:=hG.lt;omega) hst (eA _ st D);exact List.length_pos_of_mem hq
 have XF:=hG.first hst Um;have hat:At (AK cd) D L st 0:=⟨Um,by rw [XF];exact EJ _,by have:=hG.b.lo _ (CQ Um);omega,hst⟩;have h0:∀i,(List.replicate Ls.length (0:Int)).getD i 0=0:=fun i=>by
  by_cases hi:i<Ls.length
  ·simp [List.getD,hi]
  ·simp [List.getD,Dy (show (List.replicate Ls.length (0:Int)).length≤i by simp;omega)]
 refine⟨hat,fun _=>⟨hat,FX.r0,s.AG.getD 0 [],?_,FX.c0⟩,by simp,fun i=>by rw [h0];exact EJ _,fun i x hx _ _ hla=>?_,fun i x hx FT _ hxb=>?_⟩
 ·rw [XF,show (st - st).toNat=0 by omega]
  rfl
 ·have:=hK.ln x (Bj hx) _ hla
  omega
 ·exact absurd (hK.z x (Bj hx) hxb) (FT XF)
end
end
end Go.Proofs.YtlmgkipmfgijiaaGreatDoor
